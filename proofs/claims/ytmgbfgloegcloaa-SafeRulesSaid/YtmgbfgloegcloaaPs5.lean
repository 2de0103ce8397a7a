import Derived.Test.YtmgbfgloegcloaaZip
import Derived.Test.YtmgbfgloegcloaaPsD
import Derived.Test.YtmgbfgloegcloaaPs2
import Derived.Test.YtmgbfgloegcloaaPs4
namespace Go.Proofs.Ytmgbfgloegcloaa.Ps
open Go.RowKit Go.Proofs.YtmgbfgloegcloaaW.PrintWords Go.Proofs.YtmgbfgloegcloaaW.PrintLast Go.Proofs.YtmgbfgloegcloaaW.PrintMore
attribute [local go_sem] yD yB yR yQ ym yl yC yA
set_option linter.unusedVariables false
set_option linter.unusedSimpArgs false
set_option maxHeartbeats 8000000 in
set_option maxRecDepth 100000 in
theorem qb.calls (k : Nat) (a0_0 : Int) (a0_1 : ByteArray) (A0_2 : Option Addr) (c0_2 : Nat) (l0_2 : List (S40)) (a0_3 : ByteArray) (a0_4 : ByteArray) (a0_5 : Int) (a0_6 : Int) (a0_7 : ByteArray) (a0_8 : ByteArray) (a0_9 : Int) (a0_10 : Int) (a0_11 : ByteArray) (a0_12 : ByteArray) (a0_13 : Int) (a0_14 : Int) (a0_15 : ByteArray) (A0_16 : Option Addr) (c0_16 : Nat) (l0_16 : List (S82)) (A1 : Option Addr) (c1 : Nat) (l1 : List ByteArray) (r : List ByteArray) (w : World) (hr0_2 : Kd.C k40 w A0_2 l0_2.length l0_2) (hc0_2 : l0_2.length ≤ c0_2) (hr0_16 : Kd.C k82 w A0_16 l0_16.length l0_16) (hc0_16 : l0_16.length ≤ c0_16) (hr1 : Kd.C Kd.string w A1 l1.length l1) (hc1 : l1.length ≤ c1) (h : qb.f k a0_0 a0_1 l0_2 a0_3 a0_4 a0_5 a0_6 a0_7 a0_8 a0_9 a0_10 a0_11 a0_12 a0_13 a0_14 a0_15 l0_16 l1 = some r) :
  Calls Try.prog 16 #[.agg #[.int .i64 a0_0, .string a0_1, .slice A0_2 l0_2.length c0_2, .string a0_3, .string a0_4, .int .i64 a0_5, .int .i64 a0_6, .string a0_7, .string a0_8, .int .i64 a0_9, .int .i64 a0_10, .string a0_11, .string a0_12, .int .i64 a0_13, .int .i64 a0_14, .string a0_15, .slice A0_16 l0_16.length c0_16], .slice A1 l1.length c1] w fun e w' => ∃ v0_ : Value, e = .returned (v0_) ∧ Kd.R Kd.string 9 w' w.heap.size (fun _ => True) v0_ r ∧ Below w.heap.size w w' := by
 have hu43 := Try.underlying43
 have HR0_2 := zb.mk hr0_2
 have HC0_2 := zb.mk hc0_2
 clear hr0_2 hc0_2
 have HR0_16 := zb.mk hr0_16
 have HC0_16 := zb.mk hc0_16
 clear hr0_16 hc0_16
 have HR1 := zb.mk hr1
 have HC1 := zb.mk hc1
 clear hr1 hc1
 have HB := zb.mk (Below.refl w.heap.size w)
 have H : ((qm.f k a0_0 a0_1 l0_2 a0_3 a0_4 a0_5 a0_6 a0_7 a0_8 a0_9 a0_10 a0_11 a0_12 a0_13 a0_14 a0_15 l0_16).bind fun t132 => ((zZ.f k t132 l1).bind fun t135 => (some t135))) = some r := h
 clear h
 replace H := Option.bind_eq_some_iff.mp H
 obtain ⟨t132, A30, H⟩ := H
 replace H : ((zZ.f k t132 l1).bind fun t135 => (some t135)) = some r := H
 have A3 := zb.mk A30
 clear A30
 replace H := Option.bind_eq_some_iff.mp H
 obtain ⟨t135, A40, H⟩ := H
 replace H : (some t135) = some r := H
 have A4 := zb.mk A40
 clear A40
 obtain rfl := Option.some.inj H
 go_enter Try.func16, Try.ntmps16
 go_wp2_with (first | ((with_reducible refine zQ (N := 2) rfl ?_); refine zM ?hg (N := 2) ?hd (cs := #[.int .i64 a0_0, .string a0_1, .slice A0_2 l0_2.length c0_2, .string a0_3, .string a0_4, .int .i64 a0_5, .int .i64 a0_6, .string a0_7, .string a0_8, .int .i64 a0_9, .int .i64 a0_10, .string a0_11, .string a0_12, .int .i64 a0_13, .int .i64 a0_14, .string a0_15, .slice A0_16 l0_16.length c0_16]) (t := 43) ?hr ?_; (case hd => rfl); (case hg => rfl); (case hr => first | (go_simp; done) | (go_simp; rfl)); intro gb131 hg w5 hbox hb; have n0_ := zb.mk (zn (ub HB.out) hb); have n1_ := zb.mk (hbox); have n2_ := zb.mk ((by rw [hg]; exact (zi (ub HB.out)) : w.heap.size ≤ gb131)); have n3_ := zb.mk ((by rw [hg]; exact (zi (ub HB.out)) : w.heap.size ≤ gb131)); clear HB; have HB := n0_; have BK131 := n1_; have GW131 := n2_; have GE131 := n3_; clear n0_ n1_ n2_ n3_; clear hb hbox hg; obtain ⟨hcz6_0, hcz6_1, hcz6_2, hcz6_3, hcz6_4, hcz6_5, hcz6_6, hcz6_7, hcz6_8, hcz6_9, hcz6_10, hcz6_11, hcz6_12, hcz6_13, hcz6_14, hcz6_15, hcz6_16⟩ := blk17 BK131.out; obtain ⟨hfz6_0, hfz6_1, hfz6_2, hfz6_3, hfz6_4, hfz6_5, hfz6_6, hfz6_7, hfz6_8, hfz6_9, hfz6_10, hfz6_11, hfz6_12, hfz6_13, hfz6_14, hfz6_15, hfz6_16⟩ := frz17 BK131.out) | ((with_reducible refine zP (f := 30) rfl ?_); refine yH (some 6) rfl rfl Try.func30 (by kernel_rfl) rfl #[.agg #[.int .i64 a0_0, .string a0_1, .slice A0_2 l0_2.length c0_2, .string a0_3, .string a0_4, .int .i64 a0_5, .int .i64 a0_6, .string a0_7, .string a0_8, .int .i64 a0_9, .int .i64 a0_10, .string a0_11, .string a0_12, .int .i64 a0_13, .int .i64 a0_14, .string a0_15, .slice A0_16 l0_16.length c0_16]] rfl (by (try simp only [List.map_toArray, List.map_cons, List.map_nil]); first | done | rfl | (simp only [List.length_drop, List.length_take]; rfl)) ?_; (with_reducible refine (qm.calls k a0_0 a0_1 (fun k_ => k_ < w.heap.size) _ _ l0_2 a0_3 a0_4 a0_5 a0_6 a0_7 a0_8 a0_9 a0_10 a0_11 a0_12 a0_13 a0_14 a0_15 _ _ l0_16 t132 _ ?side1 ?side2 ?side3 A3.out).mono ?_); (case side1 => exact Kd.V_mk HC0_2.out (Kd.qI (Kd.C_F k40_heap HR0_2.out) (by repeat (first | exact ub HB.out | apply zd | apply zc | apply ze | refine zh ?_ ‹_›)))); (case side2 => exact uc (Kd.zL HR0_16.out HB.out)); (case side3 => exact HC0_16.out); rintro e w7 ⟨v133, rfl, ho0, hb⟩; refine ⟨_, rfl, ?_⟩; have n0_ := zb.mk (Kd.yr (Kd.yt (ok' := fun k_ => True) ho0 (fun _ hk_ => trivial)) (zi (by repeat (first | exact ub HB.out | apply zd | apply zc | apply ze | refine zh ?_ ‹_›)))); have n1_ := zb.mk (zo (ul BK131.out) hb); have n2_ := zb.mk (zn (by repeat (first | exact ub HB.out | apply zd | apply zc | apply ze | refine zh ?_ ‹_›)) hb); clear BK131; clear HB; have HO134 := n0_; have BK131 := n1_; have HB := n2_; clear n0_ n1_ n2_; (try clear hb); (try clear hb2); (try clear hk); (try clear hi); (try clear ho0); obtain ⟨Ao8, co8, eo8⟩ := Kd.yx HO134.out; subst eo8) | ((with_reducible refine zP (f := 27) rfl ?_); refine yH (some 8) rfl rfl Try.func27 (by kernel_rfl) rfl #[.slice Ao8 t132.length co8, .slice A1 l1.length c1] rfl (by (try simp only [List.map_toArray, List.map_cons, List.map_nil]); first | done | rfl | (simp only [List.length_drop, List.length_take]; rfl)) ?_; (with_reducible refine (zZ.calls k _ _ t132 _ _ l1 t135 _ ?side1 ?side2 ?side3 ?side4 A4.out).mono ?_); (case side1 => repeat (first | exact (Kd.zU HO134.out).2.2 | (with_reducible refine Kd.yw ?_ _) | (with_reducible refine Kd.yv ?_ _) | (with_reducible refine Kd.yP ?_))); (case side2 => exact (Kd.zU HO134.out).2.1); (case side3 => exact uc (Kd.zL HR1.out HB.out)); (case side4 => exact HC1.out); rintro e w9 ⟨v136, rfl, ho0, hb⟩; refine ⟨_, rfl, ?_⟩; have n0_ := zb.mk (Kd.yb (ur HO134.out) hb); have n1_ := zb.mk (Kd.yr ho0 (zi (by repeat (first | exact ub HB.out | apply zd | apply zc | apply ze | refine zh ?_ ‹_›)))); have n2_ := zb.mk (zo (ul BK131.out) hb); have n3_ := zb.mk (zn (by repeat (first | exact ub HB.out | apply zd | apply zc | apply ze | refine zh ?_ ‹_›)) hb); clear HO134; clear BK131; clear HB; have HO134 := n0_; have HO137 := n1_; have BK131 := n2_; have HB := n3_; clear n0_ n1_ n2_ n3_; (try clear hb); (try clear hb2); (try clear hk); (try clear hi); (try clear ho0)))
 go_ret
 exact ⟨_, by first | rfl | (simp [zA, zz] <;> rfl) | (simp [*, zA, zz] <;> rfl), by (with_reducible repeat (first | apply Kd.qA | apply Kd.qz | apply Kd.R_drew)); exact HO137.out, by repeat (first | exact ub HB.out | apply zd | apply zc | apply ze | refine zh ?_ ‹_›)⟩
end Go.Proofs.Ytmgbfgloegcloaa.Ps
