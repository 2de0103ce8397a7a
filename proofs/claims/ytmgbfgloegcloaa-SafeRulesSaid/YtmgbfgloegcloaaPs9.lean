import Derived.Test.YtmgbfgloegcloaaZip
import Derived.Test.YtmgbfgloegcloaaPsD
import Derived.Test.YtmgbfgloegcloaaPs6
import Derived.Test.YtmgbfgloegcloaaGheads
namespace Go.Proofs.Ytmgbfgloegcloaa.Ps
open Go.RowKit Go.Proofs.YtmgbfgloegcloaaW.PrintWords Go.Proofs.YtmgbfgloegcloaaW.PrintLast Go.Proofs.YtmgbfgloegcloaaW.PrintMore
attribute [local go_sem] yD yB yR yQ ym yl yC yA
set_option linter.unusedVariables false
set_option linter.unusedSimpArgs false
def zW.T10 : Bool × List (List Nat × List Nat) := (true, [([], []), ([0], [0]), ([], []), ([2], [2]), ([], []), ([3, 4], [3, 4]), ([5], [5]), ([6], [6]), ([1, 7], [1, 7]), ([0, 1, 2, 3, 4, 5, 6, 7, 8], []), ([9, 8, 8, 0, 1, 2, 3, 4, 5, 6, 7, 8], [8, 9])])
def zW.B10 : List Nat := [0, 1, 0, 4, 0, 28, 60, 124, 255, 511, 1023]
theorem zW.tab10 : rtab .any (opsOf Try.f20 10) = zW.T10 := by kernel_rfl
theorem zW.bits10 : waitsOk zW.T10.2 zW.B10 = true := by kernel_rfl
set_option maxHeartbeats 8000000 in
set_option maxRecDepth 100000 in
theorem zW.calls (k : Nat) (a0_0 : ByteArray) (P0_1_ : Nat → Prop) (A0_1 : Option Addr) (c0_1 : Nat) (l0_1 : List (S40)) (a0_2 : Int) (P0_3_ : Nat → Prop) (A0_3 : Option Addr) (c0_3 : Nat) (l0_3 : List (S43)) (r1 : ByteArray) (r2 : List (S40)) (r3 : Int) (r4 : List (S43)) (r5 : Int) (w : World) (hs0_1 : Kd.V k40 40 w w.heap.size (fun k_ => P0_1_ k_) (.slice A0_1 l0_1.length c0_1) l0_1) (hs0_3 : Kd.V k43 43 w w.heap.size (fun k_ => P0_3_ k_) (.slice A0_3 l0_3.length c0_3) l0_3) (h : zW.f k a0_0 l0_1 a0_2 l0_3 = some (r1, r2, r3, r4, r5)) :
  Calls Try.prog 20 #[.agg #[.string a0_0, .slice A0_1 l0_1.length c0_1, .int .i64 a0_2, .slice A0_3 l0_3.length c0_3]] w fun e w' => ∃ v1_ v3_ : Value, e = .returned (.tuple #[.agg #[.string r1, v1_, .int .i64 r3, v3_], .int .i64 r5]) ∧ Kd.V k40 40 w' w.heap.size (fun k_ => ((P0_1_ k_ ∨ P0_3_ k_) ∨ w.heap.size ≤ k_) ∧ some k_ ≠ (v3_ : Value).ownBlock) v1_ r2 ∧ Kd.N k43 43 w' w.heap.size (fun k_ => ((P0_1_ k_ ∨ P0_3_ k_) ∨ w.heap.size ≤ k_)) v3_ r4 ∧ Below w.heap.size w w' := by
 have hu51 := Try.underlying51
 have hu36 := Try.underlying36
 have hu43 := Try.underlying43
 have HO0_1 := zb.mk (show Kd.V k40 40 w w.heap.size (fun k_ => ((P0_1_ k_ ∨ P0_3_ k_) ∨ w.heap.size ≤ k_)) (.slice A0_1 l0_1.length c0_1) l0_1 from Kd.zy hs0_1 (fun k_ hk => .inl (.inl hk)))
 have HO0_3 := zb.mk (show Kd.V k43 43 w w.heap.size (fun k_ => ((P0_1_ k_ ∨ P0_3_ k_) ∨ w.heap.size ≤ k_)) (.slice A0_3 l0_3.length c0_3) l0_3 from Kd.zy hs0_3 (fun k_ hk => .inl (.inr hk)))
 have HB := zb.mk (Below.refl w.heap.size w)
 have H : ((zJ.f k l0_3 ([] : List ByteArray)).bind fun bt166 => (if bt166.2.2 = 0 then ((qj.f l0_1 bt166.2.1).bind fun t173 => (if t173 = true then (some ((⟨#[]⟩ : ByteArray), ([] : List (S40)), 0, ([] : List (S43)), 7)) else (zW.l0 k bt166.1 (bt166.1.length : Int) 0 a0_0 l0_1 a0_2 l0_3 a0_0 l0_1 a0_2 ([] : List (S43))))) else (some ((⟨#[]⟩ : ByteArray), ([] : List (S40)), 0, ([] : List (S43)), bt166.2.2)))) = some (r1, r2, r3, r4, r5) := h
 clear h
 replace H := Option.bind_eq_some_iff.mp H
 obtain ⟨⟨t166, t167, t168⟩, A20, H⟩ := H
 replace H : (if t168 = 0 then ((qj.f l0_1 t167).bind fun t173 => (if t173 = true then (some ((⟨#[]⟩ : ByteArray), ([] : List (S40)), 0, ([] : List (S43)), 7)) else (zW.l0 k t166 (t166.length : Int) 0 a0_0 l0_1 a0_2 l0_3 a0_0 l0_1 a0_2 ([] : List (S43))))) else (some ((⟨#[]⟩ : ByteArray), ([] : List (S40)), 0, ([] : List (S43)), t168))) = some (r1, r2, r3, r4, r5) := H
 have A2 := zb.mk A20
 clear A20
 by_cases c3 : t168 = 0
 ·rw [if_pos c3] at H
  have c3b0 : (t168 == 0) = true := beq_iff_eq.mpr c3
  have c3b1 : (t168 != 0) = false := bne_eq_false_iff_eq.mpr c3
  clear c3
  replace H := Option.bind_eq_some_iff.mp H
  obtain ⟨t173, A40, H⟩ := H
  replace H : (if t173 = true then (some ((⟨#[]⟩ : ByteArray), ([] : List (S40)), 0, ([] : List (S43)), 7)) else (zW.l0 k t166 (t166.length : Int) 0 a0_0 l0_1 a0_2 l0_3 a0_0 l0_1 a0_2 ([] : List (S43)))) = some (r1, r2, r3, r4, r5) := H
  have A4 := zb.mk A40
  clear A40
  by_cases c5 : t173 = true
  ·subst c5
   have H1 : (some ((⟨#[]⟩ : ByteArray), ([] : List (S40)), 0, ([] : List (S43)), 7)) = some (r1, r2, r3, r4, r5) := by rw [if_pos rfl] at H; exact H
   clear H
   have H := H1
   clear H1
   simp only [Option.some.injEq, Prod.mk.injEq] at H
   obtain ⟨rfl, rfl, rfl, rfl, rfl⟩ := H
   go_enter Try.func20, Try.ntmps20
   go_wp2_with (first | ((with_reducible refine zQ (N := 1) rfl ?_); refine zM ?hg (N := 1) ?hd (cs := #[.string a0_0, .slice A0_1 l0_1.length c0_1, .int .i64 a0_2, .slice A0_3 l0_3.length c0_3]) (t := 51) ?hr ?_; (case hd => rfl); (case hg => rfl); (case hr => first | (go_simp; done) | (go_simp; rfl)); intro gb164 hg w6 hbox hb; have n0_ := zb.mk (Kd.zN (Kd.zI (uv HO0_1.out) gb164 (Nat.le_of_eq hg.symm)) hb); have n1_ := zb.mk (Kd.zN (Kd.zI (uv HO0_3.out) gb164 (Nat.le_of_eq hg.symm)) hb); have n2_ := zb.mk (zn (ub HB.out) hb); have n3_ := zb.mk (hbox); have n4_ := zb.mk ((by rw [hg]; exact (zi (ub HB.out)) : w.heap.size ≤ gb164)); have n5_ := zb.mk ((by rw [hg]; exact (zi (ub HB.out)) : w.heap.size ≤ gb164)); clear HO0_1; clear HO0_3; clear HB; have HO0_1 := n0_; have HO0_3 := n1_; have HB := n2_; have BK164 := n3_; have GW164 := n4_; have GE164 := n5_; clear n0_ n1_ n2_ n3_ n4_ n5_; clear hb hbox hg) | ((with_reducible refine zQ (N := 2) rfl ?_); refine zM ?hg (N := 2) ?hd (cs := #[.string (⟨#[]⟩ : ByteArray), .slice none 0 0, .int .i64 0, .slice none 0 0]) (t := 51) ?hr ?_; (case hd => rfl); (case hg => rfl); (case hr => first | (go_simp; done) | (go_simp; rfl)); intro gb165 hg w7 hbox hb; have n0_ := zb.mk (Kd.zN (Kd.zI (uv HO0_1.out) gb165 (Nat.le_of_eq hg.symm)) hb); have n1_ := zb.mk (Kd.zN (Kd.zI (uv HO0_3.out) gb165 (Nat.le_of_eq hg.symm)) hb); have n2_ := zb.mk (zo (ul BK164.out) hb); have n3_ := zb.mk (zn (by repeat (with_reducible first | refine zh ?_ ‹_› | exact HB.out | apply zd | apply zc | apply ze)) hb); have n4_ := zb.mk (hbox); have n5_ := zb.mk ((by rw [hg]; exact (zi (by repeat (with_reducible first | refine zh ?_ ‹_› | exact HB.out | apply zd | apply zc | apply ze))) : w.heap.size ≤ gb165)); have n6_ := zb.mk ((by rw [hg]; exact (zi (by repeat (with_reducible first | refine zh ?_ ‹_› | exact HB.out | apply zd | apply zc | apply ze))) : w.heap.size ≤ gb165)); have n7_ := zb.mk ((by rw [hg]; exact Nat.ne_of_lt (zO (ul BK164.out)) : gb164 ≠ gb165)); have n8_ := zb.mk ((by rw [hg]; exact Nat.ne_of_gt (zO (ul BK164.out)) : gb165 ≠ gb164)); clear HO0_1; clear HO0_3; clear BK164; clear HB; have HO0_1 := n0_; have HO0_3 := n1_; have BK164 := n2_; have HB := n3_; have BK165 := n4_; have GW165 := n5_; have GE165 := n6_; have NB164_165 := n7_; have NB165_164 := n8_; clear n0_ n1_ n2_ n3_ n4_ n5_ n6_ n7_ n8_; clear hb hbox hg; have hnb8 := NB164_165.out; have hnc8 := NB165_164.out; obtain ⟨hcz9_0, hcz9_1, hcz9_2, hcz9_3⟩ := blk4 BK164.out; obtain ⟨hfz9_0, hfz9_1, hfz9_2, hfz9_3⟩ := frz4 BK164.out) | ((with_reducible refine zP (f := 11) rfl ?_); refine yH (some 13) rfl rfl Try.func11 (by kernel_rfl) rfl #[.slice A0_3 l0_3.length c0_3, .slice none 0 0] rfl (by (try simp only [List.map_toArray, List.map_cons, List.map_nil]); first | done | rfl | (simp only [List.length_drop, List.length_take]; rfl)) ?_; (refine (zJ.calls k _ _ l0_3 _ _ ([] : List ByteArray) t166 t167 t168 _ ?side1 ?side2 ?side3 ?side4 A2.out).mono ?_); (case side1 => repeat (first | exact (Kd.ya HO0_3.out).2.2 | (with_reducible refine Kd.yw ?_ _) | (with_reducible refine Kd.yv ?_ _) | (with_reducible refine Kd.yP ?_))); (case side2 => exact (Kd.ya HO0_3.out).2.1); (case side3 => exact Kd.C_nil _ _); (case side4 => exact Nat.le_refl _); rintro e w10 ⟨v169, v171, rfl, ho0, ho1, hb⟩; refine ⟨_, rfl, ?_⟩; have n0_ := zb.mk (Kd.zy (Kd.qD (Kd.qD (Kd.V_old (uv HO0_1.out) hb) (Kd.yI ho0)) (Kd.yI ho1)) (fun _ h_ => h_.1)); have n1_ := zb.mk (Kd.zy (Kd.qD (Kd.qD (Kd.V_old (uv HO0_3.out) hb) (Kd.yI ho0)) (Kd.yI ho1)) (fun _ h_ => h_.1)); have n2_ := zb.mk (Kd.yr (Kd.R_newM (M := fun k_ => (w.heap.size ≤ k_)) ho0 (zi (by repeat (with_reducible first | refine zh ?_ ‹_› | exact HB.out | apply zd | apply zc | apply ze))) (fun k_ h_ => h_)) (zi (by repeat (with_reducible first | refine zh ?_ ‹_› | exact HB.out | apply zd | apply zc | apply ze)))); have n3_ := zb.mk (Kd.yr (Kd.R_newM (M := fun k_ => (w.heap.size ≤ k_)) ho1 (zi (by repeat (with_reducible first | refine zh ?_ ‹_› | exact HB.out | apply zd | apply zc | apply ze))) (fun k_ h_ => h_)) (zi (by repeat (with_reducible first | refine zh ?_ ‹_› | exact HB.out | apply zd | apply zc | apply ze)))); have n4_ := zb.mk (zo (ul BK164.out) hb); have n5_ := zb.mk (zo (ul BK165.out) hb); have n6_ := zb.mk (zn (by repeat (with_reducible first | refine zh ?_ ‹_› | exact HB.out | apply zd | apply zc | apply ze)) hb); clear HO0_1; clear HO0_3; clear BK164; clear BK165; clear HB; have HO0_1 := n0_; have HO0_3 := n1_; have HO170 := n2_; have HO172 := n3_; have BK164 := n4_; have BK165 := n5_; have HB := n6_; clear n0_ n1_ n2_ n3_ n4_ n5_ n6_; (try clear hb); (try clear hb2); (try clear hk); (try clear hi); (try clear ho0); (try clear ho1); have hcz11_0 : w10.cell? ⟨gb164, 0, none⟩ = some (.string a0_0) := (zf BK164.out 0).trans rfl; have hcy11_0_164 : ∀ o_, (w10.alloc o_).cell? ⟨gb164, 0, none⟩ = some (.string a0_0) := fun o_ => (zf (zw BK164.out o_) 0).trans rfl; have hfy11_0_164 := fun o_ => zX (zw BK164.out o_) 0; have hcz11_1 : w10.cell? ⟨gb164, 1, none⟩ = some (.slice A0_1 l0_1.length c0_1) := (zf BK164.out 1).trans rfl; have hcy11_1_164 : ∀ o_, (w10.alloc o_).cell? ⟨gb164, 1, none⟩ = some (.slice A0_1 l0_1.length c0_1) := fun o_ => (zf (zw BK164.out o_) 1).trans rfl; have hfy11_1_164 := fun o_ => zX (zw BK164.out o_) 1; have hcz11_2 : w10.cell? ⟨gb164, 2, none⟩ = some (.int .i64 a0_2) := (zf BK164.out 2).trans rfl; have hcy11_2_164 : ∀ o_, (w10.alloc o_).cell? ⟨gb164, 2, none⟩ = some (.int .i64 a0_2) := fun o_ => (zf (zw BK164.out o_) 2).trans rfl; have hfy11_2_164 := fun o_ => zX (zw BK164.out o_) 2; have hcz11_3 : w10.cell? ⟨gb164, 3, none⟩ = some (.slice A0_3 l0_3.length c0_3) := (zf BK164.out 3).trans rfl; have hcy11_3_164 : ∀ o_, (w10.alloc o_).cell? ⟨gb164, 3, none⟩ = some (.slice A0_3 l0_3.length c0_3) := fun o_ => (zf (zw BK164.out o_) 3).trans rfl; have hfy11_3_164 := fun o_ => zX (zw BK164.out o_) 3; obtain ⟨hfz11_0, hfz11_1, hfz11_2, hfz11_3⟩ := frz4 BK164.out; obtain ⟨Ao12, co12, eo12⟩ := Kd.yx HO172.out; subst eo12) | (go_at_call 33; (refine (qj.calls _ _ l0_1 Ao12 co12 t167 true _ ?side0 ?side1 ?side2 ?side3 ?side4 A4.out).mono ?_); (case side0 => first | (simp [go_sem]; done) | (go_simp; done)); (case side1 => repeat (first | exact (Kd.ya HO0_1.out).2.2 | (with_reducible refine Kd.yw ?_ _) | (with_reducible refine Kd.yv ?_ _) | (with_reducible refine Kd.yP ?_))); (case side2 => exact (Kd.ya HO0_1.out).2.1); (case side3 => repeat (first | exact (Kd.zU HO172.out).2.2 | (with_reducible refine Kd.yw ?_ _) | (with_reducible refine Kd.yv ?_ _) | (with_reducible refine Kd.yP ?_))); (case side4 => exact (Kd.zU HO172.out).2.1); rintro e w13 ⟨rfl, hb⟩; have n0_ := zb.mk (Kd.zN (uv HO0_1.out) hb); have n1_ := zb.mk (Kd.zN (uv HO0_3.out) hb); have n2_ := zb.mk (Kd.yb (ur HO170.out) hb); have n3_ := zb.mk (Kd.yb (ur HO172.out) hb); have n4_ := zb.mk (zo (ul BK164.out) hb); have n5_ := zb.mk (zo (ul BK165.out) hb); have n6_ := zb.mk (zn (by repeat (with_reducible first | refine zh ?_ ‹_› | exact HB.out | apply zd | apply zc | apply ze)) hb); clear HO0_1; clear HO0_3; clear HO170; clear HO172; clear BK164; clear BK165; clear HB; have HO0_1 := n0_; have HO0_3 := n1_; have HO170 := n2_; have HO172 := n3_; have BK164 := n4_; have BK165 := n5_; have HB := n6_; clear n0_ n1_ n2_ n3_ n4_ n5_ n6_; (try clear hb); (try clear hb2); (try clear hk); (try clear hi); obtain ⟨hcz14_0, hcz14_1, hcz14_2, hcz14_3⟩ := blk4 BK165.out; obtain ⟨hfz14_0, hfz14_1, hfz14_2, hfz14_3⟩ := frz4 BK165.out))
   refine bodyPost_ret (qn rfl _ _ gb165 51 #[.string (⟨#[]⟩ : ByteArray), .slice none 0 0, .int .i64 0, .slice none 0 0] (0, 0) _ rfl (by (with_reducible repeat (first | refine zC ?_ _ | refine zD ?_ | refine zw ?_ _)); exact zB (zB (zB (zB (ul BK165.out) 0 _ rfl) 1 _ rfl) 2 _ rfl) 3 _ rfl) Try.underlying51 rfl (by kernel_rfl)) rfl ?_
   exact ⟨_, _, by first | rfl | (simp [zA, zz] <;> rfl) | (simp [*, zA, zz] <;> rfl), Kd.V_nil _ _ _ _ _, by first | exact Kd.S_nil _ _ _ _ _ | exact Kd.N_nil _ _ _ _ _ | exact Kd.V_nil _ _ _ _ _ | exact Kd.Q_nil _ _ _ _ _ | exact Kd.R_nil _ _ _ _ _, by repeat (with_reducible first | refine zh ?_ ‹_› | exact HB.out | apply zd | apply zc | apply ze)⟩
  ·replace c5 := Bool.eq_false_iff.mpr c5
   subst c5
   have H1 : (zW.l0 k t166 (t166.length : Int) 0 a0_0 l0_1 a0_2 l0_3 a0_0 l0_1 a0_2 ([] : List (S43))) = some (r1, r2, r3, r4, r5) := by rw [if_neg (show ¬ (false = true) by decide)] at H; exact H
   clear H
   have H := H1
   clear H1
   have H' := zb.mk H
   clear H
   go_enter Try.func20, Try.ntmps20
   go_wp2_with (first | ((with_reducible refine zQ (N := 1) rfl ?_); refine zM ?hg (N := 1) ?hd (cs := #[.string a0_0, .slice A0_1 l0_1.length c0_1, .int .i64 a0_2, .slice A0_3 l0_3.length c0_3]) (t := 51) ?hr ?_; (case hd => rfl); (case hg => rfl); (case hr => first | (go_simp; done) | (go_simp; rfl)); intro gb164 hg w15 hbox hb; have n0_ := zb.mk (Kd.zN (Kd.zI (uv HO0_1.out) gb164 (Nat.le_of_eq hg.symm)) hb); have n1_ := zb.mk (Kd.zN (Kd.zI (uv HO0_3.out) gb164 (Nat.le_of_eq hg.symm)) hb); have n2_ := zb.mk (zn (ub HB.out) hb); have n3_ := zb.mk (hbox); have n4_ := zb.mk ((by rw [hg]; exact (zi (ub HB.out)) : w.heap.size ≤ gb164)); have n5_ := zb.mk ((by rw [hg]; exact (zi (ub HB.out)) : w.heap.size ≤ gb164)); clear HO0_1; clear HO0_3; clear HB; have HO0_1 := n0_; have HO0_3 := n1_; have HB := n2_; have BK164 := n3_; have GW164 := n4_; have GE164 := n5_; clear n0_ n1_ n2_ n3_ n4_ n5_; clear hb hbox hg) | ((with_reducible refine zQ (N := 2) rfl ?_); refine zM ?hg (N := 2) ?hd (cs := #[.string (⟨#[]⟩ : ByteArray), .slice none 0 0, .int .i64 0, .slice none 0 0]) (t := 51) ?hr ?_; (case hd => rfl); (case hg => rfl); (case hr => first | (go_simp; done) | (go_simp; rfl)); intro gb165 hg w16 hbox hb; have n0_ := zb.mk (Kd.zN (Kd.zI (uv HO0_1.out) gb165 (Nat.le_of_eq hg.symm)) hb); have n1_ := zb.mk (Kd.zN (Kd.zI (uv HO0_3.out) gb165 (Nat.le_of_eq hg.symm)) hb); have n2_ := zb.mk (zo (ul BK164.out) hb); have n3_ := zb.mk (zn (by repeat (with_reducible first | refine zh ?_ ‹_› | exact HB.out | apply zd | apply zc | apply ze)) hb); have n4_ := zb.mk (hbox); have n5_ := zb.mk ((by rw [hg]; exact (zi (by repeat (with_reducible first | refine zh ?_ ‹_› | exact HB.out | apply zd | apply zc | apply ze))) : w.heap.size ≤ gb165)); have n6_ := zb.mk ((by rw [hg]; exact (zi (by repeat (with_reducible first | refine zh ?_ ‹_› | exact HB.out | apply zd | apply zc | apply ze))) : w.heap.size ≤ gb165)); have n7_ := zb.mk ((by rw [hg]; exact Nat.ne_of_lt (zO (ul BK164.out)) : gb164 ≠ gb165)); have n8_ := zb.mk ((by rw [hg]; exact Nat.ne_of_gt (zO (ul BK164.out)) : gb165 ≠ gb164)); clear HO0_1; clear HO0_3; clear BK164; clear HB; have HO0_1 := n0_; have HO0_3 := n1_; have BK164 := n2_; have HB := n3_; have BK165 := n4_; have GW165 := n5_; have GE165 := n6_; have NB164_165 := n7_; have NB165_164 := n8_; clear n0_ n1_ n2_ n3_ n4_ n5_ n6_ n7_ n8_; clear hb hbox hg; have hnb17 := NB164_165.out; have hnc17 := NB165_164.out; obtain ⟨hcz18_0, hcz18_1, hcz18_2, hcz18_3⟩ := blk4 BK164.out; obtain ⟨hfz18_0, hfz18_1, hfz18_2, hfz18_3⟩ := frz4 BK164.out) | ((with_reducible refine zP (f := 11) rfl ?_); refine yH (some 13) rfl rfl Try.func11 (by kernel_rfl) rfl #[.slice A0_3 l0_3.length c0_3, .slice none 0 0] rfl (by (try simp only [List.map_toArray, List.map_cons, List.map_nil]); first | done | rfl | (simp only [List.length_drop, List.length_take]; rfl)) ?_; (refine (zJ.calls k _ _ l0_3 _ _ ([] : List ByteArray) t166 t167 t168 _ ?side1 ?side2 ?side3 ?side4 A2.out).mono ?_); (case side1 => repeat (first | exact (Kd.ya HO0_3.out).2.2 | (with_reducible refine Kd.yw ?_ _) | (with_reducible refine Kd.yv ?_ _) | (with_reducible refine Kd.yP ?_))); (case side2 => exact (Kd.ya HO0_3.out).2.1); (case side3 => exact Kd.C_nil _ _); (case side4 => exact Nat.le_refl _); rintro e w19 ⟨v169, v171, rfl, ho0, ho1, hb⟩; refine ⟨_, rfl, ?_⟩; have n0_ := zb.mk (Kd.zy (Kd.qD (Kd.qD (Kd.V_old (uv HO0_1.out) hb) (Kd.yI ho0)) (Kd.yI ho1)) (fun _ h_ => h_.1)); have n1_ := zb.mk (Kd.zy (Kd.qD (Kd.qD (Kd.V_old (uv HO0_3.out) hb) (Kd.yI ho0)) (Kd.yI ho1)) (fun _ h_ => h_.1)); have n2_ := zb.mk (Kd.yr (Kd.R_newM (M := fun k_ => (w.heap.size ≤ k_)) ho0 (zi (by repeat (with_reducible first | refine zh ?_ ‹_› | exact HB.out | apply zd | apply zc | apply ze))) (fun k_ h_ => h_)) (zi (by repeat (with_reducible first | refine zh ?_ ‹_› | exact HB.out | apply zd | apply zc | apply ze)))); have n3_ := zb.mk (Kd.yr (Kd.R_newM (M := fun k_ => (w.heap.size ≤ k_)) ho1 (zi (by repeat (with_reducible first | refine zh ?_ ‹_› | exact HB.out | apply zd | apply zc | apply ze))) (fun k_ h_ => h_)) (zi (by repeat (with_reducible first | refine zh ?_ ‹_› | exact HB.out | apply zd | apply zc | apply ze)))); have n4_ := zb.mk (zo (ul BK164.out) hb); have n5_ := zb.mk (zo (ul BK165.out) hb); have n6_ := zb.mk (zn (by repeat (with_reducible first | refine zh ?_ ‹_› | exact HB.out | apply zd | apply zc | apply ze)) hb); clear HO0_1; clear HO0_3; clear BK164; clear BK165; clear HB; have HO0_1 := n0_; have HO0_3 := n1_; have HO170 := n2_; have HO172 := n3_; have BK164 := n4_; have BK165 := n5_; have HB := n6_; clear n0_ n1_ n2_ n3_ n4_ n5_ n6_; (try clear hb); (try clear hb2); (try clear hk); (try clear hi); (try clear ho0); (try clear ho1); have hcz20_0 : w19.cell? ⟨gb164, 0, none⟩ = some (.string a0_0) := (zf BK164.out 0).trans rfl; have hcy20_0_164 : ∀ o_, (w19.alloc o_).cell? ⟨gb164, 0, none⟩ = some (.string a0_0) := fun o_ => (zf (zw BK164.out o_) 0).trans rfl; have hfy20_0_164 := fun o_ => zX (zw BK164.out o_) 0; have hcz20_1 : w19.cell? ⟨gb164, 1, none⟩ = some (.slice A0_1 l0_1.length c0_1) := (zf BK164.out 1).trans rfl; have hcy20_1_164 : ∀ o_, (w19.alloc o_).cell? ⟨gb164, 1, none⟩ = some (.slice A0_1 l0_1.length c0_1) := fun o_ => (zf (zw BK164.out o_) 1).trans rfl; have hfy20_1_164 := fun o_ => zX (zw BK164.out o_) 1; have hcz20_2 : w19.cell? ⟨gb164, 2, none⟩ = some (.int .i64 a0_2) := (zf BK164.out 2).trans rfl; have hcy20_2_164 : ∀ o_, (w19.alloc o_).cell? ⟨gb164, 2, none⟩ = some (.int .i64 a0_2) := fun o_ => (zf (zw BK164.out o_) 2).trans rfl; have hfy20_2_164 := fun o_ => zX (zw BK164.out o_) 2; have hcz20_3 : w19.cell? ⟨gb164, 3, none⟩ = some (.slice A0_3 l0_3.length c0_3) := (zf BK164.out 3).trans rfl; have hcy20_3_164 : ∀ o_, (w19.alloc o_).cell? ⟨gb164, 3, none⟩ = some (.slice A0_3 l0_3.length c0_3) := fun o_ => (zf (zw BK164.out o_) 3).trans rfl; have hfy20_3_164 := fun o_ => zX (zw BK164.out o_) 3; obtain ⟨hfz20_0, hfz20_1, hfz20_2, hfz20_3⟩ := frz4 BK164.out; obtain ⟨Ao21, co21, eo21⟩ := Kd.yx HO172.out; subst eo21) | (go_at_call 33; (refine (qj.calls _ _ l0_1 Ao21 co21 t167 false _ ?side0 ?side1 ?side2 ?side3 ?side4 A4.out).mono ?_); (case side0 => first | (simp [go_sem]; done) | (go_simp; done)); (case side1 => repeat (first | exact (Kd.ya HO0_1.out).2.2 | (with_reducible refine Kd.yw ?_ _) | (with_reducible refine Kd.yv ?_ _) | (with_reducible refine Kd.yP ?_))); (case side2 => exact (Kd.ya HO0_1.out).2.1); (case side3 => repeat (first | exact (Kd.zU HO172.out).2.2 | (with_reducible refine Kd.yw ?_ _) | (with_reducible refine Kd.yv ?_ _) | (with_reducible refine Kd.yP ?_))); (case side4 => exact (Kd.zU HO172.out).2.1); rintro e w22 ⟨rfl, hb⟩; have n0_ := zb.mk (Kd.zN (uv HO0_1.out) hb); have n1_ := zb.mk (Kd.zN (uv HO0_3.out) hb); have n2_ := zb.mk (Kd.yb (ur HO170.out) hb); have n3_ := zb.mk (Kd.yb (ur HO172.out) hb); have n4_ := zb.mk (zo (ul BK164.out) hb); have n5_ := zb.mk (zo (ul BK165.out) hb); have n6_ := zb.mk (zn (by repeat (with_reducible first | refine zh ?_ ‹_› | exact HB.out | apply zd | apply zc | apply ze)) hb); clear HO0_1; clear HO0_3; clear HO170; clear HO172; clear BK164; clear BK165; clear HB; have HO0_1 := n0_; have HO0_3 := n1_; have HO170 := n2_; have HO172 := n3_; have BK164 := n4_; have BK165 := n5_; have HB := n6_; clear n0_ n1_ n2_ n3_ n4_ n5_ n6_; (try clear hb); (try clear hb2); (try clear hk); (try clear hi); obtain ⟨hcz23_0, hcz23_1, hcz23_2, hcz23_3⟩ := blk4 BK164.out; obtain ⟨hfz23_0, hfz23_1, hfz23_2, hfz23_3⟩ := frz4 BK164.out) | ((with_reducible refine zQ (N := 7) rfl ?_); refine zM ?hg (N := 7) ?hd (cs := #[.string (⟨#[]⟩ : ByteArray), .slice none 0 0, .int .i64 0, .slice none 0 0]) (t := 51) ?hr ?_; (case hd => rfl); (case hg => rfl); (case hr => first | (go_simp; done) | (go_simp; rfl)); intro gb174 hg w24 hbox hb; have n0_ := zb.mk (Kd.zN (Kd.zI (uv HO0_1.out) gb174 (Nat.le_of_eq hg.symm)) hb); have n1_ := zb.mk (Kd.zN (Kd.zI (uv HO0_3.out) gb174 (Nat.le_of_eq hg.symm)) hb); have n2_ := zb.mk (Kd.yb (ur HO170.out) hb); have n3_ := zb.mk (Kd.yb (ur HO172.out) hb); have n4_ := zb.mk (zo (ul BK164.out) hb); have n5_ := zb.mk (zo (ul BK165.out) hb); have n6_ := zb.mk (zn (by repeat (with_reducible first | refine zh ?_ ‹_› | exact HB.out | apply zd | apply zc | apply ze)) hb); have n7_ := zb.mk (hbox); have n8_ := zb.mk ((by rw [hg]; exact (zi (by repeat (with_reducible first | refine zh ?_ ‹_› | exact HB.out | apply zd | apply zc | apply ze))) : w.heap.size ≤ gb174)); have n9_ := zb.mk ((by rw [hg]; exact (zi (by repeat (with_reducible first | refine zh ?_ ‹_› | exact HB.out | apply zd | apply zc | apply ze))) : w.heap.size ≤ gb174)); have n10_ := zb.mk ((by rw [hg]; exact Nat.ne_of_lt (zO (ul BK164.out)) : gb164 ≠ gb174)); have n11_ := zb.mk ((by rw [hg]; exact Nat.ne_of_gt (zO (ul BK164.out)) : gb174 ≠ gb164)); have n12_ := zb.mk ((by rw [hg]; exact Nat.ne_of_lt (zO (ul BK165.out)) : gb165 ≠ gb174)); have n13_ := zb.mk ((by rw [hg]; exact Nat.ne_of_gt (zO (ul BK165.out)) : gb174 ≠ gb165)); clear HO0_1; clear HO0_3; clear HO170; clear HO172; clear BK164; clear BK165; clear HB; have HO0_1 := n0_; have HO0_3 := n1_; have HO170 := n2_; have HO172 := n3_; have BK164 := n4_; have BK165 := n5_; have HB := n6_; have BK174 := n7_; have GW174 := n8_; have GE174 := n9_; have NB164_174 := n10_; have NB174_164 := n11_; have NB165_174 := n12_; have NB174_165 := n13_; clear n0_ n1_ n2_ n3_ n4_ n5_ n6_ n7_ n8_ n9_ n10_ n11_ n12_ n13_; clear hb hbox hg; have hnb25 := NB174_164.out; have hnc25 := NB164_174.out; have hnb26 := NB174_165.out; have hnc26 := NB165_174.out; obtain ⟨hcz27_0, hcz27_1, hcz27_2, hcz27_3⟩ := blk4 BK174.out; obtain ⟨hfz27_0, hfz27_1, hfz27_2, hfz27_3⟩ := frz4 BK174.out; obtain ⟨Ao28, co28, eo28⟩ := Kd.yx HO170.out; subst eo28))
   go_loopg [34] k (fun kq v34 w' => ∃ (x34_1 : Int) (x175003_1 : List (S43)) (u175003 : Value), v34 = .int .i64 x34_1 ∧ zb (zW.l0 kq t166 (t166.length : Int) x34_1 a0_0 l0_1 a0_2 l0_3 a0_0 l0_1 a0_2 x175003_1 = some (r1, r2, r3, r4, r5)) ∧ zb (kq ≤ k) ∧ zb (Kd.R (Kd.int .i64) 3 w' w.heap.size (fun k_ => (w.heap.size ≤ k_)) (.slice Ao28 t166.length co28) t166) ∧ zb (Kd.V k40 40 w' w.heap.size (fun k_ => ((P0_1_ k_ ∨ P0_3_ k_) ∨ w.heap.size ≤ k_) ∧ some k_ ≠ ((.slice Ao28 t166.length co28) : Value).ownBlock ∧ some k_ ≠ (u175003 : Value).ownBlock ∧ k_ ≠ gb164 ∧ k_ ≠ gb165 ∧ k_ ≠ gb174) (.slice A0_1 l0_1.length c0_1) l0_1) ∧ zb (Kd.V k43 43 w' w.heap.size (fun k_ => ((P0_1_ k_ ∨ P0_3_ k_) ∨ w.heap.size ≤ k_) ∧ some k_ ≠ ((.slice Ao28 t166.length co28) : Value).ownBlock ∧ some k_ ≠ (u175003 : Value).ownBlock ∧ k_ ≠ gb164 ∧ k_ ≠ gb165 ∧ k_ ≠ gb174) (.slice A0_3 l0_3.length c0_3) l0_3) ∧ zb (Kd.V k40 40 w' w.heap.size (fun k_ => ((P0_1_ k_ ∨ P0_3_ k_) ∨ w.heap.size ≤ k_) ∧ some k_ ≠ ((.slice Ao28 t166.length co28) : Value).ownBlock ∧ some k_ ≠ (u175003 : Value).ownBlock ∧ k_ ≠ gb164 ∧ k_ ≠ gb165 ∧ k_ ≠ gb174) (.slice A0_1 l0_1.length c0_1) l0_1) ∧ zb (Kd.N k43 43 w' w.heap.size (fun k_ => ((P0_1_ k_ ∨ P0_3_ k_) ∨ w.heap.size ≤ k_) ∧ some k_ ≠ ((.slice Ao28 t166.length co28) : Value).ownBlock ∧ k_ ≠ gb164 ∧ k_ ≠ gb165 ∧ k_ ≠ gb174) u175003 x175003_1) ∧ zb (w'.heap[gb164]? = some (.cells #[.string a0_0, (.slice A0_1 l0_1.length c0_1), .int .i64 a0_2, (.slice A0_3 l0_3.length c0_3)] 51 (0, 0))) ∧ zb (w'.heap[gb165]? = some (.cells #[.string (⟨#[]⟩ : ByteArray), (.slice none 0 0), .int .i64 0, (.slice none 0 0)] 51 (0, 0))) ∧ zb (w'.heap[gb174]? = some (.cells #[.string a0_0, (.slice A0_1 l0_1.length c0_1), .int .i64 a0_2, u175003] 51 (0, 0))) ∧ zb (Below w.heap.size w w'))
   case atStart => exact ⟨(0), (([] : List (S43))), (.slice none 0 0), (by first | rfl | (simp; done) | (simp [*]; done)), H', ⟨Nat.le_refl _⟩, ⟨ur (Kd.yt (Kd.R_far (p := ⟨gb174, 3, none⟩) (Kd.R_far (p := ⟨gb174, 2, none⟩) (Kd.R_far (p := ⟨gb174, 1, none⟩) (Kd.R_far (p := ⟨gb174, 0, none⟩) (Kd.qd HO170.out BK174.out (by decide)) (fun _ hk => hk.2) (.string a0_0)) (fun _ hk => hk.2) (.slice A0_1 l0_1.length c0_1)) (fun _ hk => hk.2) (.int .i64 a0_2)) (fun _ hk => hk.2) (.slice none 0 0)) (fun _ hk => hk.1.1))⟩, ⟨uv (Kd.zy (Kd.V_far (p := ⟨gb174, 3, none⟩) (Kd.V_far (p := ⟨gb174, 2, none⟩) (Kd.V_far (p := ⟨gb174, 1, none⟩) (Kd.V_far (p := ⟨gb174, 0, none⟩) (Kd.zy HO0_1.out (fun k_ hk => (⟨hk, hk.2⟩ : _ ∧ k_ ≠ gb174))) (fun _ hk => hk.2) (.string a0_0)) (fun _ hk => hk.2) (.slice A0_1 l0_1.length c0_1)) (fun _ hk => hk.2) (.int .i64 a0_2)) (fun _ hk => hk.2) (.slice none 0 0)) (fun _ hk => ⟨hk.1.1.1.1.1.1, ⟨hk.1.1.1.2, ⟨(by simp [Value.ownBlock]), ⟨hk.1.1.1.1.1.2, ⟨hk.1.1.1.1.2, hk.1.2⟩⟩⟩⟩⟩))⟩, ⟨uv (Kd.zy (Kd.V_far (p := ⟨gb174, 3, none⟩) (Kd.V_far (p := ⟨gb174, 2, none⟩) (Kd.V_far (p := ⟨gb174, 1, none⟩) (Kd.V_far (p := ⟨gb174, 0, none⟩) (Kd.zy HO0_3.out (fun k_ hk => (⟨hk, hk.2⟩ : _ ∧ k_ ≠ gb174))) (fun _ hk => hk.2) (.string a0_0)) (fun _ hk => hk.2) (.slice A0_1 l0_1.length c0_1)) (fun _ hk => hk.2) (.int .i64 a0_2)) (fun _ hk => hk.2) (.slice none 0 0)) (fun _ hk => ⟨hk.1.1.1.1.1.1, ⟨hk.1.1.1.2, ⟨(by simp [Value.ownBlock]), ⟨hk.1.1.1.1.1.2, ⟨hk.1.1.1.1.2, hk.1.2⟩⟩⟩⟩⟩))⟩, ⟨uv (Kd.zy (Kd.V_far (p := ⟨gb174, 3, none⟩) (Kd.V_far (p := ⟨gb174, 2, none⟩) (Kd.V_far (p := ⟨gb174, 1, none⟩) (Kd.V_far (p := ⟨gb174, 0, none⟩) (Kd.zy HO0_1.out (fun k_ hk => (⟨hk, hk.2⟩ : _ ∧ k_ ≠ gb174))) (fun _ hk => hk.2) (.string a0_0)) (fun _ hk => hk.2) (.slice A0_1 l0_1.length c0_1)) (fun _ hk => hk.2) (.int .i64 a0_2)) (fun _ hk => hk.2) (.slice none 0 0)) (fun _ hk => ⟨hk.1.1.1.1.1.1, ⟨hk.1.1.1.2, ⟨(by simp [Value.ownBlock]), ⟨hk.1.1.1.1.1.2, ⟨hk.1.1.1.1.2, hk.1.2⟩⟩⟩⟩⟩))⟩, ⟨by first | exact Kd.S_nil _ _ _ _ _ | exact Kd.N_nil _ _ _ _ _ | exact Kd.V_nil _ _ _ _ _ | exact Kd.Q_nil _ _ _ _ _ | exact Kd.R_nil _ _ _ _ _⟩, ⟨by (with_reducible repeat (first | refine ye ?_ NB164_174.out _ | refine zC ?_ _ | refine zD ?_ | refine zw ?_ _)); exact BK164.out⟩, ⟨by (with_reducible repeat (first | refine ye ?_ NB165_174.out _ | refine zC ?_ _ | refine zD ?_ | refine zw ?_ _)); exact BK165.out⟩, ⟨by (with_reducible repeat (first | refine zC ?_ _ | refine zD ?_ | refine zw ?_ _)); exact zB (zB (zB (zB (ul BK174.out) 0 _ rfl) 1 _ rfl) 2 _ rfl) 3 _ rfl⟩, ⟨by repeat (with_reducible first | refine zh ?_ ‹_› | exact HB.out | apply zd | apply zc | apply ze)⟩⟩
   case round =>
    clear H'
    try clear c1
    try clear c2
    try clear p2
    try clear c3
    try clear c3b0
    try clear c3b1
    try clear c5
    try clear c8
    try clear c11
    try clear c17
    try clear c20
    try clear c25
    try clear c26
    try clear hcz11_0 hcz11_1 hcz11_2 hcz11_3
    try clear hcz14_0 hcz14_1 hcz14_2 hcz14_3
    try clear hcz18_0 hcz18_1 hcz18_2 hcz18_3
    try clear hcz20_0 hcz20_1 hcz20_2 hcz20_3
    try clear hcz23_0 hcz23_1 hcz23_2 hcz23_3
    try clear hcz27_0 hcz27_1 hcz27_2 hcz27_3
    try clear hcz9_0 hcz9_1 hcz9_2 hcz9_3
    try clear hfz11_0 hfz11_1 hfz11_2 hfz11_3
    try clear hfz14_0 hfz14_1 hfz14_2 hfz14_3
    try clear hfz18_0 hfz18_1 hfz18_2 hfz18_3
    try clear hfz20_0 hfz20_1 hfz20_2 hfz20_3
    try clear hfz23_0 hfz23_1 hfz23_2 hfz23_3
    try clear hfz27_0 hfz27_1 hfz27_2 hfz27_3
    try clear hfz9_0 hfz9_1 hfz9_2 hfz9_3
    obtain ⟨x34_1, x175003_1, u175003, rfl, HA, HK1, HO_32, HO_165001, HO_165003, HO_175001, HO_175003, BK164, BK165, BK174, HB⟩ := hrel
    cases gk with
    | zero => exact absurd HA.out (by simp [zW.l0])
    | succ k1 =>
     have H := HA.out
     clear HA
     simp only [zW.l0] at H
     by_cases c29 : x34_1 < (t166.length : Int)
     ·rw [if_pos c29] at H
      have c29b0 : decide (x34_1 < (t166.length : Int)) = true := decide_eq_true c29
      clear c29
      by_cases c30 : 0 ≤ x34_1
      ·rw [if_pos c30] at H
       have c30b0 : decide (0 ≤ x34_1) = true := decide_eq_true c30
       clear c30
       by_cases c31 : x34_1 < (t166.length : Int)
       ·rw [if_pos c31] at H
        have c31b0 : decide (x34_1 < (t166.length : Int)) = true := decide_eq_true c31
        clear c31
        by_cases c32 : 0 ≤ (rd t166 x34_1)
        ·rw [if_pos c32] at H
         have c32b0 : decide (0 ≤ (rd t166 x34_1)) = true := decide_eq_true c32
         clear c32
         by_cases c33 : (rd t166 x34_1) < (l0_3.length : Int)
         ·rw [if_pos c33] at H
          have c33b0 : decide ((rd t166 x34_1) < (l0_3.length : Int)) = true := decide_eq_true c33
          clear c33
          by_cases c34 : x175003_1.length < 606627104979
          ·rw [if_pos c34] at H
           have LMc34 := zb.mk c34
           clear c34
           obtain ⟨y177, hy177⟩ : ∃ y_ : List (S43), y_ = (x175003_1 ++ [(⟨(za l0_3 (rd t166 x34_1)).f0, (⟨(za l0_3 (rd t166 x34_1)).f1.f0, (za l0_3 (rd t166 x34_1)).f1.f1⟩ : S36), (za l0_3 (rd t166 x34_1)).f2, (⟨(za l0_3 (rd t166 x34_1)).f3.f0, (⟨(za l0_3 (rd t166 x34_1)).f3.f1.f0, (za l0_3 (rd t166 x34_1)).f3.f1.f1, (za l0_3 (rd t166 x34_1)).f3.f1.f2⟩ : S38)⟩ : S40), (⟨(za l0_3 (rd t166 x34_1)).f4.f0, (⟨(za l0_3 (rd t166 x34_1)).f4.f1.f0, (za l0_3 (rd t166 x34_1)).f4.f1.f1, (za l0_3 (rd t166 x34_1)).f4.f1.f2⟩ : S38)⟩ : S40), (⟨(za l0_3 (rd t166 x34_1)).f5.f0, (⟨(za l0_3 (rd t166 x34_1)).f5.f1.f0, (za l0_3 (rd t166 x34_1)).f5.f1.f1, (za l0_3 (rd t166 x34_1)).f5.f1.f2⟩ : S38)⟩ : S40), (za l0_3 (rd t166 x34_1)).f6⟩ : S43)]) := ⟨_, rfl⟩
           replace H : (zW.l0 k1 t166 (t166.length : Int) (wrap64 (x34_1 + 1)) a0_0 l0_1 a0_2 l0_3 a0_0 l0_1 a0_2 y177) = some (r1, r2, r3, r4, r5) := by first | (rw [hy177]; with_reducible exact H) | (have H2_ := (Option.bind_some _ _).symm.trans H; rw [hy177]; with_reducible exact H2_) | (have H2_ := (Option.bind_some _ _).symm.trans H; with_reducible exact H2_) | with_reducible exact H | (rw [hy177]; exact H) | exact H
           have Ny177 := zb.mk hy177
           clear hy177
           have H' := zb.mk H
           clear H
           have p175 : 0 ≤ (x34_1 : Int) := zdd
           have q175 : x34_1 < (t166.length : Int) := zdd
           obtain ⟨ad175, e175, hx175_0⟩ := Kd.at_int (Kd.zU HO_32.out).2.2 x34_1 p175 q175
           cases e175
           replace p175 := eq_true p175
           replace q175 := eq_true q175
           try go_wp2
           have n0_ := zb.mk (Kd.R_drew HO_32.out)
           have n1_ := zb.mk (Kd.V_drew HO_165001.out)
           have n2_ := zb.mk (Kd.V_drew HO_165003.out)
           have n3_ := zb.mk (Kd.V_drew HO_175001.out)
           have n4_ := zb.mk (Kd.N_drew HO_175003.out)
           have n5_ := zb.mk (zD BK164.out)
           have n6_ := zb.mk (zD BK165.out)
           have n7_ := zb.mk (zD BK174.out)
           have n8_ := zb.mk (ze HB.out)
           clear HO_32
           clear HO_165001
           clear HO_165003
           clear HO_175001
           clear HO_175003
           clear BK164
           clear BK165
           clear BK174
           clear HB
           have HO_32 := n0_
           have HO_165001 := n1_
           have HO_165003 := n2_
           have HO_175001 := n3_
           have HO_175003 := n4_
           have BK164 := n5_
           have BK165 := n6_
           have BK174 := n7_
           have HB := n8_
           clear n0_ n1_ n2_ n3_ n4_ n5_ n6_ n7_ n8_
           have p176 : 0 ≤ ((rd t166 x34_1) : Int) := zdd
           have q176 : (rd t166 x34_1) < (l0_3.length : Int) := zdd
           obtain ⟨ad176, A176_2, c176_2, A176_16, c176_16, e176, hx176_0, hx176_1, hx176_2, hx176_3, hx176_4, hx176_5, hx176_6, hx176_7, hx176_8, hx176_9, hx176_10, hx176_11, hx176_12, hx176_13, hx176_14, hx176_15, hx176_16, hl176_2, hi176_2, hl176_16, hi176_16⟩ := qv (Kd.ya HO_165003.out).2.2 (rd t166 x34_1) p176 q176
           cases e176
           obtain ⟨ce176, hce176, hMe176, hcc176⟩ := Kd.V_get HO_165003.out z43 (rd t166 x34_1) p176 (by first | exact q176 | exact zdd | (have e_ := (Kd.ya HO_165003.out).1; omega))
           obtain ⟨ua176_2, uc176_2, ua176_16, uc176_16, rfl, ul176_2, ge176_2, ul176_16, ge176_16⟩ := k43_openF hMe176
           have hv176_2 := hcc176 2 _ rfl
           rw [yd _ _ 2 (by omega)] at hv176_2
           replace hv176_2 := Option.some.inj (hv176_2.symm.trans hx176_2)
           injection hv176_2 with hva_ hvn_ hvc_
           rw [hva_] at ge176_2
           rw [hvc_] at ul176_2
           have HL176_2 := zb.mk (show Kd.V k40 40 _ w.heap.size _ _ ((za l0_3 (rd t166 x34_1)).f1.f1) from Kd.V_mk ul176_2 ge176_2)
           clear hva_ hvn_ hvc_ ge176_2 ul176_2
           have hv176_16 := hcc176 16 _ rfl
           rw [yd _ _ 16 (by omega)] at hv176_16
           replace hv176_16 := Option.some.inj (hv176_16.symm.trans hx176_16)
           injection hv176_16 with hva_ hvn_ hvc_
           rw [hva_] at ge176_16
           rw [hvc_] at ul176_16
           have HL176_16 := zb.mk (show Kd.V k82 82 _ w.heap.size _ _ ((za l0_3 (rd t166 x34_1)).f6) from Kd.V_mk ul176_16 ge176_16)
           clear hva_ hvn_ hvc_ ge176_16 ul176_16
           clear hcc176 hce176
           have HR176_2 := zb.mk hi176_2
           have HC176_2 := zb.mk hl176_2
           clear hi176_2 hl176_2
           have HR176_16 := zb.mk hi176_16
           have HC176_16 := zb.mk hl176_16
           clear hi176_16 hl176_16
           replace p176 := eq_true p176
           replace q176 := eq_true q176
           refine start_ (n := 11) (S := fun w' => w'.cell? ⟨gb174, 0, none⟩ = some (.string a0_0) ∧ w'.cell? ⟨gb174, 1, none⟩ = some (.slice A0_1 l0_1.length c0_1) ∧ w'.cell? ⟨gb174, 2, none⟩ = some (.int .i64 a0_2) ∧ w'.cell? ⟨gb174, 3, none⟩ = some (u175003) ∧ w'.cell? ⟨gb164, 0, none⟩ = some (.string a0_0) ∧ w'.cell? ⟨gb164, 1, none⟩ = some (.slice A0_1 l0_1.length c0_1) ∧ w'.cell? ⟨gb164, 2, none⟩ = some (.int .i64 a0_2) ∧ w'.cell? ⟨gb164, 3, none⟩ = some (.slice (some ad176) l0_3.length c0_3) ∧ w'.cell? (ad176.add (((rd t166 x34_1)).toNat * 17)) = some (.int .i64 ((za l0_3 (rd t166 x34_1)).f0)) ∧ w'.cell? ⟨(ad176.add (((rd t166 x34_1)).toNat * 17)).block, (ad176.add (((rd t166 x34_1)).toNat * 17)).off + 1, none⟩ = some (.string ((za l0_3 (rd t166 x34_1)).f1.f0)) ∧ w'.cell? ⟨(ad176.add (((rd t166 x34_1)).toNat * 17)).block, (ad176.add (((rd t166 x34_1)).toNat * 17)).off + 2, none⟩ = some (.slice A176_2 ((za l0_3 (rd t166 x34_1)).f1.f1).length c176_2) ∧ w'.cell? ⟨(ad176.add (((rd t166 x34_1)).toNat * 17)).block, (ad176.add (((rd t166 x34_1)).toNat * 17)).off + 3, none⟩ = some (.string ((za l0_3 (rd t166 x34_1)).f2)) ∧ w'.cell? ⟨(ad176.add (((rd t166 x34_1)).toNat * 17)).block, (ad176.add (((rd t166 x34_1)).toNat * 17)).off + 4, none⟩ = some (.string ((za l0_3 (rd t166 x34_1)).f3.f0)) ∧ w'.cell? ⟨(ad176.add (((rd t166 x34_1)).toNat * 17)).block, (ad176.add (((rd t166 x34_1)).toNat * 17)).off + 5, none⟩ = some (.int .i64 ((za l0_3 (rd t166 x34_1)).f3.f1.f0)) ∧ w'.cell? ⟨(ad176.add (((rd t166 x34_1)).toNat * 17)).block, (ad176.add (((rd t166 x34_1)).toNat * 17)).off + 6, none⟩ = some (.int .i64 ((za l0_3 (rd t166 x34_1)).f3.f1.f1)) ∧ w'.cell? ⟨(ad176.add (((rd t166 x34_1)).toNat * 17)).block, (ad176.add (((rd t166 x34_1)).toNat * 17)).off + 7, none⟩ = some (.string ((za l0_3 (rd t166 x34_1)).f3.f1.f2)) ∧ w'.cell? ⟨(ad176.add (((rd t166 x34_1)).toNat * 17)).block, (ad176.add (((rd t166 x34_1)).toNat * 17)).off + 8, none⟩ = some (.string ((za l0_3 (rd t166 x34_1)).f4.f0)) ∧ w'.cell? ⟨(ad176.add (((rd t166 x34_1)).toNat * 17)).block, (ad176.add (((rd t166 x34_1)).toNat * 17)).off + 9, none⟩ = some (.int .i64 ((za l0_3 (rd t166 x34_1)).f4.f1.f0)) ∧ w'.cell? ⟨(ad176.add (((rd t166 x34_1)).toNat * 17)).block, (ad176.add (((rd t166 x34_1)).toNat * 17)).off + 10, none⟩ = some (.int .i64 ((za l0_3 (rd t166 x34_1)).f4.f1.f1)) ∧ w'.cell? ⟨(ad176.add (((rd t166 x34_1)).toNat * 17)).block, (ad176.add (((rd t166 x34_1)).toNat * 17)).off + 11, none⟩ = some (.string ((za l0_3 (rd t166 x34_1)).f4.f1.f2)) ∧ w'.cell? ⟨(ad176.add (((rd t166 x34_1)).toNat * 17)).block, (ad176.add (((rd t166 x34_1)).toNat * 17)).off + 12, none⟩ = some (.string ((za l0_3 (rd t166 x34_1)).f5.f0)) ∧ w'.cell? ⟨(ad176.add (((rd t166 x34_1)).toNat * 17)).block, (ad176.add (((rd t166 x34_1)).toNat * 17)).off + 13, none⟩ = some (.int .i64 ((za l0_3 (rd t166 x34_1)).f5.f1.f0)) ∧ w'.cell? ⟨(ad176.add (((rd t166 x34_1)).toNat * 17)).block, (ad176.add (((rd t166 x34_1)).toNat * 17)).off + 14, none⟩ = some (.int .i64 ((za l0_3 (rd t166 x34_1)).f5.f1.f1)) ∧ w'.cell? ⟨(ad176.add (((rd t166 x34_1)).toNat * 17)).block, (ad176.add (((rd t166 x34_1)).toNat * 17)).off + 15, none⟩ = some (.string ((za l0_3 (rd t166 x34_1)).f5.f1.f2)) ∧ w'.cell? ⟨(ad176.add (((rd t166 x34_1)).toNat * 17)).block, (ad176.add (((rd t166 x34_1)).toNat * 17)).off + 16, none⟩ = some (.slice A176_16 ((za l0_3 (rd t166 x34_1)).f6).length c176_16)) (ds := [8, 10]) #[false, false, false, false, false, false, false, false, false, false, false] (by kernel_rfl) rfl rfl ⟨(zf BK174.out 0).trans rfl, (zf BK174.out 1).trans rfl, (zf BK174.out 2).trans rfl, (zf BK174.out 3).trans rfl, (zf BK164.out 0).trans rfl, (zf BK164.out 1).trans rfl, (zf BK164.out 2).trans rfl, (zf BK164.out 3).trans rfl, hx176_0, hx176_1, hx176_2, hx176_3, hx176_4, hx176_5, hx176_6, hx176_7, hx176_8, hx176_9, hx176_10, hx176_11, hx176_12, hx176_13, hx176_14, hx176_15, hx176_16⟩ (fun hHeld => ?_); refine qw zW.tab10 zW.bits10 (fun HT_ HW_ => ?_)
           generalize wr.drew = w35 at HO_32 HO_165001 HO_165003 HO_175001 HO_175003 BK164 BK165 BK174 HB HL176_16 HL176_2 HR176_16 HR176_2 hx176_0 hx176_1 hx176_10 hx176_11 hx176_12 hx176_13 hx176_14 hx176_15 hx176_16 hx176_2 hx176_3 hx176_4 hx176_5 hx176_6 hx176_7 hx176_8 hx176_9 hHeld ⊢
           refine pure_ (i := 0) (N := some 38) (v := ?_) (a' := ?_) #[true, false, false, false, false, false, false, false, false, false, false] rfl rfl (yn HT_.out (by kernel_rfl)) (fun _ _ _ h => h) (Or.inl ⟨by rfl, ?_⟩) ?_ ?_
           rotate_left
           ·intro w'
            go_simp
            with_reducible rfl
           rotate_left
           ·simp only [Act.put, List.setIfInBounds_toArray, List.set_cons_zero, List.set_cons_succ, i64_w, i32_w]
            rfl
           refine pure_ (i := 2) (N := some 40) (v := ?_) (a' := ?_) #[true, false, true, false, false, false, false, false, false, false, false] rfl rfl (yn HT_.out (by kernel_rfl)) (fun _ _ _ h => h) (Or.inl ⟨by rfl, ?_⟩) ?_ ?_
           rotate_left
           ·intro w'
            go_simp
            with_reducible rfl
           rotate_left
           ·simp only [Act.put, List.setIfInBounds_toArray, List.set_cons_zero, List.set_cons_succ, i64_w, i32_w]
            rfl
           refine pure_ (i := 4) (N := some 42) (v := ?_) (a' := ?_) #[true, false, true, false, true, false, false, false, false, false, false] rfl rfl (yn HT_.out (by kernel_rfl)) (fun _ _ _ h => h) (Or.inl ⟨by rfl, ?_⟩) ?_ ?_
           rotate_left
           ·intro w'
            go_simp
            with_reducible rfl
           rotate_left
           ·simp only [Act.put, List.setIfInBounds_toArray, List.set_cons_zero, List.set_cons_succ, i64_w, i32_w]
            rfl
           refine take_ (i := 1) (N := some 39) (v := ?_) (a' := ?_) #[true, true, true, false, true, false, false, false, false, false, false] rfl rfl (yF HT_.out HW_.out (by kernel_rfl)) (fun _ _ _ h => h) (Or.inl ⟨by rfl, ?_⟩) hHeld ?_ ?_
           rotate_left
           ·rintro w' ⟨s0, s1, s2, s3, s4, s5, s6, s7, s8, s9, s10, s11, s12, s13, s14, s15, s16, s17, s18, s19, s20, s21, s22, s23, s24⟩
            go_simp
            with_reducible rfl
           rotate_left
           ·simp only [Act.put, List.setIfInBounds_toArray, List.set_cons_zero, List.set_cons_succ, i64_w, i32_w]
            rfl
           refine take_ (i := 3) (N := some 41) (v := ?_) (a' := ?_) #[true, true, true, true, true, false, false, false, false, false, false] rfl rfl (yF HT_.out HW_.out (by kernel_rfl)) (fun _ _ _ h => h) (Or.inl ⟨by rfl, ?_⟩) hHeld ?_ ?_
           rotate_left
           ·rintro w' ⟨s0, s1, s2, s3, s4, s5, s6, s7, s8, s9, s10, s11, s12, s13, s14, s15, s16, s17, s18, s19, s20, s21, s22, s23, s24⟩
            go_simp
            with_reducible rfl
           rotate_left
           ·simp only [Act.put, List.setIfInBounds_toArray, List.set_cons_zero, List.set_cons_succ, i64_w, i32_w]
            rfl
           refine pure_ (i := 5) (N := some 43) (v := ?_) (a' := ?_) #[true, true, true, true, true, true, false, false, false, false, false] rfl rfl (yn HT_.out (by kernel_rfl)) (fun _ _ _ h => h) (Or.inl ⟨by rfl, ?_⟩) ?_ ?_
           rotate_left
           ·intro w'
            go_simp
            with_reducible rfl
           rotate_left
           ·simp only [Act.put, List.setIfInBounds_toArray, List.set_cons_zero, List.set_cons_succ, i64_w, i32_w]
            rfl
           refine take_ (i := 6) (N := some 44) (v := ?_) (a' := ?_) #[true, true, true, true, true, true, true, false, false, false, false] rfl rfl (yF HT_.out HW_.out (by kernel_rfl)) (fun _ _ _ h => h) (Or.inl ⟨by rfl, ?_⟩) hHeld ?_ ?_
           rotate_left
           ·rintro w' ⟨s0, s1, s2, s3, s4, s5, s6, s7, s8, s9, s10, s11, s12, s13, s14, s15, s16, s17, s18, s19, s20, s21, s22, s23, s24⟩
            go_simp
            with_reducible rfl
           rotate_left
           ·simp only [Act.put, List.setIfInBounds_toArray, List.set_cons_zero, List.set_cons_succ, i64_w, i32_w]
            rfl
           refine one_ (i := 7) (N := some 45) #[true, true, true, true, true, true, true, true, false, false, false] rfl rfl (ql HT_.out (by kernel_rfl)) (by decide) (fun K hK => ?_)
           refine value_ (w1 := ?_) (v := ?_) (by rfl) rfl ?_ ?_
           rotate_left 2
           ·go_simp
            constructor
            ·rfl
            ·rfl
           refine hK.out _ _ ⟨(zf (zw BK174.out _) 0).trans rfl, (zf (zw BK174.out _) 1).trans rfl, (zf (zw BK174.out _) 2).trans rfl, (zf (zw BK174.out _) 3).trans rfl, (zf (zw BK164.out _) 0).trans rfl, (zf (zw BK164.out _) 1).trans rfl, (zf (zw BK164.out _) 2).trans rfl, (zf (zw BK164.out _) 3).trans rfl, (World.cell?_alloc_lt _ _ _ (World.block_lt_of_cell? _ _ (hHeld.2.2.2.2.2.2.2.2.1))).trans (hHeld.2.2.2.2.2.2.2.2.1), (World.cell?_alloc_lt _ _ _ (World.block_lt_of_cell? _ _ (hHeld.2.2.2.2.2.2.2.2.2.1))).trans (hHeld.2.2.2.2.2.2.2.2.2.1), (World.cell?_alloc_lt _ _ _ (World.block_lt_of_cell? _ _ (hHeld.2.2.2.2.2.2.2.2.2.2.1))).trans (hHeld.2.2.2.2.2.2.2.2.2.2.1), (World.cell?_alloc_lt _ _ _ (World.block_lt_of_cell? _ _ (hHeld.2.2.2.2.2.2.2.2.2.2.2.1))).trans (hHeld.2.2.2.2.2.2.2.2.2.2.2.1), (World.cell?_alloc_lt _ _ _ (World.block_lt_of_cell? _ _ (hHeld.2.2.2.2.2.2.2.2.2.2.2.2.1))).trans (hHeld.2.2.2.2.2.2.2.2.2.2.2.2.1), (World.cell?_alloc_lt _ _ _ (World.block_lt_of_cell? _ _ (hHeld.2.2.2.2.2.2.2.2.2.2.2.2.2.1))).trans (hHeld.2.2.2.2.2.2.2.2.2.2.2.2.2.1), (World.cell?_alloc_lt _ _ _ (World.block_lt_of_cell? _ _ (hHeld.2.2.2.2.2.2.2.2.2.2.2.2.2.2.1))).trans (hHeld.2.2.2.2.2.2.2.2.2.2.2.2.2.2.1), (World.cell?_alloc_lt _ _ _ (World.block_lt_of_cell? _ _ (hHeld.2.2.2.2.2.2.2.2.2.2.2.2.2.2.2.1))).trans (hHeld.2.2.2.2.2.2.2.2.2.2.2.2.2.2.2.1), (World.cell?_alloc_lt _ _ _ (World.block_lt_of_cell? _ _ (hHeld.2.2.2.2.2.2.2.2.2.2.2.2.2.2.2.2.1))).trans (hHeld.2.2.2.2.2.2.2.2.2.2.2.2.2.2.2.2.1), (World.cell?_alloc_lt _ _ _ (World.block_lt_of_cell? _ _ (hHeld.2.2.2.2.2.2.2.2.2.2.2.2.2.2.2.2.2.1))).trans (hHeld.2.2.2.2.2.2.2.2.2.2.2.2.2.2.2.2.2.1), (World.cell?_alloc_lt _ _ _ (World.block_lt_of_cell? _ _ (hHeld.2.2.2.2.2.2.2.2.2.2.2.2.2.2.2.2.2.2.1))).trans (hHeld.2.2.2.2.2.2.2.2.2.2.2.2.2.2.2.2.2.2.1), (World.cell?_alloc_lt _ _ _ (World.block_lt_of_cell? _ _ (hHeld.2.2.2.2.2.2.2.2.2.2.2.2.2.2.2.2.2.2.2.1))).trans (hHeld.2.2.2.2.2.2.2.2.2.2.2.2.2.2.2.2.2.2.2.1), (World.cell?_alloc_lt _ _ _ (World.block_lt_of_cell? _ _ (hHeld.2.2.2.2.2.2.2.2.2.2.2.2.2.2.2.2.2.2.2.2.1))).trans (hHeld.2.2.2.2.2.2.2.2.2.2.2.2.2.2.2.2.2.2.2.2.1), (World.cell?_alloc_lt _ _ _ (World.block_lt_of_cell? _ _ (hHeld.2.2.2.2.2.2.2.2.2.2.2.2.2.2.2.2.2.2.2.2.2.1))).trans (hHeld.2.2.2.2.2.2.2.2.2.2.2.2.2.2.2.2.2.2.2.2.2.1), (World.cell?_alloc_lt _ _ _ (World.block_lt_of_cell? _ _ (hHeld.2.2.2.2.2.2.2.2.2.2.2.2.2.2.2.2.2.2.2.2.2.2.1))).trans (hHeld.2.2.2.2.2.2.2.2.2.2.2.2.2.2.2.2.2.2.2.2.2.2.1), (World.cell?_alloc_lt _ _ _ (World.block_lt_of_cell? _ _ (hHeld.2.2.2.2.2.2.2.2.2.2.2.2.2.2.2.2.2.2.2.2.2.2.2.1))).trans (hHeld.2.2.2.2.2.2.2.2.2.2.2.2.2.2.2.2.2.2.2.2.2.2.2.1), (World.cell?_alloc_lt _ _ _ (World.block_lt_of_cell? _ _ (hHeld.2.2.2.2.2.2.2.2.2.2.2.2.2.2.2.2.2.2.2.2.2.2.2.2))).trans (hHeld.2.2.2.2.2.2.2.2.2.2.2.2.2.2.2.2.2.2.2.2.2.2.2.2)⟩ (fun hHeld => ?_)
           clear hK K
           refine norm_ (a' := ?_) ?_ ?_
           rotate_left
           ·show Act.put _ (some 45) _ = _
            simp only [Act.put, List.setIfInBounds_toArray, List.set_cons_zero, List.set_cons_succ, i64_w, i32_w]
            rfl
           refine last_ (i := 8) (N := some 46) #[true, true, true, true, true, true, true, true, true, false, false] rfl rfl (ql HT_.out (by kernel_rfl)) (by decide) (fun K hK => ?_)
           refine Kd.N_append_step k43 (w0 := w) w.heap.size (by rfl) (.tmp 39) (.tmp 45) 22 43 (.agg #[(.int .i64 0), (.string ⟨#[]⟩), (.slice none 0 0), (.string ⟨#[]⟩), (.string ⟨#[]⟩), (.int .i64 0), (.int .i64 0), (.string ⟨#[]⟩), (.string ⟨#[]⟩), (.int .i64 0), (.int .i64 0), (.string ⟨#[]⟩), (.string ⟨#[]⟩), (.int .i64 0), (.int .i64 0), (.string ⟨#[]⟩), (.slice none 0 0)]) 232 rfl Try.underlying22 info43 rfl (by decide) (by omega) u175003 x175003_1 (⟨(za l0_3 (rd t166 x34_1)).f0, (⟨(za l0_3 (rd t166 x34_1)).f1.f0, (za l0_3 (rd t166 x34_1)).f1.f1⟩ : S36), (za l0_3 (rd t166 x34_1)).f2, (⟨(za l0_3 (rd t166 x34_1)).f3.f0, (⟨(za l0_3 (rd t166 x34_1)).f3.f1.f0, (za l0_3 (rd t166 x34_1)).f3.f1.f1, (za l0_3 (rd t166 x34_1)).f3.f1.f2⟩ : S38)⟩ : S40), (⟨(za l0_3 (rd t166 x34_1)).f4.f0, (⟨(za l0_3 (rd t166 x34_1)).f4.f1.f0, (za l0_3 (rd t166 x34_1)).f4.f1.f1, (za l0_3 (rd t166 x34_1)).f4.f1.f2⟩ : S38)⟩ : S40), (⟨(za l0_3 (rd t166 x34_1)).f5.f0, (⟨(za l0_3 (rd t166 x34_1)).f5.f1.f0, (za l0_3 (rd t166 x34_1)).f5.f1.f1, (za l0_3 (rd t166 x34_1)).f5.f1.f2⟩ : S38)⟩ : S40), (za l0_3 (rd t166 x34_1)).f6⟩ : S43) [.int .i64 ((za l0_3 (rd t166 x34_1)).f0), .string ((za l0_3 (rd t166 x34_1)).f1.f0), .slice A176_2 ((za l0_3 (rd t166 x34_1)).f1.f1).length c176_2, .string ((za l0_3 (rd t166 x34_1)).f2), .string ((za l0_3 (rd t166 x34_1)).f3.f0), .int .i64 ((za l0_3 (rd t166 x34_1)).f3.f1.f0), .int .i64 ((za l0_3 (rd t166 x34_1)).f3.f1.f1), .string ((za l0_3 (rd t166 x34_1)).f3.f1.f2), .string ((za l0_3 (rd t166 x34_1)).f4.f0), .int .i64 ((za l0_3 (rd t166 x34_1)).f4.f1.f0), .int .i64 ((za l0_3 (rd t166 x34_1)).f4.f1.f1), .string ((za l0_3 (rd t166 x34_1)).f4.f1.f2), .string ((za l0_3 (rd t166 x34_1)).f5.f0), .int .i64 ((za l0_3 (rd t166 x34_1)).f5.f1.f0), .int .i64 ((za l0_3 (rd t166 x34_1)).f5.f1.f1), .string ((za l0_3 (rd t166 x34_1)).f5.f1.f2), .slice A176_16 ((za l0_3 (rd t166 x34_1)).f6).length c176_16] (fun k_ => ((P0_1_ k_ ∨ P0_3_ k_) ∨ w.heap.size ≤ k_) ∧ some k_ ≠ (.slice (some ad175) t166.length co28 : Value).ownBlock ∧ k_ ≠ gb164 ∧ k_ ≠ gb165 ∧ k_ ≠ gb174) (fun k_ => ((fun k_ => ((P0_1_ k_ ∨ P0_3_ k_) ∨ w.heap.size ≤ k_) ∧ some k_ ≠ (.slice (some ad175) t166.length co28 : Value).ownBlock ∧ k_ ≠ gb164 ∧ k_ ≠ gb165 ∧ k_ ≠ gb174)) k_ ∧ some k_ ≠ (u175003 : Value).ownBlock) rfl rfl ?aP (fun _ hk => hk) ?aF ?aO ?aB ?aS ?aL ?_
           (case aP => exact (k43_mkF _ _ (⟨(za l0_3 (rd t166 x34_1)).f0, (⟨(za l0_3 (rd t166 x34_1)).f1.f0, (za l0_3 (rd t166 x34_1)).f1.f1⟩ : S36), (za l0_3 (rd t166 x34_1)).f2, (⟨(za l0_3 (rd t166 x34_1)).f3.f0, (⟨(za l0_3 (rd t166 x34_1)).f3.f1.f0, (za l0_3 (rd t166 x34_1)).f3.f1.f1, (za l0_3 (rd t166 x34_1)).f3.f1.f2⟩ : S38)⟩ : S40), (⟨(za l0_3 (rd t166 x34_1)).f4.f0, (⟨(za l0_3 (rd t166 x34_1)).f4.f1.f0, (za l0_3 (rd t166 x34_1)).f4.f1.f1, (za l0_3 (rd t166 x34_1)).f4.f1.f2⟩ : S38)⟩ : S40), (⟨(za l0_3 (rd t166 x34_1)).f5.f0, (⟨(za l0_3 (rd t166 x34_1)).f5.f1.f0, (za l0_3 (rd t166 x34_1)).f5.f1.f1, (za l0_3 (rd t166 x34_1)).f5.f1.f2⟩ : S38)⟩ : S40), (za l0_3 (rd t166 x34_1)).f6⟩ : S43) (Kd.ya (Kd.zy (ok' := (fun k_ => ((fun k_ => ((P0_1_ k_ ∨ P0_3_ k_) ∨ w.heap.size ≤ k_) ∧ some k_ ≠ (.slice (some ad175) t166.length co28 : Value).ownBlock ∧ k_ ≠ gb164 ∧ k_ ≠ gb165 ∧ k_ ≠ gb174)) k_ ∧ some k_ ≠ (u175003 : Value).ownBlock)) (HL176_2.out) (fun k_ hk => ⟨⟨hk.1, ⟨hk.2.1, ⟨hk.2.2.2.1, ⟨hk.2.2.2.2.1, hk.2.2.2.2.2⟩⟩⟩⟩, hk.2.2.1⟩))).2.1 (Kd.V_F (Kd.zy (ok' := (fun k_ => ((fun k_ => ((P0_1_ k_ ∨ P0_3_ k_) ∨ w.heap.size ≤ k_) ∧ some k_ ≠ (.slice (some ad175) t166.length co28 : Value).ownBlock ∧ k_ ≠ gb164 ∧ k_ ≠ gb165 ∧ k_ ≠ gb174)) k_ ∧ some k_ ≠ (u175003 : Value).ownBlock)) (HL176_2.out) (fun k_ hk => ⟨⟨hk.1, ⟨hk.2.1, ⟨hk.2.2.2.1, ⟨hk.2.2.2.2.1, hk.2.2.2.2.2⟩⟩⟩⟩, hk.2.2.1⟩))) (Kd.ya (Kd.zy (ok' := (fun k_ => ((fun k_ => ((P0_1_ k_ ∨ P0_3_ k_) ∨ w.heap.size ≤ k_) ∧ some k_ ≠ (.slice (some ad175) t166.length co28 : Value).ownBlock ∧ k_ ≠ gb164 ∧ k_ ≠ gb165 ∧ k_ ≠ gb174)) k_ ∧ some k_ ≠ (u175003 : Value).ownBlock)) (HL176_16.out) (fun k_ hk => ⟨⟨hk.1, ⟨hk.2.1, ⟨hk.2.2.2.1, ⟨hk.2.2.2.2.1, hk.2.2.2.2.2⟩⟩⟩⟩, hk.2.2.1⟩))).2.1 (Kd.V_F (Kd.zy (ok' := (fun k_ => ((fun k_ => ((P0_1_ k_ ∨ P0_3_ k_) ∨ w.heap.size ≤ k_) ∧ some k_ ≠ (.slice (some ad175) t166.length co28 : Value).ownBlock ∧ k_ ≠ gb164 ∧ k_ ≠ gb165 ∧ k_ ≠ gb174)) k_ ∧ some k_ ≠ (u175003 : Value).ownBlock)) (HL176_16.out) (fun k_ hk => ⟨⟨hk.1, ⟨hk.2.1, ⟨hk.2.2.2.1, ⟨hk.2.2.2.2.1, hk.2.2.2.2.2⟩⟩⟩⟩, hk.2.2.1⟩)))))
           (case aB => exact (by repeat (with_reducible first | refine zh ?_ ‹_› | exact HB.out | apply zd | apply zc | apply ze)))
           (case aF => exact (fun k_ hk => ⟨(.inr (Nat.le_trans (zi (by repeat (with_reducible first | refine zh ?_ ‹_› | exact HB.out | apply zd | apply zc | apply ze))) hk)), Kd.fresh' (Kd.R_lt (ur HO_32.out)) k_ hk, Kd.freshB (g := gb164) (o := .cells #[.string a0_0, .slice A0_1 l0_1.length c0_1, .int .i64 a0_2, .slice (some ad176) l0_3.length c0_3] 51 (0, 0)) (ul BK164.out) k_ hk, Kd.freshB (g := gb165) (o := .cells #[.string (⟨#[]⟩ : ByteArray), .slice none 0 0, .int .i64 0, .slice none 0 0] 51 (0, 0)) (ul BK165.out) k_ hk, Kd.freshB (g := gb174) (o := .cells #[.string a0_0, .slice A0_1 l0_1.length c0_1, .int .i64 a0_2, u175003] 51 (0, 0)) (ul BK174.out) k_ hk⟩))
           (case aO => exact (un HO_175003.out))
           (case aS => exact (zi (by repeat (with_reducible first | refine zh ?_ ‹_› | exact HB.out | apply zd | apply zc | apply ze))))
           (case aL => have := LMc34.out; omega)
           intro v178 w36 ho hb hg hat
           rw [← Ny177.out] at ho
           have n0_ := zb.mk (Kd.R_over' (ur HO_32.out) (Kd.N_typed (un HO_175003.out)) (by decide) hg)
           have n1_ := zb.mk (Kd.yS (ok := (fun k_ => ((P0_1_ k_ ∨ P0_3_ k_) ∨ w.heap.size ≤ k_) ∧ some k_ ≠ (.slice (some ad175) t166.length co28 : Value).ownBlock ∧ k_ ≠ gb164 ∧ k_ ≠ gb165 ∧ k_ ≠ gb174)) (uv (Kd.zy HO_165001.out (fun _ hk => ⟨⟨hk.1, ⟨hk.2.1, ⟨hk.2.2.2.1, ⟨hk.2.2.2.2.1, hk.2.2.2.2.2⟩⟩⟩⟩, hk.2.2.1⟩))) hg hat)
           have n2_ := zb.mk (Kd.yS (ok := (fun k_ => ((P0_1_ k_ ∨ P0_3_ k_) ∨ w.heap.size ≤ k_) ∧ some k_ ≠ (.slice (some ad175) t166.length co28 : Value).ownBlock ∧ k_ ≠ gb164 ∧ k_ ≠ gb165 ∧ k_ ≠ gb174)) (uv (Kd.zy HO_165003.out (fun _ hk => ⟨⟨hk.1, ⟨hk.2.1, ⟨hk.2.2.2.1, ⟨hk.2.2.2.2.1, hk.2.2.2.2.2⟩⟩⟩⟩, hk.2.2.1⟩))) hg hat)
           have n3_ := zb.mk (Kd.yS (ok := (fun k_ => ((P0_1_ k_ ∨ P0_3_ k_) ∨ w.heap.size ≤ k_) ∧ some k_ ≠ (.slice (some ad175) t166.length co28 : Value).ownBlock ∧ k_ ≠ gb164 ∧ k_ ≠ gb165 ∧ k_ ≠ gb174)) (uv (Kd.zy HO_175001.out (fun _ hk => ⟨⟨hk.1, ⟨hk.2.1, ⟨hk.2.2.2.1, ⟨hk.2.2.2.2.1, hk.2.2.2.2.2⟩⟩⟩⟩, hk.2.2.1⟩))) hg hat)
           have n4_ := zb.mk (yL (ul BK164.out) hg (Kd.N_ne HO_175003.out BK164.out (by decide)))
           have n5_ := zb.mk (yL (ul BK165.out) hg (Kd.N_ne HO_175003.out BK165.out (by decide)))
           have n6_ := zb.mk (yL (ul BK174.out) hg (Kd.N_ne HO_175003.out BK174.out (by decide)))
           have n7_ := zb.mk (Kd.yS (ok := (fun k_ => ((P0_1_ k_ ∨ P0_3_ k_) ∨ w.heap.size ≤ k_) ∧ some k_ ≠ (.slice (some ad175) t166.length co28 : Value).ownBlock ∧ k_ ≠ gb164 ∧ k_ ≠ gb165 ∧ k_ ≠ gb174)) (uv (Kd.zy HL176_2.out (fun _ hk => ⟨⟨hk.1, ⟨hk.2.1, ⟨hk.2.2.2.1, ⟨hk.2.2.2.2.1, hk.2.2.2.2.2⟩⟩⟩⟩, hk.2.2.1⟩))) hg hat)
           have n8_ := zb.mk (Kd.yS (ok := (fun k_ => ((P0_1_ k_ ∨ P0_3_ k_) ∨ w.heap.size ≤ k_) ∧ some k_ ≠ (.slice (some ad175) t166.length co28 : Value).ownBlock ∧ k_ ≠ gb164 ∧ k_ ≠ gb165 ∧ k_ ≠ gb174)) (uv (Kd.zy HL176_16.out (fun _ hk => ⟨⟨hk.1, ⟨hk.2.1, ⟨hk.2.2.2.1, ⟨hk.2.2.2.2.1, hk.2.2.2.2.2⟩⟩⟩⟩, hk.2.2.1⟩))) hg hat)
           have n9_ := zb.mk (hb)
           have n10_ := zb.mk (ho)
           clear HO_32
           clear HO_165001
           clear HO_165003
           clear HO_175001
           clear BK164
           clear BK165
           clear BK174
           clear HL176_2
           clear HL176_16
           clear HB
           clear HO_175003
           have HO_32 := n0_
           have HO_165001 := n1_
           have HO_165003 := n2_
           have HO_175001 := n3_
           have BK164 := n4_
           have BK165 := n5_
           have BK174 := n6_
           have HL176_2 := n7_
           have HL176_16 := n8_
           have HB := n9_
           have HO179 := n10_
           clear n0_ n1_ n2_ n3_ n4_ n5_ n6_ n7_ n8_ n9_ n10_
           clear ho hb hg hat
           obtain ⟨Ao37, co37, eo37⟩ := Kd.qk HO179.out
           (first | subst eo37 | (injection eo37 with f1_ f2_ f3_; have f4_ := f1_.symm; have f5_ := f3_.symm; clear f1_ f2_ f3_; subst f4_; subst f5_))
           refine hK.out _ _ ?_
           clear hK K
           refine norm_ (a' := ?_) ?_ ?_
           rotate_left
           ·show Act.put _ (some 46) _ = _
            simp only [Act.put, List.setIfInBounds_toArray, List.set_cons_zero, List.set_cons_succ, i64_w, i32_w]
            rfl
           refine pure_ (i := 9) (N := some 47) (v := ?_) (a' := ?_) #[true, true, true, true, true, true, true, true, true, true, false] rfl rfl (yn HT_.out (by kernel_rfl)) (fun _ _ _ h => h) (Or.inl ⟨by rfl, ?_⟩) ?_ ?_
           rotate_left
           ·intro w'
            go_simp
            with_reducible rfl
           rotate_left
           ·simp only [Act.put, List.setIfInBounds_toArray, List.set_cons_zero, List.set_cons_succ, i64_w, i32_w]
            rfl
           refine last_ (i := 10) (N := none) #[true, true, true, true, true, true, true, true, true, true, true] rfl rfl (ql HT_.out (by kernel_rfl)) (by decide) (fun K hK => ?_)
           have hs38 : w36.cell? ⟨gb174, 3, none⟩ = some (u175003) := (zf BK174.out 3).trans rfl
           have hfs38 := zX BK174.out 3
           have hns38_0 := NB164_174.out
           have hns38_1 := NB165_174.out
           have hms38_0 := NB174_164.out
           have hms38_1 := NB174_165.out
           refine skip_ (w1 := ?_) (by rfl) rfl ?_ ?_
           rotate_left
           ·go_simp
            rfl
           refine hK.out _ _ ?_
           clear hK K
           refine done_ (done_of HT_.out (by kernel_rfl)) ?_
           try go_wp2
           go_roundg k1
           case measure => have := HK1.out; omega
           case rel => exact ⟨(wrap64 (x34_1 + 1)), (y177), (.slice Ao37 y177.length co37), (by first | rfl | (simp; done) | (simp [*]; done)), H', ⟨by have := HK1.out; omega⟩, ⟨ur (Kd.yt (Kd.R_far (p := ⟨gb174, 3, none⟩) (Kd.qd HO_32.out BK174.out (by decide)) (fun _ hk => hk.2) (.slice Ao37 y177.length co37)) (fun _ hk => hk.1))⟩, ⟨uv (Kd.zy (Kd.V_far (p := ⟨gb174, 3, none⟩) (Kd.zy HO_165001.out (fun k_ hk => (⟨hk, hk.1.2.2.2.2⟩ : _ ∧ k_ ≠ gb174))) (fun _ hk => hk.2) (.slice Ao37 y177.length co37)) (fun _ hk => ⟨hk.1.1.1, ⟨hk.1.1.2.1, ⟨hk.1.2, ⟨hk.1.1.2.2.1, ⟨hk.1.1.2.2.2.1, hk.1.1.2.2.2.2⟩⟩⟩⟩⟩))⟩, ⟨uv (Kd.zy (Kd.V_far (p := ⟨gb174, 3, none⟩) (Kd.zy HO_165003.out (fun k_ hk => (⟨hk, hk.1.2.2.2.2⟩ : _ ∧ k_ ≠ gb174))) (fun _ hk => hk.2) (.slice Ao37 y177.length co37)) (fun _ hk => ⟨hk.1.1.1, ⟨hk.1.1.2.1, ⟨hk.1.2, ⟨hk.1.1.2.2.1, ⟨hk.1.1.2.2.2.1, hk.1.1.2.2.2.2⟩⟩⟩⟩⟩))⟩, ⟨uv (Kd.zy (Kd.V_far (p := ⟨gb174, 3, none⟩) (Kd.zy HO_175001.out (fun k_ hk => (⟨hk, hk.1.2.2.2.2⟩ : _ ∧ k_ ≠ gb174))) (fun _ hk => hk.2) (.slice Ao37 y177.length co37)) (fun _ hk => ⟨hk.1.1.1, ⟨hk.1.1.2.1, ⟨hk.1.2, ⟨hk.1.1.2.2.1, ⟨hk.1.1.2.2.2.1, hk.1.1.2.2.2.2⟩⟩⟩⟩⟩))⟩, ⟨un (Kd.zY (Kd.N_far (p := ⟨gb174, 3, none⟩) (Kd.zY HO179.out (fun k_ hk => (⟨hk, hk.2.2.2.2⟩ : _ ∧ k_ ≠ gb174))) (fun _ hk => hk.2) (.slice Ao37 y177.length co37)) (fun _ hk => ⟨hk.1.1, ⟨hk.1.2.1, ⟨hk.1.2.2.1, ⟨hk.1.2.2.2.1, hk.1.2.2.2.2⟩⟩⟩⟩))⟩, ⟨by (with_reducible repeat (first | refine ye ?_ NB164_174.out _ | refine zC ?_ _ | refine zD ?_ | refine zw ?_ _)); exact BK164.out⟩, ⟨by (with_reducible repeat (first | refine ye ?_ NB165_174.out _ | refine zC ?_ _ | refine zD ?_ | refine zw ?_ _)); exact BK165.out⟩, ⟨by (with_reducible repeat (first | refine zC ?_ _ | refine zD ?_ | refine zw ?_ _)); exact zB (ul BK174.out) 3 _ rfl⟩, ⟨by repeat (with_reducible first | refine zh ?_ ‹_› | exact HB.out | apply zd | apply zc | apply ze)⟩⟩
          ·rw [if_neg c34] at H
           exact absurd H (by simp)
         ·rw [if_neg c33] at H
          exact absurd H (by simp)
        ·rw [if_neg c32] at H
         exact absurd H (by simp)
       ·rw [if_neg c31] at H
        exact absurd H (by simp)
      ·rw [if_neg c30] at H
       exact absurd H (by simp)
     ·rw [if_neg c29] at H
      have c29b0 : decide (x34_1 < (t166.length : Int)) = false := decide_eq_false c29
      clear c29
      simp only [Option.some.injEq, Prod.mk.injEq] at H
      obtain ⟨rfl, rfl, rfl, rfl, rfl⟩ := H
      have hnb39 := NB174_164.out
      have hnc39 := NB164_174.out
      have hnb40 := NB174_165.out
      have hnc40 := NB165_174.out
      obtain ⟨hcz41_0, hcz41_1, hcz41_2, hcz41_3⟩ := blk4 BK174.out
      obtain ⟨hfz41_0, hfz41_1, hfz41_2, hfz41_3⟩ := frz4 BK174.out
      have hnb42 := NB165_164.out
      have hnc42 := NB164_165.out
      obtain ⟨hcz43_0, hcz43_1, hcz43_2, hcz43_3⟩ := blk4 BK165.out
      obtain ⟨hfz43_0, hfz43_1, hfz43_2, hfz43_3⟩ := frz4 BK165.out
      obtain ⟨Ao44, co44, eo44⟩ := Kd.qk HO_175003.out
      subst eo44
      go_wp2
      refine bodyPost_ret (qn rfl _ _ gb165 51 #[.string a0_0, .slice A0_1 l0_1.length c0_1, .int .i64 a0_2, .slice Ao44 x175003_1.length co44] (0, 0) _ rfl (by (with_reducible repeat (first | refine zC ?_ _ | refine zD ?_ | refine zw ?_ _)); exact zB (zB (zB (zB (ul BK165.out) 0 _ rfl) 1 _ rfl) 2 _ rfl) 3 _ rfl) Try.underlying51 rfl (by kernel_rfl)) rfl ?_
      exact ⟨_, _, by first | rfl | (simp [zA, zz] <;> rfl) | (simp [*, zA, zz] <;> rfl), by (with_reducible repeat (first | apply Kd.V_alloc | apply Kd.V_drewN | apply Kd.V_drew)); exact Kd.zy (Kd.V_far (p := ⟨gb165, 3, none⟩) (Kd.V_far (p := ⟨gb165, 2, none⟩) (Kd.V_far (p := ⟨gb165, 1, none⟩) (Kd.V_far (p := ⟨gb165, 0, none⟩) (Kd.zy HO_175001.out (fun k_ hk => (⟨hk, hk.2.2.2.2.1⟩ : _ ∧ k_ ≠ gb165))) (fun _ hk => hk.2) (.string a0_0)) (fun _ hk => hk.2) (.slice A0_1 l0_1.length c0_1)) (fun _ hk => hk.2) (.int .i64 a0_2)) (fun _ hk => hk.2) (.slice Ao44 x175003_1.length co44)) (fun _ hk => ⟨hk.1.1, hk.1.2.2.1⟩), by (with_reducible repeat (first | apply Kd.N_alloc | apply Kd.N_drewN | apply Kd.N_drew)); exact Kd.zY (Kd.N_far (p := ⟨gb165, 3, none⟩) (Kd.N_far (p := ⟨gb165, 2, none⟩) (Kd.N_far (p := ⟨gb165, 1, none⟩) (Kd.N_far (p := ⟨gb165, 0, none⟩) (Kd.zY HO_175003.out (fun k_ hk => (⟨hk, hk.2.2.2.1⟩ : _ ∧ k_ ≠ gb165))) (fun _ hk => hk.2) (.string a0_0)) (fun _ hk => hk.2) (.slice A0_1 l0_1.length c0_1)) (fun _ hk => hk.2) (.int .i64 a0_2)) (fun _ hk => hk.2) (.slice Ao44 x175003_1.length co44)) (fun _ hk => hk.1.1), by repeat (with_reducible first | refine zh ?_ ‹_› | exact HB.out | apply zd | apply zc | apply ze)⟩
 ·rw [if_neg c3] at H
  have c3b0 : (t168 == 0) = false := beq_eq_false_iff_ne.mpr c3
  have c3b1 : (t168 != 0) = true := bne_iff_ne.mpr c3
  simp only [Option.some.injEq, Prod.mk.injEq] at H
  obtain ⟨rfl, rfl, rfl, rfl, rfl⟩ := H
  go_enter Try.func20, Try.ntmps20
  go_wp2_with (first | ((with_reducible refine zQ (N := 1) rfl ?_); refine zM ?hg (N := 1) ?hd (cs := #[.string a0_0, .slice A0_1 l0_1.length c0_1, .int .i64 a0_2, .slice A0_3 l0_3.length c0_3]) (t := 51) ?hr ?_; (case hd => rfl); (case hg => rfl); (case hr => first | (go_simp; done) | (go_simp; rfl)); intro gb164 hg w45 hbox hb; have n0_ := zb.mk (Kd.zN (Kd.zI (uv HO0_1.out) gb164 (Nat.le_of_eq hg.symm)) hb); have n1_ := zb.mk (Kd.zN (Kd.zI (uv HO0_3.out) gb164 (Nat.le_of_eq hg.symm)) hb); have n2_ := zb.mk (zn (ub HB.out) hb); have n3_ := zb.mk (hbox); have n4_ := zb.mk ((by rw [hg]; exact (zi (ub HB.out)) : w.heap.size ≤ gb164)); have n5_ := zb.mk ((by rw [hg]; exact (zi (ub HB.out)) : w.heap.size ≤ gb164)); clear HO0_1; clear HO0_3; clear HB; have HO0_1 := n0_; have HO0_3 := n1_; have HB := n2_; have BK164 := n3_; have GW164 := n4_; have GE164 := n5_; clear n0_ n1_ n2_ n3_ n4_ n5_; clear hb hbox hg) | ((with_reducible refine zQ (N := 2) rfl ?_); refine zM ?hg (N := 2) ?hd (cs := #[.string (⟨#[]⟩ : ByteArray), .slice none 0 0, .int .i64 0, .slice none 0 0]) (t := 51) ?hr ?_; (case hd => rfl); (case hg => rfl); (case hr => first | (go_simp; done) | (go_simp; rfl)); intro gb165 hg w46 hbox hb; have n0_ := zb.mk (Kd.zN (Kd.zI (uv HO0_1.out) gb165 (Nat.le_of_eq hg.symm)) hb); have n1_ := zb.mk (Kd.zN (Kd.zI (uv HO0_3.out) gb165 (Nat.le_of_eq hg.symm)) hb); have n2_ := zb.mk (zo (ul BK164.out) hb); have n3_ := zb.mk (zn (by repeat (with_reducible first | refine zh ?_ ‹_› | exact HB.out | apply zd | apply zc | apply ze)) hb); have n4_ := zb.mk (hbox); have n5_ := zb.mk ((by rw [hg]; exact (zi (by repeat (with_reducible first | refine zh ?_ ‹_› | exact HB.out | apply zd | apply zc | apply ze))) : w.heap.size ≤ gb165)); have n6_ := zb.mk ((by rw [hg]; exact (zi (by repeat (with_reducible first | refine zh ?_ ‹_› | exact HB.out | apply zd | apply zc | apply ze))) : w.heap.size ≤ gb165)); have n7_ := zb.mk ((by rw [hg]; exact Nat.ne_of_lt (zO (ul BK164.out)) : gb164 ≠ gb165)); have n8_ := zb.mk ((by rw [hg]; exact Nat.ne_of_gt (zO (ul BK164.out)) : gb165 ≠ gb164)); clear HO0_1; clear HO0_3; clear BK164; clear HB; have HO0_1 := n0_; have HO0_3 := n1_; have BK164 := n2_; have HB := n3_; have BK165 := n4_; have GW165 := n5_; have GE165 := n6_; have NB164_165 := n7_; have NB165_164 := n8_; clear n0_ n1_ n2_ n3_ n4_ n5_ n6_ n7_ n8_; clear hb hbox hg; have hnb47 := NB164_165.out; have hnc47 := NB165_164.out; obtain ⟨hcz48_0, hcz48_1, hcz48_2, hcz48_3⟩ := blk4 BK164.out; obtain ⟨hfz48_0, hfz48_1, hfz48_2, hfz48_3⟩ := frz4 BK164.out) | ((with_reducible refine zP (f := 11) rfl ?_); refine yH (some 13) rfl rfl Try.func11 (by kernel_rfl) rfl #[.slice A0_3 l0_3.length c0_3, .slice none 0 0] rfl (by (try simp only [List.map_toArray, List.map_cons, List.map_nil]); first | done | rfl | (simp only [List.length_drop, List.length_take]; rfl)) ?_; (refine (zJ.calls k _ _ l0_3 _ _ ([] : List ByteArray) t166 t167 t168 _ ?side1 ?side2 ?side3 ?side4 A2.out).mono ?_); (case side1 => repeat (first | exact (Kd.ya HO0_3.out).2.2 | (with_reducible refine Kd.yw ?_ _) | (with_reducible refine Kd.yv ?_ _) | (with_reducible refine Kd.yP ?_))); (case side2 => exact (Kd.ya HO0_3.out).2.1); (case side3 => exact Kd.C_nil _ _); (case side4 => exact Nat.le_refl _); rintro e w49 ⟨v169, v171, rfl, ho0, ho1, hb⟩; refine ⟨_, rfl, ?_⟩; have n0_ := zb.mk (Kd.zy (Kd.qD (Kd.qD (Kd.V_old (uv HO0_1.out) hb) (Kd.yI ho0)) (Kd.yI ho1)) (fun _ h_ => h_.1)); have n1_ := zb.mk (Kd.zy (Kd.qD (Kd.qD (Kd.V_old (uv HO0_3.out) hb) (Kd.yI ho0)) (Kd.yI ho1)) (fun _ h_ => h_.1)); have n2_ := zb.mk (Kd.yr (Kd.R_newM (M := fun k_ => (w.heap.size ≤ k_)) ho0 (zi (by repeat (with_reducible first | refine zh ?_ ‹_› | exact HB.out | apply zd | apply zc | apply ze))) (fun k_ h_ => h_)) (zi (by repeat (with_reducible first | refine zh ?_ ‹_› | exact HB.out | apply zd | apply zc | apply ze)))); have n3_ := zb.mk (Kd.yr (Kd.R_newM (M := fun k_ => (w.heap.size ≤ k_)) ho1 (zi (by repeat (with_reducible first | refine zh ?_ ‹_› | exact HB.out | apply zd | apply zc | apply ze))) (fun k_ h_ => h_)) (zi (by repeat (with_reducible first | refine zh ?_ ‹_› | exact HB.out | apply zd | apply zc | apply ze)))); have n4_ := zb.mk (zo (ul BK164.out) hb); have n5_ := zb.mk (zo (ul BK165.out) hb); have n6_ := zb.mk (zn (by repeat (with_reducible first | refine zh ?_ ‹_› | exact HB.out | apply zd | apply zc | apply ze)) hb); clear HO0_1; clear HO0_3; clear BK164; clear BK165; clear HB; have HO0_1 := n0_; have HO0_3 := n1_; have HO170 := n2_; have HO172 := n3_; have BK164 := n4_; have BK165 := n5_; have HB := n6_; clear n0_ n1_ n2_ n3_ n4_ n5_ n6_; (try clear hb); (try clear hb2); (try clear hk); (try clear hi); (try clear ho0); (try clear ho1); have hcz50_0 : w49.cell? ⟨gb165, 0, none⟩ = some (.string (⟨#[]⟩ : ByteArray)) := (zf BK165.out 0).trans rfl; have hcy50_0_165 : ∀ o_, (w49.alloc o_).cell? ⟨gb165, 0, none⟩ = some (.string (⟨#[]⟩ : ByteArray)) := fun o_ => (zf (zw BK165.out o_) 0).trans rfl; have hfy50_0_165 := fun o_ => zX (zw BK165.out o_) 0; have hcz50_1 : w49.cell? ⟨gb165, 1, none⟩ = some (.slice none 0 0) := (zf BK165.out 1).trans rfl; have hcy50_1_165 : ∀ o_, (w49.alloc o_).cell? ⟨gb165, 1, none⟩ = some (.slice none 0 0) := fun o_ => (zf (zw BK165.out o_) 1).trans rfl; have hfy50_1_165 := fun o_ => zX (zw BK165.out o_) 1; have hcz50_2 : w49.cell? ⟨gb165, 2, none⟩ = some (.int .i64 0) := (zf BK165.out 2).trans rfl; have hcy50_2_165 : ∀ o_, (w49.alloc o_).cell? ⟨gb165, 2, none⟩ = some (.int .i64 0) := fun o_ => (zf (zw BK165.out o_) 2).trans rfl; have hfy50_2_165 := fun o_ => zX (zw BK165.out o_) 2; have hcz50_3 : w49.cell? ⟨gb165, 3, none⟩ = some (.slice none 0 0) := (zf BK165.out 3).trans rfl; have hcy50_3_165 : ∀ o_, (w49.alloc o_).cell? ⟨gb165, 3, none⟩ = some (.slice none 0 0) := fun o_ => (zf (zw BK165.out o_) 3).trans rfl; have hfy50_3_165 := fun o_ => zX (zw BK165.out o_) 3; obtain ⟨hfz50_0, hfz50_1, hfz50_2, hfz50_3⟩ := frz4 BK165.out; obtain ⟨Ao51, co51, eo51⟩ := Kd.yx HO172.out; subst eo51))
  refine bodyPost_ret (qn rfl _ _ gb165 51 #[.string (⟨#[]⟩ : ByteArray), .slice none 0 0, .int .i64 0, .slice none 0 0] (0, 0) _ rfl (by (with_reducible repeat (first | refine zC ?_ _ | refine zD ?_ | refine zw ?_ _)); exact zB (zB (zB (zB (ul BK165.out) 0 _ rfl) 1 _ rfl) 2 _ rfl) 3 _ rfl) Try.underlying51 rfl (by kernel_rfl)) rfl ?_
  exact ⟨_, _, by first | rfl | (simp [zA, zz] <;> rfl) | (simp [*, zA, zz] <;> rfl), Kd.V_nil _ _ _ _ _, by first | exact Kd.S_nil _ _ _ _ _ | exact Kd.N_nil _ _ _ _ _ | exact Kd.V_nil _ _ _ _ _ | exact Kd.Q_nil _ _ _ _ _ | exact Kd.R_nil _ _ _ _ _, by repeat (with_reducible first | refine zh ?_ ‹_› | exact HB.out | apply zd | apply zc | apply ze)⟩
end Go.Proofs.Ytmgbfgloegcloaa.Ps
