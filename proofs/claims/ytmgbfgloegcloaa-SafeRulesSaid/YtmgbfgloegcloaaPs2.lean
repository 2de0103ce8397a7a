import Derived.Test.YtmgbfgloegcloaaZip
import Derived.Test.YtmgbfgloegcloaaPsD
import Derived.Test.YtmgbfgloegcloaaGlib
namespace Go.Proofs.Ytmgbfgloegcloaa.Ps
open Go.RowKit Go.Proofs.YtmgbfgloegcloaaW.PrintWords Go.Proofs.YtmgbfgloegcloaaW.PrintLast Go.Proofs.YtmgbfgloegcloaaW.PrintMore
attribute [local go_sem] yD yB yR yQ ym yl yC yA
set_option linter.unusedVariables false
set_option linter.unusedSimpArgs false
set_option maxHeartbeats 8000000 in
set_option maxRecDepth 100000 in
theorem zZ.calls (k : Nat) (A0 : Option Addr) (c0 : Nat) (l0 : List (S40)) (A1 : Option Addr) (c1 : Nat) (l1 : List ByteArray) (r : List ByteArray) (w : World) (hr0 : Kd.C k40 w A0 l0.length l0) (hc0 : l0.length ≤ c0) (hr1 : Kd.C Kd.string w A1 l1.length l1) (hc1 : l1.length ≤ c1) (h : zZ.f k l0 l1 = some r) :
  Calls Try.prog 27 #[.slice A0 l0.length c0, .slice A1 l1.length c1] w fun e w' => ∃ v0_ : Value, e = .returned (v0_) ∧ Kd.R Kd.string 9 w' w.heap.size (fun _ => True) v0_ r ∧ Below w.heap.size w w' := by
 have hu40 := Try.underlying40
 have HR0 := zb.mk hr0
 have HC0 := zb.mk hc0
 clear hr0 hc0
 have HR1 := zb.mk hr1
 have HC1 := zb.mk hc1
 clear hr1 hc1
 have HB := zb.mk (Below.refl w.heap.size w)
 have H : ((yo.f l1).bind fun t101 => (zZ.l0 k t101 l0 (l0.length : Int) 0)) = some r := h
 clear h
 replace H := Option.bind_eq_some_iff.mp H
 obtain ⟨t101, A30, H⟩ := H
 replace H : (zZ.l0 k t101 l0 (l0.length : Int) 0) = some r := H
 have A3 := zb.mk A30
 clear A30
 have H' := zb.mk H
 clear H
 go_enter Try.func27, Try.ntmps27
 go_wp2_with (first | ((with_reducible refine zP (f := 38) rfl ?_); refine yH (some 9) rfl rfl Try.func38 (by kernel_rfl) rfl #[.slice A1 l1.length c1] rfl (by (try simp only [List.map_toArray, List.map_cons, List.map_nil]); first | done | rfl | (simp only [List.length_drop, List.length_take]; rfl)) ?_; (with_reducible refine (yo.calls _ _ l1 t101 _ ?side1 ?side2 A3.out).mono ?_); (case side1 => repeat (first | exact HR1.out | (with_reducible refine Kd.yw ?_ _) | (with_reducible refine Kd.yv ?_ _) | (with_reducible refine Kd.yP ?_))); (case side2 => exact HC1.out); rintro e w4 ⟨v102, rfl, ho0, hb⟩; refine ⟨_, rfl, ?_⟩; have n0_ := zb.mk (Kd.yr ho0 (zi (ub HB.out))); have n1_ := zb.mk (zn (ub HB.out) hb); clear HB; have HO103 := n0_; have HB := n1_; clear n0_ n1_; (try clear hb); (try clear hb2); (try clear hk); (try clear hi); (try clear ho0)))
 go_loopg [5, 12] k (fun kq v5 v12 w' => ∃ (x5_1 : List ByteArray) (x12_1 : Int), v12 = .int .i64 x12_1 ∧ zb (zZ.l0 kq x5_1 l0 (l0.length : Int) x12_1 = some r) ∧ zb (kq ≤ k) ∧ zb (Kd.R Kd.string 9 w' w.heap.size (fun _ => True) v5 x5_1) ∧ zb (Below w.heap.size w w'))
 case atStart => exact ⟨(t101), (0), (by first | rfl | (simp; done) | (simp [*]; done)), H', ⟨Nat.le_refl _⟩, ⟨ur HO103.out⟩, ⟨ub HB.out⟩⟩
 case round =>
  clear H'
  try clear c1
  try clear c2
  try clear p2
  try clear c3
  obtain ⟨x5_1, x12_1, rfl, HA, HK1, HO_5, HB⟩ := hrel
  cases gk with
  | zero => exact absurd HA.out (by simp [zZ.l0])
  | succ k1 =>
   have H := HA.out
   clear HA
   simp only [zZ.l0] at H
   by_cases c5 : x12_1 < (l0.length : Int)
   ·rw [if_pos c5] at H
    have c5b0 : decide (x12_1 < (l0.length : Int)) = true := decide_eq_true c5
    clear c5
    by_cases c6 : 0 ≤ x12_1
    ·rw [if_pos c6] at H
     have c6b0 : decide (0 ≤ x12_1) = true := decide_eq_true c6
     clear c6
     by_cases c7 : x12_1 < (l0.length : Int)
     ·rw [if_pos c7] at H
      have c7b0 : decide (x12_1 < (l0.length : Int)) = true := decide_eq_true c7
      clear c7
      by_cases c8 : ((yf l0 x12_1).f0).toList = ([] : List UInt8)
      ·rw [if_pos c8] at H
       have c8b0 : (((yf l0 x12_1).f0).toList == ([] : List UInt8)) = true := beq_iff_eq.mpr c8
       have c8b1 : (((yf l0 x12_1).f0).toList != ([] : List UInt8)) = false := bne_eq_false_iff_eq.mpr c8
       clear c8
       have H' := zb.mk H
       clear H
       have p104 : 0 ≤ (x12_1 : Int) := zdd
       have q104 : x12_1 < (l0.length : Int) := zdd
       obtain ⟨ad104, e104, hx104_0, hx104_1, hx104_2, hx104_3⟩ := at_T40 HR0.out x12_1 p104 q104
       cases e104
       obtain ⟨hx104_0, hx104_1, hx104_2, hx104_3⟩ := lift4 HB.out hx104_0 hx104_1 hx104_2 hx104_3
       replace p104 := eq_true p104
       replace q104 := eq_true q104
       go_wp2_with (first | ((with_reducible refine zQ (N := 7) rfl ?_); refine zM ?hg (N := 7) ?hd (cs := #[.string (⟨#[]⟩ : ByteArray), .int .i64 0, .int .i64 0, .string (⟨#[]⟩ : ByteArray)]) (t := 40) ?hr ?_; (case hd => rfl); (case hg => rfl); (case hr => first | (go_simp; done) | (go_simp; rfl)); intro gb105 hg w9 hbox hb; have n0_ := zb.mk (Kd.yb (ur HO_5.out) hb); have n1_ := zb.mk (zn (ub HB.out) hb); have n2_ := zb.mk (hbox); have n3_ := zb.mk ((by rw [hg]; exact (zi (ub HB.out)) : w.heap.size ≤ gb105)); have n4_ := zb.mk ((by rw [hg]; exact (zi (ub HB.out)) : w.heap.size ≤ gb105)); clear HO_5; clear HB; have HO_5 := n0_; have HB := n1_; have BK105 := n2_; have GW105 := n3_; have GE105 := n4_; clear n0_ n1_ n2_ n3_ n4_; clear hb hbox hg; obtain ⟨hcz10_0, hcz10_1, hcz10_2, hcz10_3⟩ := blk4 BK105.out; obtain ⟨hfz10_0, hfz10_1, hfz10_2, hfz10_3⟩ := frz4 BK105.out))
       go_roundg k1
       case measure => have := HK1.out; omega
       case rel => exact ⟨(x5_1), (wrap64 (x12_1 + 1)), (by first | rfl | (simp; done) | (simp [*]; done)), H', ⟨by have := HK1.out; omega⟩, ⟨ur (Kd.yt (Kd.R_far (p := ⟨gb105, 3, none⟩) (Kd.R_far (p := ⟨gb105, 2, none⟩) (Kd.R_far (p := ⟨gb105, 1, none⟩) (Kd.R_far (p := ⟨gb105, 0, none⟩) (Kd.qd HO_5.out BK105.out (by decide)) (fun _ hk => hk.2) (.string ((yf l0 x12_1).f0))) (fun _ hk => hk.2) (.int .i64 ((yf l0 x12_1).f1.f0))) (fun _ hk => hk.2) (.int .i64 ((yf l0 x12_1).f1.f1))) (fun _ hk => hk.2) (.string ((yf l0 x12_1).f1.f2))) (fun _ hk => trivial))⟩, ⟨by repeat (first | exact ub HB.out | apply zd | apply zc | apply ze | refine zh ?_ ‹_›)⟩⟩
      ·rw [if_neg c8] at H
       have c8b0 : (((yf l0 x12_1).f0).toList == ([] : List UInt8)) = false := beq_eq_false_iff_ne.mpr c8
       have c8b1 : (((yf l0 x12_1).f0).toList != ([] : List UInt8)) = true := bne_iff_ne.mpr c8
       by_cases c11 : x5_1.length < 8796093022208
       ·rw [if_pos c11] at H
        have LMc11 := zb.mk c11
        clear c11
        obtain ⟨y106, hy106⟩ : ∃ y_ : List ByteArray, y_ = (x5_1 ++ [(yf l0 x12_1).f0]) := ⟨_, rfl⟩
        replace H : (zZ.l0 k1 y106 l0 (l0.length : Int) (wrap64 (x12_1 + 1))) = some r := by first | (rw [hy106]; with_reducible exact H) | (have H2_ := (Option.bind_some _ _).symm.trans H; rw [hy106]; with_reducible exact H2_) | (have H2_ := (Option.bind_some _ _).symm.trans H; with_reducible exact H2_) | with_reducible exact H | (rw [hy106]; exact H) | exact H
        have Ny106 := zb.mk hy106
        clear hy106
        have H' := zb.mk H
        clear H
        have p104 : 0 ≤ (x12_1 : Int) := zdd
        have q104 : x12_1 < (l0.length : Int) := zdd
        obtain ⟨ad104, e104, hx104_0, hx104_1, hx104_2, hx104_3⟩ := at_T40 HR0.out x12_1 p104 q104
        cases e104
        obtain ⟨hx104_0, hx104_1, hx104_2, hx104_3⟩ := lift4 HB.out hx104_0 hx104_1 hx104_2 hx104_3
        replace p104 := eq_true p104
        replace q104 := eq_true q104
        go_wp2_with (first | ((with_reducible refine zQ (N := 7) rfl ?_); refine zM ?hg (N := 7) ?hd (cs := #[.string (⟨#[]⟩ : ByteArray), .int .i64 0, .int .i64 0, .string (⟨#[]⟩ : ByteArray)]) (t := 40) ?hr ?_; (case hd => rfl); (case hg => rfl); (case hr => first | (go_simp; done) | (go_simp; rfl)); intro gb105 hg w12 hbox hb; have n0_ := zb.mk (Kd.yb (ur HO_5.out) hb); have n1_ := zb.mk (zn (ub HB.out) hb); have n2_ := zb.mk (hbox); have n3_ := zb.mk ((by rw [hg]; exact (zi (ub HB.out)) : w.heap.size ≤ gb105)); have n4_ := zb.mk ((by rw [hg]; exact (zi (ub HB.out)) : w.heap.size ≤ gb105)); clear HO_5; clear HB; have HO_5 := n0_; have HB := n1_; have BK105 := n2_; have GW105 := n3_; have GE105 := n4_; clear n0_ n1_ n2_ n3_ n4_; clear hb hbox hg; obtain ⟨hcz13_0, hcz13_1, hcz13_2, hcz13_3⟩ := blk4 BK105.out; obtain ⟨hfz13_0, hfz13_1, hfz13_2, hfz13_3⟩ := frz4 BK105.out) | ((with_reducible refine qa (b := .append) (xs := #[.tmp 19, .tmp 22]) rfl ?_); at_builtin; refine Kd.R_append Kd.string (w0 := w) w.heap.size rfl (.tmp 19) (.tmp 22) 23 9 (.string ⟨#[]⟩) 16 rfl Try.underlying23 info9 rfl (by decide) (by omega) u5 x5_1 ((yf l0 x12_1).f0) [.string ((yf l0 x12_1).f0)] (fun _ => True) (fun _ => False) rfl (by first | (go_simp; done) | (go_simp; rfl)) ?aP (fun _ hk => hk.elim) ?aF ?aO ?aB ?aS ?aL ?_; (case aP => exact rfl); (case aB => exact (by repeat (first | exact ub HB.out | apply zd | apply zc | apply ze | refine zh ?_ ‹_›))); (case aF => exact (fun _ _ => trivial)); (case aO => exact (ur (Kd.yt (Kd.R_far (p := ⟨gb105, 3, none⟩) (Kd.R_far (p := ⟨gb105, 2, none⟩) (Kd.R_far (p := ⟨gb105, 1, none⟩) (Kd.R_far (p := ⟨gb105, 0, none⟩) (Kd.qd HO_5.out BK105.out (by decide)) (fun _ hk => hk.2) (.string ((yf l0 x12_1).f0))) (fun _ hk => hk.2) (.int .i64 ((yf l0 x12_1).f1.f0))) (fun _ hk => hk.2) (.int .i64 ((yf l0 x12_1).f1.f1))) (fun _ hk => hk.2) (.string ((yf l0 x12_1).f1.f2))) (fun _ hk => trivial)))); (case aS => exact (zi (by repeat (first | exact ub HB.out | apply zd | apply zc | apply ze | refine zh ?_ ‹_›)))); (case aL => have := LMc11.out; omega); intro v107 w14 ho hb hg hat; rw [← Ny106.out] at ho; have n0_ := zb.mk (yL (g := gb105) (o := .cells #[.string ((yf l0 x12_1).f0), .int .i64 ((yf l0 x12_1).f1.f0), .int .i64 ((yf l0 x12_1).f1.f1), .string ((yf l0 x12_1).f1.f2)] 40 (0, 0)) (by (with_reducible repeat (first | refine zC ?_ _ | refine zD ?_ | refine zw ?_ _)); exact zB (zB (zB (zB (ul BK105.out) 0 _ rfl) 1 _ rfl) 2 _ rfl) 3 _ rfl) hg (Kd.R_ne HO_5.out BK105.out (by decide))); have n1_ := zb.mk (hb); have n2_ := zb.mk (ho); clear BK105; clear HB; clear HO_5; have BK105 := n0_; have HB := n1_; have HO108 := n2_; clear n0_ n1_ n2_; clear ho hb hg hat))
        go_roundg k1
        case measure => have := HK1.out; omega
        case rel => exact ⟨(y106), (wrap64 (x12_1 + 1)), (by first | rfl | (simp; done) | (simp [*]; done)), H', ⟨by have := HK1.out; omega⟩, ⟨ur HO108.out⟩, ⟨by repeat (first | exact ub HB.out | apply zd | apply zc | apply ze | refine zh ?_ ‹_›)⟩⟩
       ·rw [if_neg c11] at H
        exact absurd H (by simp)
     ·rw [if_neg c7] at H
      exact absurd H (by simp)
    ·rw [if_neg c6] at H
     exact absurd H (by simp)
   ·rw [if_neg c5] at H
    have c5b0 : decide (x12_1 < (l0.length : Int)) = false := decide_eq_false c5
    clear c5
    replace H := Option.bind_eq_some_iff.mp H
    obtain ⟨t109, A150, H⟩ := H
    replace H : ((yi.f t109).bind fun t110 => (some t110)) = some r := H
    have A15 := zb.mk A150
    clear A150
    replace H := Option.bind_eq_some_iff.mp H
    obtain ⟨t110, A160, H⟩ := H
    replace H : (some t110) = some r := H
    have A16 := zb.mk A160
    clear A160
    obtain rfl := Option.some.inj H
    obtain ⟨Ao17, co17, eo17⟩ := Kd.yx HO_5.out
    subst eo17
    go_wp2_with (first | ((with_reducible refine zP (f := 39) rfl ?_); refine yH (some 26) rfl rfl Try.func39 (by kernel_rfl) rfl #[.slice Ao17 x5_1.length co17] rfl (by (try simp only [List.map_toArray, List.map_cons, List.map_nil]); first | done | rfl | (simp only [List.length_drop, List.length_take]; rfl)) ?_; (with_reducible refine (yE.calls (fun k_ => some k_ = (.slice Ao17 x5_1.length co17 : Value).ownBlock) (.slice Ao17 x5_1.length co17) x5_1 t109 w _ ?side1 ?side2 A15.out).mono ?_); (case side1 => repeat (first | (with_reducible first | exact HB.out | apply zd | apply zc | apply ze) | exact HB.out)); (case side2 => exact Kd.R_tight rfl HO_5.out); rintro e w18 ⟨rfl, hy0, hb, hkp⟩; refine ⟨_, rfl, ?_⟩; have n0_ := zb.mk (Kd.R_reok rfl hy0 (fun k_ e_ => HO_5.out.1 k_ e_)); have n1_ := zb.mk (hb); clear HO_5; clear HB; have HO_5 := n0_; have HB := n1_; clear n0_ n1_; (try clear hb); (try clear hkp); (try clear hy0)) | ((with_reducible refine zP (f := 40) rfl ?_); refine yH (some 28) rfl rfl Try.func40 (by kernel_rfl) rfl #[.slice Ao17 x5_1.length co17] rfl (by (try simp only [List.map_toArray, List.map_cons, List.map_nil]); first | done | rfl | (simp only [List.length_drop, List.length_take]; rfl)) ?_; (with_reducible refine (yi.calls (fun k_ => some k_ = (.slice Ao17 x5_1.length co17 : Value).ownBlock) (.slice Ao17 x5_1.length co17) t109 t110 w _ ?side1 ?side2 A16.out).mono ?_); (case side1 => repeat (first | (with_reducible first | exact HB.out | apply zd | apply zc | apply ze) | exact HB.out)); (case side2 => exact Kd.R_tight rfl HO_5.out); rintro e w19 ⟨v111, rfl, ho0, hb, hkp⟩; refine ⟨_, rfl, ?_⟩; have n0_ := zb.mk (Kd.yt (ok' := fun k_ => True) ho0 (fun k_ hk_ => trivial)); have n1_ := zb.mk (hb); clear HB; clear HO_5; have HO112 := n0_; have HB := n1_; clear n0_ n1_; (try clear hb); (try clear hkp); (try clear ho0)))
    go_ret
    exact ⟨_, by first | rfl | (simp [zA, zz] <;> rfl) | (simp [*, zA, zz] <;> rfl), by (with_reducible repeat (first | apply Kd.qA | apply Kd.qz | apply Kd.R_drew)); exact HO112.out, ub HB.out⟩
end Go.Proofs.Ytmgbfgloegcloaa.Ps
