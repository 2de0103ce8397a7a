import Derived.Test.YtmgbfgloegcloaaZip
import Derived.Test.YtmgbfgloegcloaaPsD
import Derived.Test.YtmgbfgloegcloaaPs14
import Derived.Test.YtmgbfgloegcloaaPs17
import Derived.Test.YtmgbfgloegcloaaPs20
namespace Go.Proofs.Ytmgbfgloegcloaa.Ps
open Go.RowKit Go.Proofs.YtmgbfgloegcloaaW.PrintWords Go.Proofs.YtmgbfgloegcloaaW.PrintLast Go.Proofs.YtmgbfgloegcloaaW.PrintMore
attribute [local go_sem] yD yB yR yQ ym yl yC yA
set_option linter.unusedVariables false
set_option linter.unusedSimpArgs false
set_option maxHeartbeats 8000000 in
set_option maxRecDepth 100000 in
theorem zk.calls (k : Nat) (A0 : Option Addr) (c0 : Nat) (l0 : List (S43)) (A1 : Option Addr) (c1 : Nat) (l1 : List ByteArray) (r1 : List Int) (r2 : List ByteArray) (r3 : Int) (w : World) (hr0 : Kd.C k43 w A0 l0.length l0) (hc0 : l0.length ≤ c0) (hr1 : Kd.C Kd.string w A1 l1.length l1) (hc1 : l1.length ≤ c1) (h : zk.f k l0 l1 = some (r1, r2, r3)) :
  Calls Try.prog 12 #[.slice A0 l0.length c0, .slice A1 l1.length c1] w fun e w' => ∃ v0_ v1_ : Value, e = .returned (.tuple #[v0_, v1_, .int .i64 r3]) ∧ Kd.R (Kd.int .i64) 3 w' w.heap.size (fun _ => True) v0_ r1 ∧ Kd.R Kd.string 9 w' w.heap.size (fun _ => True) v1_ r2 ∧ Below w.heap.size w w' := by
 have hu43 := Try.underlying43
 have HR0 := zb.mk hr0
 have HC0 := zb.mk hc0
 clear hr0 hc0
 have HR1 := zb.mk hr1
 have HC1 := zb.mk hc1
 clear hr1 hc1
 have HB := zb.mk (Below.refl w.heap.size w)
 have H : ((zp.f k ([] : List (S40)) l1).bind fun t292 => (if 0 ≤ (l0.length : Int) then (if ((l0.length : Int) : Int).toNat ≤ 281474976710656 then (zk.l0 k l0 t292 ([] : List Int) (List.replicate ((l0.length : Int) : Int).toNat false)) else (none)) else (none))) = some (r1, r2, r3) := h
 clear h
 replace H := Option.bind_eq_some_iff.mp H
 obtain ⟨t292, A30, H⟩ := H
 replace H : (if 0 ≤ (l0.length : Int) then (if ((l0.length : Int) : Int).toNat ≤ 281474976710656 then (zk.l0 k l0 t292 ([] : List Int) (List.replicate ((l0.length : Int) : Int).toNat false)) else (none)) else (none)) = some (r1, r2, r3) := H
 have A3 := zb.mk A30
 clear A30
 by_cases c4 : 0 ≤ (l0.length : Int)
 ·rw [if_pos c4] at H
  have c4b0 := eq_true c4
  have c4b1 : decide (0 ≤ (l0.length : Int)) = true := decide_eq_true c4
  clear c4
  by_cases c5 : ((l0.length : Int) : Int).toNat ≤ 281474976710656
  ·rw [if_pos c5] at H
   have c5b0 := eq_true c5
   have c5b1 : decide (((l0.length : Int) : Int).toNat ≤ 281474976710656) = true := decide_eq_true c5
   clear c5
   obtain ⟨y295, hy295⟩ : ∃ y_ : List Bool, y_ = (List.replicate ((l0.length : Int) : Int).toNat false) := ⟨_, rfl⟩
   replace H : (zk.l0 k l0 t292 ([] : List Int) y295) = some (r1, r2, r3) := by first | (rw [hy295]; with_reducible exact H) | (have H2_ := (Option.bind_some _ _).symm.trans H; rw [hy295]; with_reducible exact H2_) | (have H2_ := (Option.bind_some _ _).symm.trans H; with_reducible exact H2_) | with_reducible exact H | (rw [hy295]; exact H) | exact H
   have Ny295 := zb.mk hy295
   clear hy295
   have H' := zb.mk H
   clear H
   go_enter Try.func12, Try.ntmps12
   go_wp2_with (first | ((with_reducible refine zP (f := 19) rfl ?_); refine yH (some 12) rfl rfl Try.func19 (by kernel_rfl) rfl #[.slice none 0 0, .slice A1 l1.length c1] rfl (by (try simp only [List.map_toArray, List.map_cons, List.map_nil]); first | done | rfl | (simp only [List.length_drop, List.length_take]; rfl)) ?_; (refine (zp.calls k _ _ ([] : List (S40)) _ _ l1 t292 _ ?side1 ?side2 ?side3 ?side4 A3.out).mono ?_); (case side1 => exact Kd.C_nil _ _); (case side2 => exact Nat.le_refl _); (case side3 => repeat (first | exact HR1.out | (with_reducible refine Kd.yw ?_ _) | (with_reducible refine Kd.yv ?_ _) | (with_reducible refine Kd.yP ?_))); (case side4 => exact HC1.out); rintro e w6 ⟨v293, rfl, ho0, hb⟩; refine ⟨_, rfl, ?_⟩; have n0_ := zb.mk (Kd.yr ho0 (zi (ub HB.out))); have n1_ := zb.mk (zn (ub HB.out) hb); clear HB; have HO294 := n0_; have HB := n1_; clear n0_ n1_; (try clear hb); (try clear hb2); (try clear hk); (try clear hi); (try clear ho0)) | ((with_reducible refine zQ (N := 15) rfl ?_); refine Kd.R_make Kd.bool _ 4 rfl (N := 15) rfl 45 _ _ rfl (l0.length : Int) rfl rfl Try.underlying45 (.bool false) 1 info4 rfl (by decide) (by omega) false (ok := fun _ => True) (okp := fun _ => True) rfl (fun _ hk => hk) trivial (zdd) (Nat.le_trans (Nat.mul_le_mul_right _ (zdd : (l0.length : Int).toNat ≤ 281474976710656)) (by omega)) (Below.refl _ _) (Nat.le_refl _) ?_; intro v296 w7 ho8 hb hg_ hnew_; clear hg_ hnew_; (first | rw [← Ny295.out] at ho8 | (simp only [Int.reduceToNat] at ho8; rw [← Ny295.out] at ho8)); have n0_ := zb.mk (Kd.yb (ur HO294.out) hb); have n1_ := zb.mk (Kd.yr ho8 (zi (ub HB.out))); have n2_ := zb.mk (zn (ub HB.out) hb); clear HO294; clear HB; have HO294 := n0_; have HO297 := n1_; have HB := n2_; clear n0_ n1_ n2_; clear hb ho8))
   go_loopg [1, 7] k (fun kq v1 v7 w' => ∃ (x1_1 : List ByteArray) (x7_1 : List Int) (x8_1 : List Bool), zb (zk.l0 kq l0 x1_1 x7_1 x8_1 = some (r1, r2, r3)) ∧ zb (kq ≤ k) ∧ zb (Kd.R Kd.string 9 w' w.heap.size (fun _ => True) v1 x1_1) ∧ zb (Kd.R (Kd.int .i64) 3 w' w.heap.size (fun _ => True) v7 x7_1) ∧ zb (Kd.R Kd.bool 4 w' w.heap.size (fun _ => True) v296 x8_1) ∧ zb (Below w.heap.size w w'))
   case atStart => exact ⟨(t292), (([] : List Int)), (y295), H', ⟨Nat.le_refl _⟩, ⟨ur HO294.out⟩, ⟨by first | exact Kd.R_nil _ _ _ _ _ | exact Kd.N_nil _ _ _ _ _ | exact Kd.V_nil _ _ _ _ _ | exact Kd.Q_nil _ _ _ _ _ | exact Kd.S_nil _ _ _ _ _⟩, ⟨ur HO297.out⟩, ⟨ub HB.out⟩⟩
   case round =>
    clear H'
    try clear c1
    try clear p2
    try clear c4
    try clear c4b0
    try clear c4b1
    try clear c5
    try clear c5b0
    try clear c5b1
    obtain ⟨x1_1, x7_1, x8_1, HA, HK1, HO_1, HO_7, HO_8, HB⟩ := hrel
    cases gk with
    | zero => exact absurd HA.out (by simp [zk.l0])
    | succ k1 =>
     have H := HA.out
     clear HA
     simp only [zk.l0] at H
     by_cases c9 : (x7_1.length : Int) < (l0.length : Int)
     ·rw [if_pos c9] at H
      have c9b0 : decide ((x7_1.length : Int) < (l0.length : Int)) = true := decide_eq_true c9
      have c9b1 : decide (x7_1.length < l0.length) = true := decide_eq_true (Int.ofNat_lt.mp c9)
      clear c9
      have H' := zb.mk H
      clear H
      obtain ⟨Ao10, co10, eo10⟩ := Kd.yx HO_7.out
      subst eo10
      go_wp2
      go_loopg [9, 23] k1 (fun kq v9 v23 w' => ∃ (x9_2 : Int) (x23_2 : Int), v9 = .int .i64 x9_2 ∧ v23 = .int .i64 x23_2 ∧ zb (zk.l1 kq l0 x1_1 x7_1 x8_1 x9_2 (l0.length : Int) x23_2 = some (r1, r2, r3)) ∧ zb (kq ≤ k1) ∧ zb (Kd.R Kd.string 9 w' w.heap.size (fun _ => True) u1 x1_1) ∧ zb (Kd.R (Kd.int .i64) 3 w' w.heap.size (fun _ => True) (.slice Ao10 x7_1.length co10) x7_1) ∧ zb (Kd.R Kd.bool 4 w' w.heap.size (fun _ => True) v296 x8_1) ∧ zb (Below w.heap.size w w'))
      case atStart => exact ⟨((-1)), (0), (by first | rfl | (simp; done) | (simp [*]; done)), (by first | rfl | (simp; done) | (simp [*]; done)), H', ⟨Nat.le_refl _⟩, ⟨ur HO_1.out⟩, ⟨ur HO_7.out⟩, ⟨ur HO_8.out⟩, ⟨ub HB.out⟩⟩
      case round =>
       clear H'
       try clear c1
       try clear p2
       try clear c4
       try clear c4b0
       try clear c4b1
       try clear c5
       try clear c5b0
       try clear c5b1
       try clear c9
       try clear c9b0
       try clear c9b1
       try clear p2
       obtain ⟨x9_2, x23_2, rfl, rfl, HA, HK2, HO_1, HO_7, HO_8, HB⟩ := hrel
       cases gk with
       | zero => exact absurd HA.out (by simp [zk.l1])
       | succ k2 =>
        have H := HA.out
        clear HA
        simp only [zk.l1] at H
        by_cases c11 : x23_2 < (l0.length : Int)
        ·rw [if_pos c11] at H
         have c11b0 : decide (x23_2 < (l0.length : Int)) = true := decide_eq_true c11
         clear c11
         by_cases c12 : x9_2 < 0
         ·rw [if_pos c12] at H
          have c12b0 : decide (x9_2 < 0) = true := decide_eq_true c12
          clear c12
          by_cases c13 : 0 ≤ x23_2
          ·rw [if_pos c13] at H
           have c13b0 : decide (0 ≤ x23_2) = true := decide_eq_true c13
           clear c13
           by_cases c14 : x23_2 < (x8_1.length : Int)
           ·rw [if_pos c14] at H
            have c14b0 : decide (x23_2 < (x8_1.length : Int)) = true := decide_eq_true c14
            clear c14
            obtain ⟨bq15, hbq15⟩ : ∃ b_ : Bool, b_ = (rdOf false x8_1 x23_2) := ⟨_, rfl⟩
            replace H : (if bq15 = true then (zk.l1 k2 l0 x1_1 x7_1 x8_1 x9_2 (l0.length : Int) (wrap64 (x23_2 + 1))) else (if x23_2 < (l0.length : Int) then ((zu.f k2 ((za l0 x23_2).f0) ((za l0 x23_2).f1.f0) ((za l0 x23_2).f1.f1) ((za l0 x23_2).f2) ((za l0 x23_2).f3.f0) ((za l0 x23_2).f3.f1.f0) ((za l0 x23_2).f3.f1.f1) ((za l0 x23_2).f3.f1.f2) ((za l0 x23_2).f4.f0) ((za l0 x23_2).f4.f1.f0) ((za l0 x23_2).f4.f1.f1) ((za l0 x23_2).f4.f1.f2) ((za l0 x23_2).f5.f0) ((za l0 x23_2).f5.f1.f0) ((za l0 x23_2).f5.f1.f1) ((za l0 x23_2).f5.f1.f2) ((za l0 x23_2).f6) x1_1).bind fun t300 => (if t300 = true then (zk.l1 k2 l0 x1_1 x7_1 x8_1 x23_2 (l0.length : Int) (wrap64 (x23_2 + 1))) else (zk.l1 k2 l0 x1_1 x7_1 x8_1 x9_2 (l0.length : Int) (wrap64 (x23_2 + 1))))) else (none))) = some (r1, r2, r3) := by rw [← hbq15] at H; exact H
            have Nbq15 := zb.mk hbq15
            clear hbq15
            by_cases c16 : bq15 = true
            ·subst c16
             have H1 : (zk.l1 k2 l0 x1_1 x7_1 x8_1 x9_2 (l0.length : Int) (wrap64 (x23_2 + 1))) = some (r1, r2, r3) := by rw [if_pos rfl] at H; exact H
             clear H
             have H := H1
             clear H1
             as_aux_lemma =>
              have H' := zb.mk H
              clear H
              obtain ⟨Ao17, co17, eo17⟩ := Kd.yx HO_8.out
              subst eo17
              have p298 : 0 ≤ (x23_2 : Int) := zdd
              have q298 : x23_2 < (x8_1.length : Int) := zdd
              obtain ⟨ad298, e298, hx298_0⟩ := Kd.at_bool (Kd.zU HO_8.out).2.2 x23_2 p298 q298
              (try rw [← Nbq15.out] at hx298_0)
              cases e298
              replace p298 := eq_true p298
              replace q298 := eq_true q298
              go_wp2
              go_roundg k2
              case measure => have := HK1.out; have := HK2.out; omega
              case rel => exact ⟨(x9_2), (wrap64 (x23_2 + 1)), (by first | rfl | (simp; done) | (simp [*]; done)), (by first | rfl | (simp; done) | (simp [*]; done)), H', ⟨by have := HK1.out; have := HK2.out; omega⟩, ⟨ur HO_1.out⟩, ⟨ur HO_7.out⟩, ⟨ur HO_8.out⟩, ⟨ub HB.out⟩⟩
            ·replace c16 := Bool.eq_false_iff.mpr c16
             subst c16
             have H1 : (if x23_2 < (l0.length : Int) then ((zu.f k2 ((za l0 x23_2).f0) ((za l0 x23_2).f1.f0) ((za l0 x23_2).f1.f1) ((za l0 x23_2).f2) ((za l0 x23_2).f3.f0) ((za l0 x23_2).f3.f1.f0) ((za l0 x23_2).f3.f1.f1) ((za l0 x23_2).f3.f1.f2) ((za l0 x23_2).f4.f0) ((za l0 x23_2).f4.f1.f0) ((za l0 x23_2).f4.f1.f1) ((za l0 x23_2).f4.f1.f2) ((za l0 x23_2).f5.f0) ((za l0 x23_2).f5.f1.f0) ((za l0 x23_2).f5.f1.f1) ((za l0 x23_2).f5.f1.f2) ((za l0 x23_2).f6) x1_1).bind fun t300 => (if t300 = true then (zk.l1 k2 l0 x1_1 x7_1 x8_1 x23_2 (l0.length : Int) (wrap64 (x23_2 + 1))) else (zk.l1 k2 l0 x1_1 x7_1 x8_1 x9_2 (l0.length : Int) (wrap64 (x23_2 + 1))))) else (none)) = some (r1, r2, r3) := by rw [if_neg (show ¬ (false = true) by decide)] at H; exact H
             clear H
             have H := H1
             clear H1
             by_cases c18 : x23_2 < (l0.length : Int)
             ·rw [if_pos c18] at H
              have c18b0 : decide (x23_2 < (l0.length : Int)) = true := decide_eq_true c18
              clear c18
              replace H := Option.bind_eq_some_iff.mp H
              obtain ⟨t300, A190, H⟩ := H
              replace H : (if t300 = true then (zk.l1 k2 l0 x1_1 x7_1 x8_1 x23_2 (l0.length : Int) (wrap64 (x23_2 + 1))) else (zk.l1 k2 l0 x1_1 x7_1 x8_1 x9_2 (l0.length : Int) (wrap64 (x23_2 + 1)))) = some (r1, r2, r3) := H
              have A19 := zb.mk A190
              clear A190
              by_cases c20 : t300 = true
              ·subst c20
               have H1 : (zk.l1 k2 l0 x1_1 x7_1 x8_1 x23_2 (l0.length : Int) (wrap64 (x23_2 + 1))) = some (r1, r2, r3) := by rw [if_pos rfl] at H; exact H
               clear H
               have H := H1
               clear H1
               as_aux_lemma =>
                have H' := zb.mk H
                clear H
                obtain ⟨Ao21, co21, eo21⟩ := Kd.yx HO_8.out
                subst eo21
                have p298 : 0 ≤ (x23_2 : Int) := zdd
                have q298 : x23_2 < (x8_1.length : Int) := zdd
                obtain ⟨ad298, e298, hx298_0⟩ := Kd.at_bool (Kd.zU HO_8.out).2.2 x23_2 p298 q298
                (try rw [← Nbq15.out] at hx298_0)
                cases e298
                replace p298 := eq_true p298
                replace q298 := eq_true q298
                have p299 : 0 ≤ (x23_2 : Int) := zdd
                have q299 : x23_2 < (l0.length : Int) := zdd
                obtain ⟨ad299, A299_2, c299_2, A299_16, c299_16, e299, hx299_0, hx299_1, hx299_2, hx299_3, hx299_4, hx299_5, hx299_6, hx299_7, hx299_8, hx299_9, hx299_10, hx299_11, hx299_12, hx299_13, hx299_14, hx299_15, hx299_16, hl299_2, hi299_2, hl299_16, hi299_16⟩ := qv HR0.out x23_2 p299 q299
                cases e299
                obtain ⟨hx299_0, hx299_1, hx299_2, hx299_3, hx299_4, hx299_5, hx299_6, hx299_7, hx299_8, hx299_9, hx299_10, hx299_11, hx299_12, hx299_13, hx299_14, hx299_15, hx299_16⟩ := lift17 HB.out hx299_0 hx299_1 hx299_2 hx299_3 hx299_4 hx299_5 hx299_6 hx299_7 hx299_8 hx299_9 hx299_10 hx299_11 hx299_12 hx299_13 hx299_14 hx299_15 hx299_16
                have HR299_2 := zb.mk hi299_2
                have HC299_2 := zb.mk hl299_2
                clear hi299_2 hl299_2
                have HR299_16 := zb.mk hi299_16
                have HC299_16 := zb.mk hl299_16
                clear hi299_16 hl299_16
                replace p299 := eq_true p299
                replace q299 := eq_true q299
                obtain ⟨Ao22, co22, eo22⟩ := Kd.yx HO_1.out
                subst eo22
                go_wp2_with (first | (go_at_call 29; (with_reducible refine (zu.calls k2 ((za l0 x23_2).f0) ((za l0 x23_2).f1.f0) _ _ ((za l0 x23_2).f1.f1) ((za l0 x23_2).f2) ((za l0 x23_2).f3.f0) ((za l0 x23_2).f3.f1.f0) ((za l0 x23_2).f3.f1.f1) ((za l0 x23_2).f3.f1.f2) ((za l0 x23_2).f4.f0) ((za l0 x23_2).f4.f1.f0) ((za l0 x23_2).f4.f1.f1) ((za l0 x23_2).f4.f1.f2) ((za l0 x23_2).f5.f0) ((za l0 x23_2).f5.f1.f0) ((za l0 x23_2).f5.f1.f1) ((za l0 x23_2).f5.f1.f2) _ _ ((za l0 x23_2).f6) _ _ x1_1 true _ ?side1 ?side2 ?side3 ?side4 ?side5 ?side6 A19.out).mono ?_); (case side1 => exact uc (Kd.zL HR299_2.out HB.out)); (case side2 => exact HC299_2.out); (case side3 => exact uc (Kd.zL HR299_16.out HB.out)); (case side4 => exact HC299_16.out); (case side5 => repeat (first | exact (Kd.zU HO_1.out).2.2 | (with_reducible refine Kd.yw ?_ _) | (with_reducible refine Kd.yv ?_ _) | (with_reducible refine Kd.yP ?_))); (case side6 => exact (Kd.zU HO_1.out).2.1); rintro e w23 ⟨rfl, hb⟩; have n0_ := zb.mk (Kd.yb (ur HO_1.out) hb); have n1_ := zb.mk (Kd.yb (ur HO_7.out) hb); have n2_ := zb.mk (Kd.yb (ur HO_8.out) hb); have n3_ := zb.mk (zn (ub HB.out) hb); clear HO_1; clear HO_7; clear HO_8; clear HB; have HO_1 := n0_; have HO_7 := n1_; have HO_8 := n2_; have HB := n3_; clear n0_ n1_ n2_ n3_; (try clear hb); (try clear hb2); (try clear hk); (try clear hi)))
                go_roundg k2
                case measure => have := HK1.out; have := HK2.out; omega
                case rel => exact ⟨(x23_2), (wrap64 (x23_2 + 1)), (by first | rfl | (simp; done) | (simp [*]; done)), (by first | rfl | (simp; done) | (simp [*]; done)), H', ⟨by have := HK1.out; have := HK2.out; omega⟩, ⟨ur HO_1.out⟩, ⟨ur HO_7.out⟩, ⟨ur HO_8.out⟩, ⟨ub HB.out⟩⟩
              ·replace c20 := Bool.eq_false_iff.mpr c20
               subst c20
               have H1 : (zk.l1 k2 l0 x1_1 x7_1 x8_1 x9_2 (l0.length : Int) (wrap64 (x23_2 + 1))) = some (r1, r2, r3) := by rw [if_neg (show ¬ (false = true) by decide)] at H; exact H
               clear H
               have H := H1
               clear H1
               as_aux_lemma =>
                have H' := zb.mk H
                clear H
                obtain ⟨Ao24, co24, eo24⟩ := Kd.yx HO_8.out
                subst eo24
                have p298 : 0 ≤ (x23_2 : Int) := zdd
                have q298 : x23_2 < (x8_1.length : Int) := zdd
                obtain ⟨ad298, e298, hx298_0⟩ := Kd.at_bool (Kd.zU HO_8.out).2.2 x23_2 p298 q298
                (try rw [← Nbq15.out] at hx298_0)
                cases e298
                replace p298 := eq_true p298
                replace q298 := eq_true q298
                have p299 : 0 ≤ (x23_2 : Int) := zdd
                have q299 : x23_2 < (l0.length : Int) := zdd
                obtain ⟨ad299, A299_2, c299_2, A299_16, c299_16, e299, hx299_0, hx299_1, hx299_2, hx299_3, hx299_4, hx299_5, hx299_6, hx299_7, hx299_8, hx299_9, hx299_10, hx299_11, hx299_12, hx299_13, hx299_14, hx299_15, hx299_16, hl299_2, hi299_2, hl299_16, hi299_16⟩ := qv HR0.out x23_2 p299 q299
                cases e299
                obtain ⟨hx299_0, hx299_1, hx299_2, hx299_3, hx299_4, hx299_5, hx299_6, hx299_7, hx299_8, hx299_9, hx299_10, hx299_11, hx299_12, hx299_13, hx299_14, hx299_15, hx299_16⟩ := lift17 HB.out hx299_0 hx299_1 hx299_2 hx299_3 hx299_4 hx299_5 hx299_6 hx299_7 hx299_8 hx299_9 hx299_10 hx299_11 hx299_12 hx299_13 hx299_14 hx299_15 hx299_16
                have HR299_2 := zb.mk hi299_2
                have HC299_2 := zb.mk hl299_2
                clear hi299_2 hl299_2
                have HR299_16 := zb.mk hi299_16
                have HC299_16 := zb.mk hl299_16
                clear hi299_16 hl299_16
                replace p299 := eq_true p299
                replace q299 := eq_true q299
                obtain ⟨Ao25, co25, eo25⟩ := Kd.yx HO_1.out
                subst eo25
                go_wp2_with (first | (go_at_call 29; (with_reducible refine (zu.calls k2 ((za l0 x23_2).f0) ((za l0 x23_2).f1.f0) _ _ ((za l0 x23_2).f1.f1) ((za l0 x23_2).f2) ((za l0 x23_2).f3.f0) ((za l0 x23_2).f3.f1.f0) ((za l0 x23_2).f3.f1.f1) ((za l0 x23_2).f3.f1.f2) ((za l0 x23_2).f4.f0) ((za l0 x23_2).f4.f1.f0) ((za l0 x23_2).f4.f1.f1) ((za l0 x23_2).f4.f1.f2) ((za l0 x23_2).f5.f0) ((za l0 x23_2).f5.f1.f0) ((za l0 x23_2).f5.f1.f1) ((za l0 x23_2).f5.f1.f2) _ _ ((za l0 x23_2).f6) _ _ x1_1 false _ ?side1 ?side2 ?side3 ?side4 ?side5 ?side6 A19.out).mono ?_); (case side1 => exact uc (Kd.zL HR299_2.out HB.out)); (case side2 => exact HC299_2.out); (case side3 => exact uc (Kd.zL HR299_16.out HB.out)); (case side4 => exact HC299_16.out); (case side5 => repeat (first | exact (Kd.zU HO_1.out).2.2 | (with_reducible refine Kd.yw ?_ _) | (with_reducible refine Kd.yv ?_ _) | (with_reducible refine Kd.yP ?_))); (case side6 => exact (Kd.zU HO_1.out).2.1); rintro e w26 ⟨rfl, hb⟩; have n0_ := zb.mk (Kd.yb (ur HO_1.out) hb); have n1_ := zb.mk (Kd.yb (ur HO_7.out) hb); have n2_ := zb.mk (Kd.yb (ur HO_8.out) hb); have n3_ := zb.mk (zn (ub HB.out) hb); clear HO_1; clear HO_7; clear HO_8; clear HB; have HO_1 := n0_; have HO_7 := n1_; have HO_8 := n2_; have HB := n3_; clear n0_ n1_ n2_ n3_; (try clear hb); (try clear hb2); (try clear hk); (try clear hi)))
                go_roundg k2
                case measure => have := HK1.out; have := HK2.out; omega
                case rel => exact ⟨(x9_2), (wrap64 (x23_2 + 1)), (by first | rfl | (simp; done) | (simp [*]; done)), (by first | rfl | (simp; done) | (simp [*]; done)), H', ⟨by have := HK1.out; have := HK2.out; omega⟩, ⟨ur HO_1.out⟩, ⟨ur HO_7.out⟩, ⟨ur HO_8.out⟩, ⟨ub HB.out⟩⟩
             ·rw [if_neg c18] at H
              exact absurd H (by simp)
           ·rw [if_neg c14] at H
            exact absurd H (by simp)
          ·rw [if_neg c13] at H
           exact absurd H (by simp)
         ·rw [if_neg c12] at H
          have c12b0 : decide (x9_2 < 0) = false := decide_eq_false c12
          clear c12
          as_aux_lemma =>
           have H' := zb.mk H
           clear H
           go_wp2
           go_roundg k2
           case measure => have := HK1.out; have := HK2.out; omega
           case rel => exact ⟨(x9_2), (wrap64 (x23_2 + 1)), (by first | rfl | (simp; done) | (simp [*]; done)), (by first | rfl | (simp; done) | (simp [*]; done)), H', ⟨by have := HK1.out; have := HK2.out; omega⟩, ⟨ur HO_1.out⟩, ⟨ur HO_7.out⟩, ⟨ur HO_8.out⟩, ⟨ub HB.out⟩⟩
        ·rw [if_neg c11] at H
         have c11b0 : decide (x23_2 < (l0.length : Int)) = false := decide_eq_false c11
         clear c11
         by_cases c27 : x9_2 < 0
         ·rw [if_pos c27] at H
          have c27b0 : decide (x9_2 < 0) = true := decide_eq_true c27
          clear c27
          as_aux_lemma =>
           simp only [Option.some.injEq, Prod.mk.injEq] at H
           obtain ⟨rfl, rfl, rfl⟩ := H
           go_wp2
           go_ret3
           exact ⟨_, _, by first | rfl | (simp [zA, zz] <;> rfl) | (simp [*, zA, zz] <;> rfl), by first | exact Kd.R_nil _ _ _ _ _ | exact Kd.N_nil _ _ _ _ _ | exact Kd.V_nil _ _ _ _ _ | exact Kd.Q_nil _ _ _ _ _ | exact Kd.S_nil _ _ _ _ _, by first | exact Kd.R_nil _ _ _ _ _ | exact Kd.N_nil _ _ _ _ _ | exact Kd.V_nil _ _ _ _ _ | exact Kd.Q_nil _ _ _ _ _ | exact Kd.S_nil _ _ _ _ _, ub HB.out⟩
         ·rw [if_neg c27] at H
          have c27b0 : decide (x9_2 < 0) = false := decide_eq_false c27
          clear c27
          by_cases c28 : 0 ≤ x9_2
          ·rw [if_pos c28] at H
           have c28b0 : decide (0 ≤ x9_2) = true := decide_eq_true c28
           clear c28
           by_cases c29 : x9_2 < (x8_1.length : Int)
           ·rw [if_pos c29] at H
            have c29b0 : decide (x9_2 < (x8_1.length : Int)) = true := decide_eq_true c29
            clear c29
            obtain ⟨y301, hy301⟩ : ∃ y_ : List Bool, y_ = (x8_1.set (x9_2 : Int).toNat true) := ⟨_, rfl⟩
            replace H : (if x7_1.length < 17592186044416 then (if x9_2 < (l0.length : Int) then ((yq.f k2 ((za l0 x9_2).f0) ((za l0 x9_2).f1.f0) ((za l0 x9_2).f1.f1) ((za l0 x9_2).f2) ((za l0 x9_2).f3.f0) ((za l0 x9_2).f3.f1.f0) ((za l0 x9_2).f3.f1.f1) ((za l0 x9_2).f3.f1.f2) ((za l0 x9_2).f4.f0) ((za l0 x9_2).f4.f1.f0) ((za l0 x9_2).f4.f1.f1) ((za l0 x9_2).f4.f1.f2) ((za l0 x9_2).f5.f0) ((za l0 x9_2).f5.f1.f0) ((za l0 x9_2).f5.f1.f1) ((za l0 x9_2).f5.f1.f2) ((za l0 x9_2).f6) x1_1).bind fun t306 => (zk.l0 k2 l0 t306 (x7_1 ++ [x9_2]) y301)) else (none)) else (none)) = some (r1, r2, r3) := by first | (rw [hy301]; with_reducible exact H) | (have H2_ := (Option.bind_some _ _).symm.trans H; rw [hy301]; with_reducible exact H2_) | (have H2_ := (Option.bind_some _ _).symm.trans H; with_reducible exact H2_) | with_reducible exact H | (rw [hy301]; exact H) | exact H
            have Ny301 := zb.mk hy301
            clear hy301
            by_cases c31 : x7_1.length < 17592186044416
            ·rw [if_pos c31] at H
             have LMc31 := zb.mk c31
             clear c31
             obtain ⟨y302, hy302⟩ : ∃ y_ : List Int, y_ = (x7_1 ++ [x9_2]) := ⟨_, rfl⟩
             replace H : (if x9_2 < (l0.length : Int) then ((yq.f k2 ((za l0 x9_2).f0) ((za l0 x9_2).f1.f0) ((za l0 x9_2).f1.f1) ((za l0 x9_2).f2) ((za l0 x9_2).f3.f0) ((za l0 x9_2).f3.f1.f0) ((za l0 x9_2).f3.f1.f1) ((za l0 x9_2).f3.f1.f2) ((za l0 x9_2).f4.f0) ((za l0 x9_2).f4.f1.f0) ((za l0 x9_2).f4.f1.f1) ((za l0 x9_2).f4.f1.f2) ((za l0 x9_2).f5.f0) ((za l0 x9_2).f5.f1.f0) ((za l0 x9_2).f5.f1.f1) ((za l0 x9_2).f5.f1.f2) ((za l0 x9_2).f6) x1_1).bind fun t306 => (zk.l0 k2 l0 t306 y302 y301)) else (none)) = some (r1, r2, r3) := by first | (rw [hy302]; with_reducible exact H) | (have H2_ := (Option.bind_some _ _).symm.trans H; rw [hy302]; with_reducible exact H2_) | (have H2_ := (Option.bind_some _ _).symm.trans H; with_reducible exact H2_) | with_reducible exact H | (rw [hy302]; exact H) | exact H
             have Ny302 := zb.mk hy302
             clear hy302
             by_cases c32 : x9_2 < (l0.length : Int)
             ·rw [if_pos c32] at H
              have c32b0 : decide (x9_2 < (l0.length : Int)) = true := decide_eq_true c32
              clear c32
              replace H := Option.bind_eq_some_iff.mp H
              obtain ⟨t306, A330, H⟩ := H
              replace H : (zk.l0 k2 l0 t306 y302 y301) = some (r1, r2, r3) := H
              have A33 := zb.mk A330
              clear A330
              as_aux_lemma =>
               have H' := zb.mk H
               clear H
               have p30 : 0 ≤ (x9_2 : Int) := zdd
               have q30 : (x9_2 : Int) < ((x8_1.length : Int) : Int) := zdd
               obtain ⟨go30, co30, eo30, gb30, gl30, cl30, HG30⟩ := Kd.R_form HO_8.out (by omega)
               (first | cases eo30 | (injection eo30 with ea_ en_ ec_; (first | subst ea_ | (injection ea_ with ea_; subst ea_)); subst ec_; clear en_))
               have GB30 := zb.mk gb30
               have GG30 := zb.mk HG30
               clear gb30 gl30 HG30
               obtain ⟨hx30_0, hf30_0⟩ := Kd.R_celln false HO_8.out (x9_2 : Int) p30 q30
               replace p30 := eq_true p30
               replace q30 := eq_true q30
               have HP34 := Kd.R_putg HO_8.out (x9_2 : Int) true
               go_wp2_with (first | ((with_reducible refine qB (t := 4) (p := 49) rfl ?_); refine qq (t := 4) (p := 49) (v := ?vo_w35) (w1 := (wr.setCell ⟨go30, (x9_2 : Int).toNat, none⟩ (.bool true))) ?hg ?ho ?hn ?hr ?_; (case ho => rfl); (case hg => rfl); (case hn => rfl); (case hr => first | (go_simp; done) | (go_simp; rfl)); intro w35 hw; have hg : wr.grownBy w35 (some go30) := (by rw [hw]; exact HP34.2); have hp_ : Kd.R Kd.bool 4 w35 w.heap.size (fun _ => True) (.slice (some ⟨go30, 0, none⟩) x8_1.length co30) y301 := (by rw [hw, Ny301.out]; exact HP34.1); clear HP34; have n0_ := zb.mk (Kd.R_over' (v := (.slice (some ⟨go30, 0, none⟩) x8_1.length co30)) (ur HO_1.out) (Kd.yZ HO_8.out) (by decide) hg); have n1_ := zb.mk (Kd.R_over' (v := (.slice (some ⟨go30, 0, none⟩) x8_1.length co30)) (ur HO_7.out) (Kd.yZ HO_8.out) (by decide) hg); have n2_ := zb.mk (hp_); have n3_ := zb.mk ((by rw [hw]; exact below_set (HB.out) GB30.out : Below w.heap.size w w35)); clear HO_1; clear HO_7; clear HO_8; clear HB; have HO_1 := n0_; have HO_7 := n1_; have HO_8 := n2_; have HB := n3_; clear n0_ n1_ n2_ n3_; clear hg hw hp_) | ((with_reducible refine qa (b := .append) (xs := #[.tmp 50, .tmp 52]) rfl ?_); at_builtin; refine Kd.R_append (Kd.int .i64) (w0 := w) w.heap.size rfl (.tmp 50) (.tmp 52) 26 3 (.int .i64 0) 8 rfl Try.underlying26 info3 rfl (by decide) (by omega) (.slice Ao10 x7_1.length co10) x7_1 x9_2 [.int .i64 x9_2] (fun _ => True) (fun _ => False) rfl rfl ?aP (fun _ hk => hk.elim) ?aF ?aO ?aB ?aS ?aL ?_; (case aP => exact rfl); (case aB => exact (ub HB.out)); (case aF => exact (fun _ _ => trivial)); (case aO => exact (ur HO_7.out)); (case aS => exact (zi (ub HB.out))); (case aL => have := LMc31.out; omega); intro v303 w36 ho hb hg hat; rw [← Ny302.out] at ho; have n0_ := zb.mk (Kd.R_over' (ur HO_1.out) (Kd.yZ (ur HO_7.out)) (by decide) hg); have n1_ := zb.mk (Kd.R_over' (ur HO_8.out) (Kd.yZ (ur HO_7.out)) (by decide) hg); have n2_ := zb.mk (hb); have n3_ := zb.mk (ho); clear HO_1; clear HO_8; clear HB; clear HO_7; have HO_1 := n0_; have HO_8 := n1_; have HB := n2_; have HO304 := n3_; clear n0_ n1_ n2_ n3_; clear ho hb hg hat; have p305 : 0 ≤ (x9_2 : Int) := zdd; have q305 : x9_2 < (l0.length : Int) := zdd; obtain ⟨ad305, A305_2, c305_2, A305_16, c305_16, e305, hx305_0, hx305_1, hx305_2, hx305_3, hx305_4, hx305_5, hx305_6, hx305_7, hx305_8, hx305_9, hx305_10, hx305_11, hx305_12, hx305_13, hx305_14, hx305_15, hx305_16, hl305_2, hi305_2, hl305_16, hi305_16⟩ := qv HR0.out x9_2 p305 q305; cases e305; replace hx305_0 := zg HB.out hx305_0; replace hx305_1 := zg HB.out hx305_1; replace hx305_2 := zg HB.out hx305_2; replace hx305_3 := zg HB.out hx305_3; replace hx305_4 := zg HB.out hx305_4; replace hx305_5 := zg HB.out hx305_5; replace hx305_6 := zg HB.out hx305_6; replace hx305_7 := zg HB.out hx305_7; replace hx305_8 := zg HB.out hx305_8; replace hx305_9 := zg HB.out hx305_9; replace hx305_10 := zg HB.out hx305_10; replace hx305_11 := zg HB.out hx305_11; replace hx305_12 := zg HB.out hx305_12; replace hx305_13 := zg HB.out hx305_13; replace hx305_14 := zg HB.out hx305_14; replace hx305_15 := zg HB.out hx305_15; replace hx305_16 := zg HB.out hx305_16; have HR305_2 := zb.mk hi305_2; have HC305_2 := zb.mk hl305_2; clear hi305_2 hl305_2; have HR305_16 := zb.mk hi305_16; have HC305_16 := zb.mk hl305_16; clear hi305_16 hl305_16; replace p305 := eq_true p305; replace q305 := eq_true q305; obtain ⟨Ao37, co37, eo37⟩ := Kd.yx HO_1.out; subst eo37) | ((with_reducible refine zP (f := 17) rfl ?_); refine yH (some 59) rfl rfl Try.func17 (by kernel_rfl) rfl #[.agg #[.int .i64 ((za l0 x9_2).f0), .string ((za l0 x9_2).f1.f0), .slice A305_2 ((za l0 x9_2).f1.f1).length c305_2, .string ((za l0 x9_2).f2), .string ((za l0 x9_2).f3.f0), .int .i64 ((za l0 x9_2).f3.f1.f0), .int .i64 ((za l0 x9_2).f3.f1.f1), .string ((za l0 x9_2).f3.f1.f2), .string ((za l0 x9_2).f4.f0), .int .i64 ((za l0 x9_2).f4.f1.f0), .int .i64 ((za l0 x9_2).f4.f1.f1), .string ((za l0 x9_2).f4.f1.f2), .string ((za l0 x9_2).f5.f0), .int .i64 ((za l0 x9_2).f5.f1.f0), .int .i64 ((za l0 x9_2).f5.f1.f1), .string ((za l0 x9_2).f5.f1.f2), .slice A305_16 ((za l0 x9_2).f6).length c305_16], .slice Ao37 x1_1.length co37] rfl (by (try simp only [List.map_toArray, List.map_cons, List.map_nil]); first | done | rfl | (simp only [List.length_drop, List.length_take]; rfl)) ?_; (with_reducible refine (yq.calls k2 ((za l0 x9_2).f0) ((za l0 x9_2).f1.f0) _ _ ((za l0 x9_2).f1.f1) ((za l0 x9_2).f2) ((za l0 x9_2).f3.f0) ((za l0 x9_2).f3.f1.f0) ((za l0 x9_2).f3.f1.f1) ((za l0 x9_2).f3.f1.f2) ((za l0 x9_2).f4.f0) ((za l0 x9_2).f4.f1.f0) ((za l0 x9_2).f4.f1.f1) ((za l0 x9_2).f4.f1.f2) ((za l0 x9_2).f5.f0) ((za l0 x9_2).f5.f1.f0) ((za l0 x9_2).f5.f1.f1) ((za l0 x9_2).f5.f1.f2) _ _ ((za l0 x9_2).f6) _ _ x1_1 t306 _ ?side1 ?side2 ?side3 ?side4 ?side5 ?side6 A33.out).mono ?_); (case side1 => exact uc (Kd.zL HR305_2.out HB.out)); (case side2 => exact HC305_2.out); (case side3 => exact uc (Kd.zL HR305_16.out HB.out)); (case side4 => exact HC305_16.out); (case side5 => repeat (first | exact (Kd.zU HO_1.out).2.2 | (with_reducible refine Kd.yw ?_ _) | (with_reducible refine Kd.yv ?_ _) | (with_reducible refine Kd.yP ?_))); (case side6 => exact (Kd.zU HO_1.out).2.1); rintro e w38 ⟨v307, rfl, ho0, hb⟩; refine ⟨_, rfl, ?_⟩; have n0_ := zb.mk (Kd.qH (ur HO_1.out) (Kd.yI ho0) hb); have n1_ := zb.mk (Kd.yb (ur HO_8.out) hb); have n2_ := zb.mk (Kd.yb (ur HO304.out) hb); have n3_ := zb.mk (Kd.yr (Kd.R_new' ho0 (Kd.R_lt (ur HO_1.out))) (zi (ub HB.out))); have n4_ := zb.mk (zn (ub HB.out) hb); clear HO_1; clear HO_8; clear HO304; clear HB; have HO_1 := n0_; have HO_8 := n1_; have HO304 := n2_; have HO308 := n3_; have HB := n4_; clear n0_ n1_ n2_ n3_ n4_; (try clear hb); (try clear hb2); (try clear hk); (try clear hi); (try clear ho0)))
               go_roundg k2
               case measure => have := HK1.out; have := HK2.out; omega
               case rel => exact ⟨(t306), (y302), (y301), H', ⟨by have := HK1.out; have := HK2.out; omega⟩, ⟨ur (Kd.yt HO308.out (fun _ hk => trivial))⟩, ⟨ur HO304.out⟩, ⟨ur HO_8.out⟩, ⟨ub HB.out⟩⟩
             ·rw [if_neg c32] at H
              exact absurd H (by simp)
            ·rw [if_neg c31] at H
             exact absurd H (by simp)
           ·rw [if_neg c29] at H
            exact absurd H (by simp)
          ·rw [if_neg c28] at H
           exact absurd H (by simp)
     ·rw [if_neg c9] at H
      have c9b0 : decide ((x7_1.length : Int) < (l0.length : Int)) = false := decide_eq_false c9
      have c9b1 : decide (x7_1.length < l0.length) = false := decide_eq_false (fun h => c9 (Int.ofNat_lt.mpr h))
      clear c9
      as_aux_lemma =>
       simp only [Option.some.injEq, Prod.mk.injEq] at H
       obtain ⟨rfl, rfl, rfl⟩ := H
       obtain ⟨Ao39, co39, eo39⟩ := Kd.yx HO_7.out
       subst eo39
       go_wp2
       go_ret3
       exact ⟨_, _, by first | rfl | (simp [zA, zz] <;> rfl) | (simp [*, zA, zz] <;> rfl), by (with_reducible repeat (first | apply Kd.qA | apply Kd.qz | apply Kd.R_drew)); exact HO_7.out, by (with_reducible repeat (first | apply Kd.qA | apply Kd.qz | apply Kd.R_drew)); exact HO_1.out, ub HB.out⟩
  ·rw [if_neg c5] at H
   exact absurd H (by simp)
 ·rw [if_neg c4] at H
  exact absurd H (by simp)
end Go.Proofs.Ytmgbfgloegcloaa.Ps
