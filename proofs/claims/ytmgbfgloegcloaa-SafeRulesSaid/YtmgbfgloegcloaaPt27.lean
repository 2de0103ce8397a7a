import Derived.Test.YtmgbfgloegcloaaZip
import Derived.Test.YtmgbfgloegcloaaPtD
namespace Go.Proofs.Ytmgbfgloegcloaa.Ps
open Go.RowKit Go.Proofs.YtmgbfgloegcloaaW.PrintWords Go.Proofs.YtmgbfgloegcloaaW.PrintLast Go.Proofs.YtmgbfgloegcloaaW.PrintMore
attribute [local go_sem] yD yB yR yQ ym yl yC yA
set_option linter.unusedVariables false
set_option linter.unusedSimpArgs false
theorem eqA82 (d : Nat) (w : World) (x0 y0 : Int) (x1 y1 : ByteArray) :
  (Op.equalIn (d + 2) 82 (.agg #[.int .i64 x0, .string x1]) (.agg #[.int .i64 y0, .string y1])).run Try.prog w = .ok (x0 == y0 && (x1.toList == y1.toList)) w := by
 refine eqA_of Try.underlying82 (by kernel_rfl) ?_
 refine eqf_cons (by rfl) (by go_simp; rfl) (by go_simp; rfl) (by go_simp) ?_
 exact eqf_last (by rfl) (by go_simp; rfl) (by go_simp; rfl) (by go_simp)
end Go.Proofs.Ytmgbfgloegcloaa.Ps
namespace Go.Proofs.Ytmgbfgloegcloaa.Ps
open Go.RowKit Go.Proofs.YtmgbfgloegcloaaW.PrintWords Go.Proofs.YtmgbfgloegcloaaW.PrintLast Go.Proofs.YtmgbfgloegcloaaW.PrintMore
attribute [local go_sem] yD yB yR yQ ym yl yC yA
set_option linter.unusedVariables false
set_option linter.unusedSimpArgs false
attribute [local go_sem high] eqA82
set_option maxHeartbeats 8000000 in
set_option maxRecDepth 100000 in
theorem zH.calls (k : Nat) (A0 : Option Addr) (c0 : Nat) (l0 : List (S82)) (A1 : Option Addr) (c1 : Nat) (l1 : List (S82)) (r : Bool) (w : World) (hr0 : Kd.C k82 w A0 l0.length l0) (hc0 : l0.length ≤ c0) (hr1 : Kd.C k82 w A1 l1.length l1) (hc1 : l1.length ≤ c1) (h : zH.f k l0 l1 = some r) :
  Calls Try.prog 37 #[.slice A0 l0.length c0, .slice A1 l1.length c1] w fun e w' => e = .returned (.bool r) ∧ yO w w' := by
 have hu82 := Try.underlying82
 have HR0 := zb.mk hr0
 have HC0 := zb.mk hc0
 clear hr0 hc0
 have HR1 := zb.mk hr1
 have HC1 := zb.mk hc1
 clear hr1 hc1
 have H : (if (l0.length : Int) = (l1.length : Int) then (zH.l0 k l0 l1 (l0.length : Int) 0) else (none)) = some r := h
 clear h
 by_cases c3 : (l0.length : Int) = (l1.length : Int)
 ·rw [if_pos c3] at H
  have c3b0 : ((l0.length : Int) == (l1.length : Int)) = true := beq_iff_eq.mpr c3
  have c3b1 : ((l0.length : Int) != (l1.length : Int)) = false := bne_eq_false_iff_eq.mpr c3
  have c3b2 : (l0.length == l1.length) = true := by first | simpa using c3 | (simp at c3 ⊢; omega)
  clear c3
  have H' := zb.mk H
  clear H
  go_enter Try.func37, Try.ntmps37
  go_wp2
  repeat (go_quiet (fail); try go_wp2)
  go_loopg [13] k (fun kq v13 w' => ∃ (x13_1 : Int), v13 = .int .i64 x13_1 ∧ zb (zH.l0 kq l0 l1 (l0.length : Int) x13_1 = some r) ∧ zb (kq ≤ k) ∧ yO w w')
  case atStart => exact ⟨(0), (by first | rfl | (simp; done) | (simp [*]; done)), H', ⟨Nat.le_refl _⟩, by repeat (first | exact yO.refl _ | apply yO.step)⟩
  case round =>
   clear H'
   try clear c1
   try clear p2
   try clear c3
   try clear c3b0
   try clear c3b1
   try clear c3b2
   obtain ⟨x13_1, rfl, HA, HK1, ⟨m1, rfl⟩⟩ := hrel
   cases gk with
   | zero => exact absurd HA.out (by simp [zH.l0])
   | succ k1 =>
    have H := HA.out
    clear HA
    simp only [zH.l0] at H
    by_cases c4 : x13_1 < (l0.length : Int)
    ·rw [if_pos c4] at H
     have c4b0 : decide (x13_1 < (l0.length : Int)) = true := decide_eq_true c4
     clear c4
     by_cases c5 : 0 ≤ x13_1
     ·rw [if_pos c5] at H
      have c5b0 : decide (0 ≤ x13_1) = true := decide_eq_true c5
      clear c5
      by_cases c6 : x13_1 < (l0.length : Int)
      ·rw [if_pos c6] at H
       have c6b0 : decide (x13_1 < (l0.length : Int)) = true := decide_eq_true c6
       clear c6
       by_cases c7 : x13_1 < (l1.length : Int)
       ·rw [if_pos c7] at H
        have c7b0 : decide (x13_1 < (l1.length : Int)) = true := decide_eq_true c7
        clear c7
        by_cases c8 : (!(((rd_T82 l0 x13_1).f0) == ((rd_T82 l1 x13_1).f0)) || (!((((rd_T82 l0 x13_1).f1).toList) == (((rd_T82 l1 x13_1).f1).toList)))) = true
        ·rw [if_pos c8] at H
         exact absurd H (by simp)
        ·rw [if_neg c8] at H
         have c8b0 : (!(((rd_T82 l0 x13_1).f0) == ((rd_T82 l1 x13_1).f0)) || (!((((rd_T82 l0 x13_1).f1).toList) == (((rd_T82 l1 x13_1).f1).toList)))) = false := by simpa using c8
         clear c8
         have H' := zb.mk H
         clear H
         have p424 : 0 ≤ (x13_1 : Int) := zdd
         have q424 : x13_1 < (l0.length : Int) := zdd
         obtain ⟨ad424, e424, hx424_0, hx424_1⟩ := at_T82 HR0.out x13_1 p424 q424
         cases e424
         replace p424 := eq_true p424
         replace q424 := eq_true q424
         have p425 : 0 ≤ (x13_1 : Int) := zdd
         have q425 : x13_1 < (l1.length : Int) := zdd
         obtain ⟨ad425, e425, hx425_0, hx425_1⟩ := at_T82 HR1.out x13_1 p425 q425
         cases e425
         replace p425 := eq_true p425
         replace q425 := eq_true q425
         go_wp2
         repeat (go_quiet (fail); try go_wp2)
         go_roundg k1
         case measure => have := HK1.out; omega
         case rel => exact ⟨(wrap64 (x13_1 + 1)), (by first | rfl | (simp; done) | (simp [*]; done)), H', ⟨by have := HK1.out; omega⟩, by repeat (first | exact yO.refl _ | apply yO.step)⟩
       ·rw [if_neg c7] at H
        exact absurd H (by simp)
      ·rw [if_neg c6] at H
       exact absurd H (by simp)
     ·rw [if_neg c5] at H
      exact absurd H (by simp)
    ·rw [if_neg c4] at H
     have c4b0 : decide (x13_1 < (l0.length : Int)) = false := decide_eq_false c4
     clear c4
     obtain rfl := Option.some.inj H
     go_wp2
     repeat (go_quiet (fail); try go_wp2)
     go_ret
     exact ⟨by first | rfl | (simp; done) | (simp [*]; done), by repeat (first | exact yO.refl _ | apply yO.step)⟩
 ·rw [if_neg c3] at H
  exact absurd H (by simp)
end Go.Proofs.Ytmgbfgloegcloaa.Ps
