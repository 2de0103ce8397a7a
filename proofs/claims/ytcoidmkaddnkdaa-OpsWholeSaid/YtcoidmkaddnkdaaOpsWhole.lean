/- THE LAW OpsWhole: whatever the arguments, the call returns true, and they read as they did. No condition. -/
import Derived.Test.YtcoidmkaddnkdaaRows
import Derived.Test.YtcoidmkaddnkdaaQ3
import Derived.Test.YtcoidmkaddnkdaaKit
import Derived.Lib.SmallJoins
import Derived.Deep.DeepCutAuto
namespace Go.Proofs.Ytcoidmkaddnkdaa.opsWhole
open Go.ChangeShapes Go.WideShapes Go.ChangeAt Go.RowKit AnteFlo AnteVal AnteOps
set_option linter.unusedVariables false
set_option linter.unusedSimpArgs false

theorem sub_back {x y : Int} (hx : I64 x) (hy : I64 y) (hf : fits (x + y) = true) (w : World) :
    Calls Try.prog 10 #[.string ⟨#[45]⟩, .agg #[.int .i64 1, .int .i64 (x + y), .string ⟨#[]⟩], .agg #[.int .i64 1, .int .i64 y, .string ⟨#[]⟩]] w fun e w' =>
      e = .returned (.tuple #[.agg #[.int .i64 1, .int .i64 x, .string ⟨#[]⟩], .int .i64 0]) ∧ Below w.heap.size w w' := by
  have e : x + y - y = x := by omega
  have := sub_fit (fits_iff hf) hy (by rw [e]; exact fits_of hx) w
  rw [e] at this
  exact this
theorem sub_self {x : Int} (hx : I64 x) (w : World) :
    Calls Try.prog 10 #[.string ⟨#[45]⟩, .agg #[.int .i64 1, .int .i64 x, .string ⟨#[]⟩], .agg #[.int .i64 1, .int .i64 x, .string ⟨#[]⟩]] w fun e w' =>
      e = .returned (.tuple #[.agg #[.int .i64 1, .int .i64 0, .string ⟨#[]⟩], .int .i64 0]) ∧ Below w.heap.size w w' := by
  have e : x - x = 0 := by omega
  have := sub_fit hx hx (by rw [e]; rfl) w
  rw [e] at this
  exact this
theorem both_signs {x y : Int} (hx : I64 x) (hy : I64 y) (hf : fits (x + y) = false) : ((0 < x) = True ∧ (0 < y) = True ∨ (0 < x) = False ∧ (0 < y) = False) ∧ (x == 0) = false ∧ (y == 0) = false := by
  have hn : x + y < -9223372036854775808 ∨ 9223372036854775807 < x + y := by
    rcases Classical.em (x + y < -9223372036854775808 ∨ 9223372036854775807 < x + y) with h | h
    · exact h
    · rw [fits_of (by omega)] at hf; cases hf
  unfold I64 at hx hy
  refine ⟨?_, by simp; omega, by simp; omega⟩
  rcases hn with h | h
  · right; exact ⟨eq_false (by omega), eq_false (by omega)⟩
  · left; exact ⟨eq_true (by omega), eq_true (by omega)⟩

set_option maxRecDepth 100000 in
set_option maxHeartbeats 4000000 in
theorem walk (a0 a1 : Int) (w0 : (Lit.int .i64 a0).wf = true) (w1 : (Lit.int .i64 a1).wf = true) (w : World) :
    Calls Try.prog 4 #[.int .i64 a0, .int .i64 a1] w fun e w' => e = .returned (.bool true) ∧ Below w.heap.size w w' := by
  have i0 : I64 a0 := bounds_i64 w0
  have i1 : I64 a1 := bounds_i64 w1
  have s1 := Lib.hid (add_gen i0 i1)
  have s2' := add_gen i1 i0
  rw [Int.add_comm a1 a0] at s2'
  have s2 := Lib.hid s2'
  have s3 := Lib.hid (mul_gen i0 i1)
  have s4' := mul_gen i1 i0
  rw [Int.mul_comm a1 a0] at s4'
  have s4 := Lib.hid s4'
  have s6 := Lib.hid (sub_self i0)
  have I0 := Lib.hid i0
  have I1 := Lib.hid i1
  clear w0 w1 i0 i1 s2' s4'
  go_enter Try.func4, Try.ntmps4
  have HB : Hid (Below w.heap.size w w) := Below.refl _ _
  go_wp2_with fail
  refine (awake_any _).mono ?_; rintro e W1 ⟨rfl, hb⟩
  replace HB := Lib.hid (below_next HB.out hb)
  clear hb
  go_wp2_with fail
  refine (whole_any a0 _).mono ?_; rintro e W2 ⟨rfl, hb⟩
  replace HB := Lib.hid (below_next HB.out hb)
  clear hb
  go_wp2_with fail
  refine (whole_any a1 _).mono ?_; rintro e W3 ⟨rfl, hb⟩
  replace HB := Lib.hid (below_next HB.out hb)
  clear hb
  go_wp2_with fail
  refine (s1.out _).mono ?_; rintro e W4 ⟨rfl, hb⟩
  replace HB := Lib.hid (below_next HB.out hb)
  clear hb
  go_wp2_with fail
  have x0 : (W4.alloc (.cells #[.int .i64 (fk (a0 + a1)), .int .i64 (tm (a0 + a1)), .string ⟨#[]⟩] 23)).cell? ⟨W4.heap.size, 0, none⟩ = some (.int .i64 (fk (a0 + a1))) := by simp [go_sem]
  have x1 : (W4.alloc (.cells #[.int .i64 (fk (a0 + a1)), .int .i64 (tm (a0 + a1)), .string ⟨#[]⟩] 23)).cell? ⟨W4.heap.size, 1, none⟩ = some (.int .i64 (tm (a0 + a1))) := by simp [go_sem]
  have x2 : (W4.alloc (.cells #[.int .i64 (fk (a0 + a1)), .int .i64 (tm (a0 + a1)), .string ⟨#[]⟩] 23)).cell? ⟨W4.heap.size, 2, none⟩ = some (.string ⟨#[]⟩) := by simp [go_sem]
  replace HB := Lib.hid (below_box HB.out (.cells #[.int .i64 (fk (a0 + a1)), .int .i64 (tm (a0 + a1)), .string ⟨#[]⟩] 23))
  generalize (W4.alloc (.cells #[.int .i64 (fk (a0 + a1)), .int .i64 (tm (a0 + a1)), .string ⟨#[]⟩] 23)) = W5 at *
  generalize W4.heap.size = px at *
  go_wp2_with fail
  refine (whole_any a1 _).mono ?_; rintro e W6 ⟨rfl, hb⟩
  replace HB := Lib.hid (below_next HB.out hb)
  replace x0 := cell_keep x0 hb
  replace x1 := cell_keep x1 hb
  replace x2 := cell_keep x2 hb
  clear hb
  go_wp2_with fail
  refine (whole_any a0 _).mono ?_; rintro e W7 ⟨rfl, hb⟩
  replace HB := Lib.hid (below_next HB.out hb)
  replace x0 := cell_keep x0 hb
  replace x1 := cell_keep x1 hb
  replace x2 := cell_keep x2 hb
  clear hb
  go_wp2_with fail
  refine (s2.out _).mono ?_; rintro e W8 ⟨rfl, hb⟩
  replace HB := Lib.hid (below_next HB.out hb)
  replace x0 := cell_keep x0 hb
  replace x1 := cell_keep x1 hb
  replace x2 := cell_keep x2 hb
  clear hb
  go_wp2_with fail
  have y0 : (W8.alloc (.cells #[.int .i64 (fk (a0 + a1)), .int .i64 (tm (a0 + a1)), .string ⟨#[]⟩] 23)).cell? ⟨W8.heap.size, 0, none⟩ = some (.int .i64 (fk (a0 + a1))) := by simp [go_sem]
  have y1 : (W8.alloc (.cells #[.int .i64 (fk (a0 + a1)), .int .i64 (tm (a0 + a1)), .string ⟨#[]⟩] 23)).cell? ⟨W8.heap.size, 1, none⟩ = some (.int .i64 (tm (a0 + a1))) := by simp [go_sem]
  have y2 : (W8.alloc (.cells #[.int .i64 (fk (a0 + a1)), .int .i64 (tm (a0 + a1)), .string ⟨#[]⟩] 23)).cell? ⟨W8.heap.size, 2, none⟩ = some (.string ⟨#[]⟩) := by simp [go_sem]
  replace HB := Lib.hid (below_box HB.out (.cells #[.int .i64 (fk (a0 + a1)), .int .i64 (tm (a0 + a1)), .string ⟨#[]⟩] 23))
  replace x0 := cell_box x0 (.cells #[.int .i64 (fk (a0 + a1)), .int .i64 (tm (a0 + a1)), .string ⟨#[]⟩] 23)
  replace x1 := cell_box x1 (.cells #[.int .i64 (fk (a0 + a1)), .int .i64 (tm (a0 + a1)), .string ⟨#[]⟩] 23)
  replace x2 := cell_box x2 (.cells #[.int .i64 (fk (a0 + a1)), .int .i64 (tm (a0 + a1)), .string ⟨#[]⟩] 23)
  generalize (W8.alloc (.cells #[.int .i64 (fk (a0 + a1)), .int .i64 (tm (a0 + a1)), .string ⟨#[]⟩] 23)) = W9 at *
  generalize W8.heap.size = py at *
  go_wp2_with fail
  refine (whole_any a0 _).mono ?_; rintro e W10 ⟨rfl, hb⟩
  replace HB := Lib.hid (below_next HB.out hb)
  replace x0 := cell_keep x0 hb
  replace x1 := cell_keep x1 hb
  replace x2 := cell_keep x2 hb
  replace y0 := cell_keep y0 hb
  replace y1 := cell_keep y1 hb
  replace y2 := cell_keep y2 hb
  clear hb
  go_wp2_with fail
  refine (whole_any a1 _).mono ?_; rintro e W11 ⟨rfl, hb⟩
  replace HB := Lib.hid (below_next HB.out hb)
  replace x0 := cell_keep x0 hb
  replace x1 := cell_keep x1 hb
  replace x2 := cell_keep x2 hb
  replace y0 := cell_keep y0 hb
  replace y1 := cell_keep y1 hb
  replace y2 := cell_keep y2 hb
  clear hb
  go_wp2_with fail
  refine (s3.out _).mono ?_; rintro e W12 ⟨rfl, hb⟩
  replace HB := Lib.hid (below_next HB.out hb)
  replace x0 := cell_keep x0 hb
  replace x1 := cell_keep x1 hb
  replace x2 := cell_keep x2 hb
  replace y0 := cell_keep y0 hb
  replace y1 := cell_keep y1 hb
  replace y2 := cell_keep y2 hb
  clear hb
  go_wp2_with fail
  have u0 : (W12.alloc (.cells #[.int .i64 (fk (a0 * a1)), .int .i64 (tm (a0 * a1)), .string ⟨#[]⟩] 23)).cell? ⟨W12.heap.size, 0, none⟩ = some (.int .i64 (fk (a0 * a1))) := by simp [go_sem]
  have u1 : (W12.alloc (.cells #[.int .i64 (fk (a0 * a1)), .int .i64 (tm (a0 * a1)), .string ⟨#[]⟩] 23)).cell? ⟨W12.heap.size, 1, none⟩ = some (.int .i64 (tm (a0 * a1))) := by simp [go_sem]
  have u2 : (W12.alloc (.cells #[.int .i64 (fk (a0 * a1)), .int .i64 (tm (a0 * a1)), .string ⟨#[]⟩] 23)).cell? ⟨W12.heap.size, 2, none⟩ = some (.string ⟨#[]⟩) := by simp [go_sem]
  replace HB := Lib.hid (below_box HB.out (.cells #[.int .i64 (fk (a0 * a1)), .int .i64 (tm (a0 * a1)), .string ⟨#[]⟩] 23))
  replace x0 := cell_box x0 (.cells #[.int .i64 (fk (a0 * a1)), .int .i64 (tm (a0 * a1)), .string ⟨#[]⟩] 23)
  replace x1 := cell_box x1 (.cells #[.int .i64 (fk (a0 * a1)), .int .i64 (tm (a0 * a1)), .string ⟨#[]⟩] 23)
  replace x2 := cell_box x2 (.cells #[.int .i64 (fk (a0 * a1)), .int .i64 (tm (a0 * a1)), .string ⟨#[]⟩] 23)
  replace y0 := cell_box y0 (.cells #[.int .i64 (fk (a0 * a1)), .int .i64 (tm (a0 * a1)), .string ⟨#[]⟩] 23)
  replace y1 := cell_box y1 (.cells #[.int .i64 (fk (a0 * a1)), .int .i64 (tm (a0 * a1)), .string ⟨#[]⟩] 23)
  replace y2 := cell_box y2 (.cells #[.int .i64 (fk (a0 * a1)), .int .i64 (tm (a0 * a1)), .string ⟨#[]⟩] 23)
  generalize (W12.alloc (.cells #[.int .i64 (fk (a0 * a1)), .int .i64 (tm (a0 * a1)), .string ⟨#[]⟩] 23)) = W13 at *
  generalize W12.heap.size = pu at *
  go_wp2_with fail
  refine (whole_any a1 _).mono ?_; rintro e W14 ⟨rfl, hb⟩
  replace HB := Lib.hid (below_next HB.out hb)
  replace x0 := cell_keep x0 hb
  replace x1 := cell_keep x1 hb
  replace x2 := cell_keep x2 hb
  replace y0 := cell_keep y0 hb
  replace y1 := cell_keep y1 hb
  replace y2 := cell_keep y2 hb
  replace u0 := cell_keep u0 hb
  replace u1 := cell_keep u1 hb
  replace u2 := cell_keep u2 hb
  clear hb
  go_wp2_with fail
  refine (whole_any a0 _).mono ?_; rintro e W15 ⟨rfl, hb⟩
  replace HB := Lib.hid (below_next HB.out hb)
  replace x0 := cell_keep x0 hb
  replace x1 := cell_keep x1 hb
  replace x2 := cell_keep x2 hb
  replace y0 := cell_keep y0 hb
  replace y1 := cell_keep y1 hb
  replace y2 := cell_keep y2 hb
  replace u0 := cell_keep u0 hb
  replace u1 := cell_keep u1 hb
  replace u2 := cell_keep u2 hb
  clear hb
  go_wp2_with fail
  refine (s4.out _).mono ?_; rintro e W16 ⟨rfl, hb⟩
  replace HB := Lib.hid (below_next HB.out hb)
  replace x0 := cell_keep x0 hb
  replace x1 := cell_keep x1 hb
  replace x2 := cell_keep x2 hb
  replace y0 := cell_keep y0 hb
  replace y1 := cell_keep y1 hb
  replace y2 := cell_keep y2 hb
  replace u0 := cell_keep u0 hb
  replace u1 := cell_keep u1 hb
  replace u2 := cell_keep u2 hb
  clear hb
  cases f1 : fits (a0 + a1)
  · obtain ⟨sg, z6, z7⟩ := both_signs I0.out I1.out f1
    obtain ⟨f1a, f1b, f1c⟩ := fe_not f1
    clear f1
    rcases sg with ⟨g1, g2⟩ | ⟨g1, g2⟩
    · replace x0 := cell_box x0 (.cells #[.int .i64 (fk (a0 * a1)), .int .i64 (tm (a0 * a1)), .string ⟨#[]⟩] 23)
      replace x1 := cell_box x1 (.cells #[.int .i64 (fk (a0 * a1)), .int .i64 (tm (a0 * a1)), .string ⟨#[]⟩] 23)
      replace x2 := cell_box x2 (.cells #[.int .i64 (fk (a0 * a1)), .int .i64 (tm (a0 * a1)), .string ⟨#[]⟩] 23)
      replace y0 := cell_box y0 (.cells #[.int .i64 (fk (a0 * a1)), .int .i64 (tm (a0 * a1)), .string ⟨#[]⟩] 23)
      replace y1 := cell_box y1 (.cells #[.int .i64 (fk (a0 * a1)), .int .i64 (tm (a0 * a1)), .string ⟨#[]⟩] 23)
      replace y2 := cell_box y2 (.cells #[.int .i64 (fk (a0 * a1)), .int .i64 (tm (a0 * a1)), .string ⟨#[]⟩] 23)
      replace u0 := cell_box u0 (.cells #[.int .i64 (fk (a0 * a1)), .int .i64 (tm (a0 * a1)), .string ⟨#[]⟩] 23)
      replace u1 := cell_box u1 (.cells #[.int .i64 (fk (a0 * a1)), .int .i64 (tm (a0 * a1)), .string ⟨#[]⟩] 23)
      replace u2 := cell_box u2 (.cells #[.int .i64 (fk (a0 * a1)), .int .i64 (tm (a0 * a1)), .string ⟨#[]⟩] 23)
      have v0 : (W16.alloc (.cells #[.int .i64 (fk (a0 * a1)), .int .i64 (tm (a0 * a1)), .string ⟨#[]⟩] 23)).cell? ⟨W16.heap.size, 0, none⟩ = some (.int .i64 (fk (a0 * a1))) := by simp [go_sem]
      have v1 : (W16.alloc (.cells #[.int .i64 (fk (a0 * a1)), .int .i64 (tm (a0 * a1)), .string ⟨#[]⟩] 23)).cell? ⟨W16.heap.size, 1, none⟩ = some (.int .i64 (tm (a0 * a1))) := by simp [go_sem]
      have v2 : (W16.alloc (.cells #[.int .i64 (fk (a0 * a1)), .int .i64 (tm (a0 * a1)), .string ⟨#[]⟩] 23)).cell? ⟨W16.heap.size, 2, none⟩ = some (.string ⟨#[]⟩) := by simp [go_sem]
      replace HB := Lib.hid (below_box HB.out (.cells #[.int .i64 (fk (a0 * a1)), .int .i64 (tm (a0 * a1)), .string ⟨#[]⟩] 23))
      go_wp2_with fail
      generalize (W16.alloc (.cells #[.int .i64 (fk (a0 * a1)), .int .i64 (tm (a0 * a1)), .string ⟨#[]⟩] 23)) = W17 at *
      generalize W16.heap.size = pv at *
      cases h3 : fits (a0 * a1)
      · obtain ⟨f3a, f3b, f3c⟩ := fe_not h3
        clear h3
        go_wp2_with fail
        refine (whole_any a0 _).mono ?_; rintro e W18 ⟨rfl, hb⟩
        replace HB := Lib.hid (below_next HB.out hb)
        replace x0 := cell_keep x0 hb
        replace x1 := cell_keep x1 hb
        replace x2 := cell_keep x2 hb
        replace y0 := cell_keep y0 hb
        replace y1 := cell_keep y1 hb
        replace y2 := cell_keep y2 hb
        replace u0 := cell_keep u0 hb
        replace u1 := cell_keep u1 hb
        replace u2 := cell_keep u2 hb
        replace v0 := cell_keep v0 hb
        replace v1 := cell_keep v1 hb
        replace v2 := cell_keep v2 hb
        clear hb
        go_wp2_with fail
        refine (whole_any a0 _).mono ?_; rintro e W19 ⟨rfl, hb⟩
        replace HB := Lib.hid (below_next HB.out hb)
        replace x0 := cell_keep x0 hb
        replace x1 := cell_keep x1 hb
        replace x2 := cell_keep x2 hb
        replace y0 := cell_keep y0 hb
        replace y1 := cell_keep y1 hb
        replace y2 := cell_keep y2 hb
        replace u0 := cell_keep u0 hb
        replace u1 := cell_keep u1 hb
        replace u2 := cell_keep u2 hb
        replace v0 := cell_keep v0 hb
        replace v1 := cell_keep v1 hb
        replace v2 := cell_keep v2 hb
        clear hb
        go_wp2_with fail
        refine (s6.out _).mono ?_; rintro e W20 ⟨rfl, hb⟩
        replace HB := Lib.hid (below_next HB.out hb)
        replace x0 := cell_keep x0 hb
        replace x1 := cell_keep x1 hb
        replace x2 := cell_keep x2 hb
        replace y0 := cell_keep y0 hb
        replace y1 := cell_keep y1 hb
        replace y2 := cell_keep y2 hb
        replace u0 := cell_keep u0 hb
        replace u1 := cell_keep u1 hb
        replace u2 := cell_keep u2 hb
        replace v0 := cell_keep v0 hb
        replace v1 := cell_keep v1 hb
        replace v2 := cell_keep v2 hb
        clear hb
        replace x0 := cell_box x0 (.cells #[.int .i64 1, .int .i64 0, .string ⟨#[]⟩] 23)
        replace x1 := cell_box x1 (.cells #[.int .i64 1, .int .i64 0, .string ⟨#[]⟩] 23)
        replace x2 := cell_box x2 (.cells #[.int .i64 1, .int .i64 0, .string ⟨#[]⟩] 23)
        replace y0 := cell_box y0 (.cells #[.int .i64 1, .int .i64 0, .string ⟨#[]⟩] 23)
        replace y1 := cell_box y1 (.cells #[.int .i64 1, .int .i64 0, .string ⟨#[]⟩] 23)
        replace y2 := cell_box y2 (.cells #[.int .i64 1, .int .i64 0, .string ⟨#[]⟩] 23)
        replace u0 := cell_box u0 (.cells #[.int .i64 1, .int .i64 0, .string ⟨#[]⟩] 23)
        replace u1 := cell_box u1 (.cells #[.int .i64 1, .int .i64 0, .string ⟨#[]⟩] 23)
        replace u2 := cell_box u2 (.cells #[.int .i64 1, .int .i64 0, .string ⟨#[]⟩] 23)
        replace v0 := cell_box v0 (.cells #[.int .i64 1, .int .i64 0, .string ⟨#[]⟩] 23)
        replace v1 := cell_box v1 (.cells #[.int .i64 1, .int .i64 0, .string ⟨#[]⟩] 23)
        replace v2 := cell_box v2 (.cells #[.int .i64 1, .int .i64 0, .string ⟨#[]⟩] 23)
        have r0 : (W20.alloc (.cells #[.int .i64 1, .int .i64 0, .string ⟨#[]⟩] 23)).cell? ⟨W20.heap.size, 0, none⟩ = some (.int .i64 1) := by simp [go_sem]
        have r1 : (W20.alloc (.cells #[.int .i64 1, .int .i64 0, .string ⟨#[]⟩] 23)).cell? ⟨W20.heap.size, 1, none⟩ = some (.int .i64 0) := by simp [go_sem]
        have r2 : (W20.alloc (.cells #[.int .i64 1, .int .i64 0, .string ⟨#[]⟩] 23)).cell? ⟨W20.heap.size, 2, none⟩ = some (.string ⟨#[]⟩) := by simp [go_sem]
        replace HB := Lib.hid (below_box HB.out (.cells #[.int .i64 1, .int .i64 0, .string ⟨#[]⟩] 23))
        go_wp2_with fail
        generalize (W20.alloc (.cells #[.int .i64 1, .int .i64 0, .string ⟨#[]⟩] 23)) = W21 at *
        generalize W20.heap.size = pr at *
        have hB := HB.out
        refine wp_region_held_drew (S := fun w' => w'.cell? ⟨pr, 0, none⟩ = some (.int .i64 1) ∧ w'.cell? ⟨pr, 1, none⟩ = some (.int .i64 0) ∧ w'.cell? ⟨pr, 2, none⟩ = some (.string ⟨#[]⟩) ∧ Below w.heap.size w w') (by kernel_rfl) (by (first | assumption | (go_split_ands; (repeat' apply And.intro); (all_goals first | assumption | exact cell_keep (by assumption) hb | exact below_next (by assumption) hb | exact Below.drew (by assumption))))) (fun hS => ?_)
        refine wpAnyH_take (i := 0) (v := ?_) rfl (by kernel_rfl) (by kernel_rfl) (by kernel_rfl) (fun _ _ _ h => h) (Or.inl ⟨by kernel_rfl, ?_⟩) (by assumption) ?_
        rotate_left
        · intro w hSw; (try dsimp only at hSw); go_simp; (try with_reducible rfl)
        try simp only [Act.put, List.setIfInBounds_toArray]
        refine wpAnyH_take (i := 1) (v := ?_) rfl (by kernel_rfl) (by kernel_rfl) (by kernel_rfl) (fun _ _ _ h => h) (Or.inl ⟨by kernel_rfl, ?_⟩) (by assumption) ?_
        rotate_left
        · intro w hSw; (try dsimp only at hSw); go_simp; (try with_reducible rfl)
        try simp only [Act.put]
        refine wpAnyH_take (i := 2) (v := ?_) rfl (by kernel_rfl) (by kernel_rfl) (by kernel_rfl) (fun _ _ _ h => h) (Or.inl ⟨by kernel_rfl, ?_⟩) (by assumption) ?_
        rotate_left
        · intro w hSw; (try dsimp only at hSw); go_simp; (try with_reducible rfl)
        try simp only [Act.put]
        refine wpAnyH_take (i := 3) (v := ?_) rfl (by kernel_rfl) (by kernel_rfl) (by kernel_rfl) (fun _ _ _ h => h) (Or.inl ⟨by kernel_rfl, ?_⟩) (by assumption) ?_
        rotate_left
        · intro w hSw; (try dsimp only at hSw); go_simp; (try with_reducible rfl)
        try simp only [Act.put]
        refine wpAnyH_ready (rs := [4]) (by kernel_rfl) (by simp) ?_
        refine AllReadyH.cons rfl (fun K hK => ?_) AllReadyH.nil
        go_simp
        go_at_call 14
        refine (whole_any 0 _).mono ?_
        rintro e w' ⟨rfl, hb⟩
        refine hK.out _ _ (by (first | assumption | (go_split_ands; (repeat' apply And.intro); (all_goals first | assumption | exact cell_keep (by assumption) hb | exact below_next (by assumption) hb | exact Below.drew (by assumption))))) (fun hHeld => ?_)
        clear hK K hS
        try simp only [Act.put, List.setIfInBounds_toArray, List.set_cons_zero, List.set_cons_succ]
        refine wpAnyH_take (i := 5) (v := ?_) rfl (by kernel_rfl) (by kernel_rfl) (by kernel_rfl) (fun _ _ _ h => h) (Or.inl ⟨by kernel_rfl, ?_⟩) (by assumption) ?_
        rotate_left
        · intro w hSw; (try dsimp only at hSw); go_simp; (try with_reducible rfl)
        try simp only [Act.put, List.setIfInBounds_toArray]
        refine wpAnyH_take (i := 6) (v := ?_) rfl (by kernel_rfl) (by kernel_rfl) (by kernel_rfl) (fun _ _ _ h => h) (Or.inl ⟨by kernel_rfl, ?_⟩) (by assumption) ?_
        rotate_left
        · intro w hSw; (try dsimp only at hSw); go_simp; (try with_reducible rfl)
        try simp only [Act.put]
        refine wpAnyH_take (i := 7) (v := ?_) rfl (by kernel_rfl) (by kernel_rfl) (by kernel_rfl) (fun _ _ _ h => h) (Or.inl ⟨by kernel_rfl, ?_⟩) (by assumption) ?_
        rotate_left
        · intro w hSw; (try dsimp only at hSw); go_simp; (try with_reducible rfl)
        try simp only [Act.put]
        refine wpAnyH_take (i := 8) (v := ?_) rfl (by kernel_rfl) (by kernel_rfl) (by kernel_rfl) (fun _ _ _ h => h) (Or.inl ⟨by kernel_rfl, ?_⟩) (by assumption) ?_
        rotate_left
        · intro w hSw; (try dsimp only at hSw); go_simp; (try with_reducible rfl)
        try simp only [Act.put]
        refine wpAnyH_take (i := 9) (v := ?_) rfl (by kernel_rfl) (by kernel_rfl) (by kernel_rfl) (fun _ _ _ h => h) (Or.inl ⟨by kernel_rfl, ?_⟩) (by assumption) ?_
        rotate_left
        · intro w hSw; (try dsimp only at hSw); go_simp; (try with_reducible rfl)
        try simp only [Act.put]
        refine wpAnyH_take (i := 10) (v := ?_) rfl (by kernel_rfl) (by kernel_rfl) (by kernel_rfl) (fun _ _ _ h => h) (Or.inl ⟨by kernel_rfl, ?_⟩) (by assumption) ?_
        rotate_left
        · intro w hSw; (try dsimp only at hSw); go_simp; (try with_reducible rfl)
        try simp only [Act.put]
        refine wpAnyH_take (i := 11) (v := ?_) rfl (by kernel_rfl) (by kernel_rfl) (by kernel_rfl) (fun _ _ _ h => h) (Or.inl ⟨by kernel_rfl, ?_⟩) (by assumption) ?_
        rotate_left
        · intro w hSw; (try dsimp only at hSw); go_simp; (try with_reducible rfl)
        try simp only [Act.put]
        refine wpAnyH_take (i := 12) (v := ?_) rfl (by kernel_rfl) (by kernel_rfl) (by kernel_rfl) (fun _ _ _ h => h) (Or.inl ⟨by kernel_rfl, ?_⟩) (by assumption) ?_
        rotate_left
        · intro w hSw; (try dsimp only at hSw); go_simp; (try with_reducible rfl)
        try simp only [Act.put]
        refine wpAnyH_take (i := 13) (v := ?_) rfl (by kernel_rfl) (by kernel_rfl) (by kernel_rfl) (fun _ _ _ h => h) (Or.inl ⟨by kernel_rfl, ?_⟩) (by assumption) ?_
        rotate_left
        · intro w hSw; (try dsimp only at hSw); go_simp; (try with_reducible rfl)
        try simp only [Act.put]
        refine wpAnyH_take (i := 14) (v := ?_) rfl (by kernel_rfl) (by kernel_rfl) (by kernel_rfl) (fun _ _ _ h => h) (Or.inl ⟨by kernel_rfl, ?_⟩) (by assumption) ?_
        rotate_left
        · intro w hSw; (try dsimp only at hSw); go_simp; (try with_reducible rfl)
        try simp only [Act.put]
        refine wpAnyH_take (i := 15) (v := ?_) rfl (by kernel_rfl) (by kernel_rfl) (by kernel_rfl) (fun _ _ _ h => h) (Or.inl ⟨by kernel_rfl, ?_⟩) (by assumption) ?_
        rotate_left
        · intro w hSw; (try dsimp only at hSw); go_simp; (try with_reducible rfl)
        try simp only [Act.put]
        refine wpAnyH_take (i := 16) (v := ?_) rfl (by kernel_rfl) (by kernel_rfl) (by kernel_rfl) (fun _ _ _ h => h) (Or.inl ⟨by kernel_rfl, ?_⟩) (by assumption) ?_
        rotate_left
        · intro w hSw; (try dsimp only at hSw); go_simp; (try with_reducible rfl)
        try simp only [Act.put]
        refine wpAnyH_take (i := 17) (v := ?_) rfl (by kernel_rfl) (by kernel_rfl) (by kernel_rfl) (fun _ _ _ h => h) (Or.inl ⟨by kernel_rfl, ?_⟩) (by assumption) ?_
        rotate_left
        · intro w hSw; (try dsimp only at hSw); go_simp; (try with_reducible rfl)
        try simp only [Act.put]
        refine wpAnyH_take (i := 18) (v := ?_) rfl (by kernel_rfl) (by kernel_rfl) (by kernel_rfl) (fun _ _ _ h => h) (Or.inl ⟨by kernel_rfl, ?_⟩) (by assumption) ?_
        rotate_left
        · intro w hSw; (try dsimp only at hSw); go_simp; (try with_reducible rfl)
        try simp only [Act.put]
        refine wpAnyH_take (i := 19) (v := ?_) rfl (by kernel_rfl) (by kernel_rfl) (by kernel_rfl) (fun _ _ _ h => h) (Or.inl ⟨by kernel_rfl, ?_⟩) (by assumption) ?_
        rotate_left
        · intro w hSw; (try dsimp only at hSw); go_simp; (try with_reducible rfl)
        try simp only [Act.put]
        refine wpAnyH_take (i := 20) (v := ?_) rfl (by kernel_rfl) (by kernel_rfl) (by kernel_rfl) (fun _ _ _ h => h) (Or.inl ⟨by kernel_rfl, ?_⟩) (by assumption) ?_
        rotate_left
        · intro w hSw; (try dsimp only at hSw); go_simp; (try with_reducible rfl)
        try simp only [Act.put]
        refine wpAnyH_take (i := 21) (v := ?_) rfl (by kernel_rfl) (by kernel_rfl) (by kernel_rfl) (fun _ _ _ h => h) (Or.inl ⟨by kernel_rfl, ?_⟩) (by assumption) ?_
        rotate_left
        · intro w hSw; (try dsimp only at hSw); go_simp; (try with_reducible rfl)
        try simp only [Act.put]
        refine wpAnyH_take (i := 22) (v := ?_) rfl (by kernel_rfl) (by kernel_rfl) (by kernel_rfl) (fun _ _ _ h => h) (Or.inl ⟨by kernel_rfl, ?_⟩) (by assumption) ?_
        rotate_left
        · intro w hSw; (try dsimp only at hSw); go_simp; (try with_reducible rfl)
        try simp only [Act.put]
        refine wpAnyH_take (i := 23) (v := ?_) rfl (by kernel_rfl) (by kernel_rfl) (by kernel_rfl) (fun _ _ _ h => h) (Or.inl ⟨by kernel_rfl, ?_⟩) (by assumption) ?_
        rotate_left
        · intro w hSw; (try dsimp only at hSw); go_simp; (try with_reducible rfl)
        try simp only [Act.put]
        refine wpAnyH_done (by kernel_rfl) ?_ _
        go_split_ands
        go_wp2_with fail
        go_ret
        rename_i h1 _ _ h2
        have e1 := Option.some.inj h1
        have e2 := Option.some.inj h2
        cases e1
        cases e2
        exact ⟨by kernel_rfl, by assumption⟩
      · rcases Classical.em (a0 = 0) with hz | hz
        · have z1 : (a0 == 0) = true := by simpa using hz
          have z2 : (a0 != 0) = false := by simpa using hz
          obtain ⟨f3a, f3b, f3c⟩ := fe_fits h3
          clear h3 hz f3c
          go_wp2_with fail
          refine (whole_any a0 _).mono ?_; rintro e W18 ⟨rfl, hb⟩
          replace HB := Lib.hid (below_next HB.out hb)
          replace x0 := cell_keep x0 hb
          replace x1 := cell_keep x1 hb
          replace x2 := cell_keep x2 hb
          replace y0 := cell_keep y0 hb
          replace y1 := cell_keep y1 hb
          replace y2 := cell_keep y2 hb
          replace u0 := cell_keep u0 hb
          replace u1 := cell_keep u1 hb
          replace u2 := cell_keep u2 hb
          replace v0 := cell_keep v0 hb
          replace v1 := cell_keep v1 hb
          replace v2 := cell_keep v2 hb
          clear hb
          go_wp2_with fail
          refine (whole_any a0 _).mono ?_; rintro e W19 ⟨rfl, hb⟩
          replace HB := Lib.hid (below_next HB.out hb)
          replace x0 := cell_keep x0 hb
          replace x1 := cell_keep x1 hb
          replace x2 := cell_keep x2 hb
          replace y0 := cell_keep y0 hb
          replace y1 := cell_keep y1 hb
          replace y2 := cell_keep y2 hb
          replace u0 := cell_keep u0 hb
          replace u1 := cell_keep u1 hb
          replace u2 := cell_keep u2 hb
          replace v0 := cell_keep v0 hb
          replace v1 := cell_keep v1 hb
          replace v2 := cell_keep v2 hb
          clear hb
          go_wp2_with fail
          refine (s6.out _).mono ?_; rintro e W20 ⟨rfl, hb⟩
          replace HB := Lib.hid (below_next HB.out hb)
          replace x0 := cell_keep x0 hb
          replace x1 := cell_keep x1 hb
          replace x2 := cell_keep x2 hb
          replace y0 := cell_keep y0 hb
          replace y1 := cell_keep y1 hb
          replace y2 := cell_keep y2 hb
          replace u0 := cell_keep u0 hb
          replace u1 := cell_keep u1 hb
          replace u2 := cell_keep u2 hb
          replace v0 := cell_keep v0 hb
          replace v1 := cell_keep v1 hb
          replace v2 := cell_keep v2 hb
          clear hb
          replace x0 := cell_box x0 (.cells #[.int .i64 1, .int .i64 0, .string ⟨#[]⟩] 23)
          replace x1 := cell_box x1 (.cells #[.int .i64 1, .int .i64 0, .string ⟨#[]⟩] 23)
          replace x2 := cell_box x2 (.cells #[.int .i64 1, .int .i64 0, .string ⟨#[]⟩] 23)
          replace y0 := cell_box y0 (.cells #[.int .i64 1, .int .i64 0, .string ⟨#[]⟩] 23)
          replace y1 := cell_box y1 (.cells #[.int .i64 1, .int .i64 0, .string ⟨#[]⟩] 23)
          replace y2 := cell_box y2 (.cells #[.int .i64 1, .int .i64 0, .string ⟨#[]⟩] 23)
          replace u0 := cell_box u0 (.cells #[.int .i64 1, .int .i64 0, .string ⟨#[]⟩] 23)
          replace u1 := cell_box u1 (.cells #[.int .i64 1, .int .i64 0, .string ⟨#[]⟩] 23)
          replace u2 := cell_box u2 (.cells #[.int .i64 1, .int .i64 0, .string ⟨#[]⟩] 23)
          replace v0 := cell_box v0 (.cells #[.int .i64 1, .int .i64 0, .string ⟨#[]⟩] 23)
          replace v1 := cell_box v1 (.cells #[.int .i64 1, .int .i64 0, .string ⟨#[]⟩] 23)
          replace v2 := cell_box v2 (.cells #[.int .i64 1, .int .i64 0, .string ⟨#[]⟩] 23)
          have r0 : (W20.alloc (.cells #[.int .i64 1, .int .i64 0, .string ⟨#[]⟩] 23)).cell? ⟨W20.heap.size, 0, none⟩ = some (.int .i64 1) := by simp [go_sem]
          have r1 : (W20.alloc (.cells #[.int .i64 1, .int .i64 0, .string ⟨#[]⟩] 23)).cell? ⟨W20.heap.size, 1, none⟩ = some (.int .i64 0) := by simp [go_sem]
          have r2 : (W20.alloc (.cells #[.int .i64 1, .int .i64 0, .string ⟨#[]⟩] 23)).cell? ⟨W20.heap.size, 2, none⟩ = some (.string ⟨#[]⟩) := by simp [go_sem]
          replace HB := Lib.hid (below_box HB.out (.cells #[.int .i64 1, .int .i64 0, .string ⟨#[]⟩] 23))
          go_wp2_with fail
          generalize (W20.alloc (.cells #[.int .i64 1, .int .i64 0, .string ⟨#[]⟩] 23)) = W21 at *
          generalize W20.heap.size = pr at *
          have hB := HB.out
          refine wp_region_held_drew (S := fun w' => w'.cell? ⟨pr, 0, none⟩ = some (.int .i64 1) ∧ w'.cell? ⟨pr, 1, none⟩ = some (.int .i64 0) ∧ w'.cell? ⟨pr, 2, none⟩ = some (.string ⟨#[]⟩) ∧ Below w.heap.size w w') (by kernel_rfl) (by (first | assumption | (go_split_ands; (repeat' apply And.intro); (all_goals first | assumption | exact cell_keep (by assumption) hb | exact below_next (by assumption) hb | exact Below.drew (by assumption))))) (fun hS => ?_)
          refine wpAnyH_take (i := 0) (v := ?_) rfl (by kernel_rfl) (by kernel_rfl) (by kernel_rfl) (fun _ _ _ h => h) (Or.inl ⟨by kernel_rfl, ?_⟩) (by assumption) ?_
          rotate_left
          · intro w hSw; (try dsimp only at hSw); go_simp; (try with_reducible rfl)
          try simp only [Act.put, List.setIfInBounds_toArray]
          refine wpAnyH_take (i := 1) (v := ?_) rfl (by kernel_rfl) (by kernel_rfl) (by kernel_rfl) (fun _ _ _ h => h) (Or.inl ⟨by kernel_rfl, ?_⟩) (by assumption) ?_
          rotate_left
          · intro w hSw; (try dsimp only at hSw); go_simp; (try with_reducible rfl)
          try simp only [Act.put]
          refine wpAnyH_take (i := 2) (v := ?_) rfl (by kernel_rfl) (by kernel_rfl) (by kernel_rfl) (fun _ _ _ h => h) (Or.inl ⟨by kernel_rfl, ?_⟩) (by assumption) ?_
          rotate_left
          · intro w hSw; (try dsimp only at hSw); go_simp; (try with_reducible rfl)
          try simp only [Act.put]
          refine wpAnyH_take (i := 3) (v := ?_) rfl (by kernel_rfl) (by kernel_rfl) (by kernel_rfl) (fun _ _ _ h => h) (Or.inl ⟨by kernel_rfl, ?_⟩) (by assumption) ?_
          rotate_left
          · intro w hSw; (try dsimp only at hSw); go_simp; (try with_reducible rfl)
          try simp only [Act.put]
          refine wpAnyH_ready (rs := [4]) (by kernel_rfl) (by simp) ?_
          refine AllReadyH.cons rfl (fun K hK => ?_) AllReadyH.nil
          go_simp
          go_at_call 14
          refine (whole_any 0 _).mono ?_
          rintro e w' ⟨rfl, hb⟩
          refine hK.out _ _ (by (first | assumption | (go_split_ands; (repeat' apply And.intro); (all_goals first | assumption | exact cell_keep (by assumption) hb | exact below_next (by assumption) hb | exact Below.drew (by assumption))))) (fun hHeld => ?_)
          clear hK K hS
          try simp only [Act.put, List.setIfInBounds_toArray, List.set_cons_zero, List.set_cons_succ]
          refine wpAnyH_take (i := 5) (v := ?_) rfl (by kernel_rfl) (by kernel_rfl) (by kernel_rfl) (fun _ _ _ h => h) (Or.inl ⟨by kernel_rfl, ?_⟩) (by assumption) ?_
          rotate_left
          · intro w hSw; (try dsimp only at hSw); go_simp; (try with_reducible rfl)
          try simp only [Act.put, List.setIfInBounds_toArray]
          refine wpAnyH_take (i := 6) (v := ?_) rfl (by kernel_rfl) (by kernel_rfl) (by kernel_rfl) (fun _ _ _ h => h) (Or.inl ⟨by kernel_rfl, ?_⟩) (by assumption) ?_
          rotate_left
          · intro w hSw; (try dsimp only at hSw); go_simp; (try with_reducible rfl)
          try simp only [Act.put]
          refine wpAnyH_take (i := 7) (v := ?_) rfl (by kernel_rfl) (by kernel_rfl) (by kernel_rfl) (fun _ _ _ h => h) (Or.inl ⟨by kernel_rfl, ?_⟩) (by assumption) ?_
          rotate_left
          · intro w hSw; (try dsimp only at hSw); go_simp; (try with_reducible rfl)
          try simp only [Act.put]
          refine wpAnyH_take (i := 8) (v := ?_) rfl (by kernel_rfl) (by kernel_rfl) (by kernel_rfl) (fun _ _ _ h => h) (Or.inl ⟨by kernel_rfl, ?_⟩) (by assumption) ?_
          rotate_left
          · intro w hSw; (try dsimp only at hSw); go_simp; (try with_reducible rfl)
          try simp only [Act.put]
          refine wpAnyH_take (i := 9) (v := ?_) rfl (by kernel_rfl) (by kernel_rfl) (by kernel_rfl) (fun _ _ _ h => h) (Or.inl ⟨by kernel_rfl, ?_⟩) (by assumption) ?_
          rotate_left
          · intro w hSw; (try dsimp only at hSw); go_simp; (try with_reducible rfl)
          try simp only [Act.put]
          refine wpAnyH_take (i := 10) (v := ?_) rfl (by kernel_rfl) (by kernel_rfl) (by kernel_rfl) (fun _ _ _ h => h) (Or.inl ⟨by kernel_rfl, ?_⟩) (by assumption) ?_
          rotate_left
          · intro w hSw; (try dsimp only at hSw); go_simp; (try with_reducible rfl)
          try simp only [Act.put]
          refine wpAnyH_take (i := 11) (v := ?_) rfl (by kernel_rfl) (by kernel_rfl) (by kernel_rfl) (fun _ _ _ h => h) (Or.inl ⟨by kernel_rfl, ?_⟩) (by assumption) ?_
          rotate_left
          · intro w hSw; (try dsimp only at hSw); go_simp; (try with_reducible rfl)
          try simp only [Act.put]
          refine wpAnyH_take (i := 12) (v := ?_) rfl (by kernel_rfl) (by kernel_rfl) (by kernel_rfl) (fun _ _ _ h => h) (Or.inl ⟨by kernel_rfl, ?_⟩) (by assumption) ?_
          rotate_left
          · intro w hSw; (try dsimp only at hSw); go_simp; (try with_reducible rfl)
          try simp only [Act.put]
          refine wpAnyH_take (i := 13) (v := ?_) rfl (by kernel_rfl) (by kernel_rfl) (by kernel_rfl) (fun _ _ _ h => h) (Or.inl ⟨by kernel_rfl, ?_⟩) (by assumption) ?_
          rotate_left
          · intro w hSw; (try dsimp only at hSw); go_simp; (try with_reducible rfl)
          try simp only [Act.put]
          refine wpAnyH_take (i := 14) (v := ?_) rfl (by kernel_rfl) (by kernel_rfl) (by kernel_rfl) (fun _ _ _ h => h) (Or.inl ⟨by kernel_rfl, ?_⟩) (by assumption) ?_
          rotate_left
          · intro w hSw; (try dsimp only at hSw); go_simp; (try with_reducible rfl)
          try simp only [Act.put]
          refine wpAnyH_take (i := 15) (v := ?_) rfl (by kernel_rfl) (by kernel_rfl) (by kernel_rfl) (fun _ _ _ h => h) (Or.inl ⟨by kernel_rfl, ?_⟩) (by assumption) ?_
          rotate_left
          · intro w hSw; (try dsimp only at hSw); go_simp; (try with_reducible rfl)
          try simp only [Act.put]
          refine wpAnyH_take (i := 16) (v := ?_) rfl (by kernel_rfl) (by kernel_rfl) (by kernel_rfl) (fun _ _ _ h => h) (Or.inl ⟨by kernel_rfl, ?_⟩) (by assumption) ?_
          rotate_left
          · intro w hSw; (try dsimp only at hSw); go_simp; (try with_reducible rfl)
          try simp only [Act.put]
          refine wpAnyH_take (i := 17) (v := ?_) rfl (by kernel_rfl) (by kernel_rfl) (by kernel_rfl) (fun _ _ _ h => h) (Or.inl ⟨by kernel_rfl, ?_⟩) (by assumption) ?_
          rotate_left
          · intro w hSw; (try dsimp only at hSw); go_simp; (try with_reducible rfl)
          try simp only [Act.put]
          refine wpAnyH_take (i := 18) (v := ?_) rfl (by kernel_rfl) (by kernel_rfl) (by kernel_rfl) (fun _ _ _ h => h) (Or.inl ⟨by kernel_rfl, ?_⟩) (by assumption) ?_
          rotate_left
          · intro w hSw; (try dsimp only at hSw); go_simp; (try with_reducible rfl)
          try simp only [Act.put]
          refine wpAnyH_take (i := 19) (v := undef) rfl (by kernel_rfl) (by kernel_rfl) (by kernel_rfl) (fun _ _ _ h => h) (Or.inr ⟨by kernel_rfl, rfl⟩) (by assumption) ?_
          try simp only [Act.put]
          refine wpAnyH_take (i := 20) (v := undef) rfl (by kernel_rfl) (by kernel_rfl) (by kernel_rfl) (fun _ _ _ h => h) (Or.inr ⟨by kernel_rfl, rfl⟩) (by assumption) ?_
          try simp only [Act.put]
          refine wpAnyH_take (i := 21) (v := ?_) rfl (by kernel_rfl) (by kernel_rfl) (by kernel_rfl) (fun _ _ _ h => h) (Or.inl ⟨by kernel_rfl, ?_⟩) (by assumption) ?_
          rotate_left
          · intro w hSw; (try dsimp only at hSw); go_simp; (try with_reducible rfl)
          try simp only [Act.put]
          refine wpAnyH_take (i := 22) (v := ?_) rfl (by kernel_rfl) (by kernel_rfl) (by kernel_rfl) (fun _ _ _ h => h) (Or.inl ⟨by kernel_rfl, ?_⟩) (by assumption) ?_
          rotate_left
          · intro w hSw; (try dsimp only at hSw); go_simp; (try with_reducible rfl)
          try simp only [Act.put]
          refine wpAnyH_take (i := 23) (v := ?_) rfl (by kernel_rfl) (by kernel_rfl) (by kernel_rfl) (fun _ _ _ h => h) (Or.inl ⟨by kernel_rfl, ?_⟩) (by assumption) ?_
          rotate_left
          · intro w hSw; (try dsimp only at hSw); go_simp; (try with_reducible rfl)
          try simp only [Act.put]
          refine wpAnyH_done (by kernel_rfl) ?_ _
          go_split_ands
          go_wp2_with fail
          go_ret
          rename_i h1 _ _ h2
          have e1 := Option.some.inj h1
          have e2 := Option.some.inj h2
          cases e1
          cases e2
          exact ⟨by kernel_rfl, by assumption⟩
        · have z1 : (a0 == 0) = false := by simpa using hz
          have z2 : (a0 != 0) = true := by simpa using hz
          have z3 : Int.tdiv (a0 * a1) a0 = a1 := Int.mul_tdiv_cancel_left _ hz
          have z4 : Int.tmod (a0 * a1) a0 = 0 := Int.mul_tmod_right ..
          have z5 : wrap64 a1 = a1 := by have := I1.out; unfold I64 at this; unfold wrap64; omega
          obtain ⟨f3a, f3b, f3c⟩ := fe_fits h3
          clear h3
          go_wp2_with fail
          refine (whole_any a0 _).mono ?_; rintro e W18 ⟨rfl, hb⟩
          replace HB := Lib.hid (below_next HB.out hb)
          replace x0 := cell_keep x0 hb
          replace x1 := cell_keep x1 hb
          replace x2 := cell_keep x2 hb
          replace y0 := cell_keep y0 hb
          replace y1 := cell_keep y1 hb
          replace y2 := cell_keep y2 hb
          replace u0 := cell_keep u0 hb
          replace u1 := cell_keep u1 hb
          replace u2 := cell_keep u2 hb
          replace v0 := cell_keep v0 hb
          replace v1 := cell_keep v1 hb
          replace v2 := cell_keep v2 hb
          clear hb
          go_wp2_with fail
          refine (whole_any a0 _).mono ?_; rintro e W19 ⟨rfl, hb⟩
          replace HB := Lib.hid (below_next HB.out hb)
          replace x0 := cell_keep x0 hb
          replace x1 := cell_keep x1 hb
          replace x2 := cell_keep x2 hb
          replace y0 := cell_keep y0 hb
          replace y1 := cell_keep y1 hb
          replace y2 := cell_keep y2 hb
          replace u0 := cell_keep u0 hb
          replace u1 := cell_keep u1 hb
          replace u2 := cell_keep u2 hb
          replace v0 := cell_keep v0 hb
          replace v1 := cell_keep v1 hb
          replace v2 := cell_keep v2 hb
          clear hb
          go_wp2_with fail
          refine (s6.out _).mono ?_; rintro e W20 ⟨rfl, hb⟩
          replace HB := Lib.hid (below_next HB.out hb)
          replace x0 := cell_keep x0 hb
          replace x1 := cell_keep x1 hb
          replace x2 := cell_keep x2 hb
          replace y0 := cell_keep y0 hb
          replace y1 := cell_keep y1 hb
          replace y2 := cell_keep y2 hb
          replace u0 := cell_keep u0 hb
          replace u1 := cell_keep u1 hb
          replace u2 := cell_keep u2 hb
          replace v0 := cell_keep v0 hb
          replace v1 := cell_keep v1 hb
          replace v2 := cell_keep v2 hb
          clear hb
          replace x0 := cell_box x0 (.cells #[.int .i64 1, .int .i64 0, .string ⟨#[]⟩] 23)
          replace x1 := cell_box x1 (.cells #[.int .i64 1, .int .i64 0, .string ⟨#[]⟩] 23)
          replace x2 := cell_box x2 (.cells #[.int .i64 1, .int .i64 0, .string ⟨#[]⟩] 23)
          replace y0 := cell_box y0 (.cells #[.int .i64 1, .int .i64 0, .string ⟨#[]⟩] 23)
          replace y1 := cell_box y1 (.cells #[.int .i64 1, .int .i64 0, .string ⟨#[]⟩] 23)
          replace y2 := cell_box y2 (.cells #[.int .i64 1, .int .i64 0, .string ⟨#[]⟩] 23)
          replace u0 := cell_box u0 (.cells #[.int .i64 1, .int .i64 0, .string ⟨#[]⟩] 23)
          replace u1 := cell_box u1 (.cells #[.int .i64 1, .int .i64 0, .string ⟨#[]⟩] 23)
          replace u2 := cell_box u2 (.cells #[.int .i64 1, .int .i64 0, .string ⟨#[]⟩] 23)
          replace v0 := cell_box v0 (.cells #[.int .i64 1, .int .i64 0, .string ⟨#[]⟩] 23)
          replace v1 := cell_box v1 (.cells #[.int .i64 1, .int .i64 0, .string ⟨#[]⟩] 23)
          replace v2 := cell_box v2 (.cells #[.int .i64 1, .int .i64 0, .string ⟨#[]⟩] 23)
          have r0 : (W20.alloc (.cells #[.int .i64 1, .int .i64 0, .string ⟨#[]⟩] 23)).cell? ⟨W20.heap.size, 0, none⟩ = some (.int .i64 1) := by simp [go_sem]
          have r1 : (W20.alloc (.cells #[.int .i64 1, .int .i64 0, .string ⟨#[]⟩] 23)).cell? ⟨W20.heap.size, 1, none⟩ = some (.int .i64 0) := by simp [go_sem]
          have r2 : (W20.alloc (.cells #[.int .i64 1, .int .i64 0, .string ⟨#[]⟩] 23)).cell? ⟨W20.heap.size, 2, none⟩ = some (.string ⟨#[]⟩) := by simp [go_sem]
          replace HB := Lib.hid (below_box HB.out (.cells #[.int .i64 1, .int .i64 0, .string ⟨#[]⟩] 23))
          go_wp2_with fail
          generalize (W20.alloc (.cells #[.int .i64 1, .int .i64 0, .string ⟨#[]⟩] 23)) = W21 at *
          generalize W20.heap.size = pr at *
          have hB := HB.out
          refine wp_region_held_drew (S := fun w' => w'.cell? ⟨pr, 0, none⟩ = some (.int .i64 1) ∧ w'.cell? ⟨pr, 1, none⟩ = some (.int .i64 0) ∧ w'.cell? ⟨pr, 2, none⟩ = some (.string ⟨#[]⟩) ∧ Below w.heap.size w w') (by kernel_rfl) (by (first | assumption | (go_split_ands; (repeat' apply And.intro); (all_goals first | assumption | exact cell_keep (by assumption) hb | exact below_next (by assumption) hb | exact Below.drew (by assumption))))) (fun hS => ?_)
          refine wpAnyH_take (i := 0) (v := ?_) rfl (by kernel_rfl) (by kernel_rfl) (by kernel_rfl) (fun _ _ _ h => h) (Or.inl ⟨by kernel_rfl, ?_⟩) (by assumption) ?_
          rotate_left
          · intro w hSw; (try dsimp only at hSw); go_simp; (try with_reducible rfl)
          try simp only [Act.put, List.setIfInBounds_toArray]
          refine wpAnyH_take (i := 1) (v := ?_) rfl (by kernel_rfl) (by kernel_rfl) (by kernel_rfl) (fun _ _ _ h => h) (Or.inl ⟨by kernel_rfl, ?_⟩) (by assumption) ?_
          rotate_left
          · intro w hSw; (try dsimp only at hSw); go_simp; (try with_reducible rfl)
          try simp only [Act.put]
          refine wpAnyH_take (i := 2) (v := ?_) rfl (by kernel_rfl) (by kernel_rfl) (by kernel_rfl) (fun _ _ _ h => h) (Or.inl ⟨by kernel_rfl, ?_⟩) (by assumption) ?_
          rotate_left
          · intro w hSw; (try dsimp only at hSw); go_simp; (try with_reducible rfl)
          try simp only [Act.put]
          refine wpAnyH_take (i := 3) (v := ?_) rfl (by kernel_rfl) (by kernel_rfl) (by kernel_rfl) (fun _ _ _ h => h) (Or.inl ⟨by kernel_rfl, ?_⟩) (by assumption) ?_
          rotate_left
          · intro w hSw; (try dsimp only at hSw); go_simp; (try with_reducible rfl)
          try simp only [Act.put]
          refine wpAnyH_ready (rs := [4]) (by kernel_rfl) (by simp) ?_
          refine AllReadyH.cons rfl (fun K hK => ?_) AllReadyH.nil
          go_simp
          go_at_call 14
          refine (whole_any 0 _).mono ?_
          rintro e w' ⟨rfl, hb⟩
          refine hK.out _ _ (by (first | assumption | (go_split_ands; (repeat' apply And.intro); (all_goals first | assumption | exact cell_keep (by assumption) hb | exact below_next (by assumption) hb | exact Below.drew (by assumption))))) (fun hHeld => ?_)
          clear hK K hS
          try simp only [Act.put, List.setIfInBounds_toArray, List.set_cons_zero, List.set_cons_succ]
          refine wpAnyH_take (i := 5) (v := ?_) rfl (by kernel_rfl) (by kernel_rfl) (by kernel_rfl) (fun _ _ _ h => h) (Or.inl ⟨by kernel_rfl, ?_⟩) (by assumption) ?_
          rotate_left
          · intro w hSw; (try dsimp only at hSw); go_simp; (try with_reducible rfl)
          try simp only [Act.put, List.setIfInBounds_toArray]
          refine wpAnyH_take (i := 6) (v := ?_) rfl (by kernel_rfl) (by kernel_rfl) (by kernel_rfl) (fun _ _ _ h => h) (Or.inl ⟨by kernel_rfl, ?_⟩) (by assumption) ?_
          rotate_left
          · intro w hSw; (try dsimp only at hSw); go_simp; (try with_reducible rfl)
          try simp only [Act.put]
          refine wpAnyH_take (i := 7) (v := ?_) rfl (by kernel_rfl) (by kernel_rfl) (by kernel_rfl) (fun _ _ _ h => h) (Or.inl ⟨by kernel_rfl, ?_⟩) (by assumption) ?_
          rotate_left
          · intro w hSw; (try dsimp only at hSw); go_simp; (try with_reducible rfl)
          try simp only [Act.put]
          refine wpAnyH_take (i := 8) (v := ?_) rfl (by kernel_rfl) (by kernel_rfl) (by kernel_rfl) (fun _ _ _ h => h) (Or.inl ⟨by kernel_rfl, ?_⟩) (by assumption) ?_
          rotate_left
          · intro w hSw; (try dsimp only at hSw); go_simp; (try with_reducible rfl)
          try simp only [Act.put]
          refine wpAnyH_take (i := 9) (v := ?_) rfl (by kernel_rfl) (by kernel_rfl) (by kernel_rfl) (fun _ _ _ h => h) (Or.inl ⟨by kernel_rfl, ?_⟩) (by assumption) ?_
          rotate_left
          · intro w hSw; (try dsimp only at hSw); go_simp; (try with_reducible rfl)
          try simp only [Act.put]
          refine wpAnyH_take (i := 10) (v := ?_) rfl (by kernel_rfl) (by kernel_rfl) (by kernel_rfl) (fun _ _ _ h => h) (Or.inl ⟨by kernel_rfl, ?_⟩) (by assumption) ?_
          rotate_left
          · intro w hSw; (try dsimp only at hSw); go_simp; (try with_reducible rfl)
          try simp only [Act.put]
          refine wpAnyH_take (i := 11) (v := ?_) rfl (by kernel_rfl) (by kernel_rfl) (by kernel_rfl) (fun _ _ _ h => h) (Or.inl ⟨by kernel_rfl, ?_⟩) (by assumption) ?_
          rotate_left
          · intro w hSw; (try dsimp only at hSw); go_simp; (try with_reducible rfl)
          try simp only [Act.put]
          refine wpAnyH_take (i := 12) (v := ?_) rfl (by kernel_rfl) (by kernel_rfl) (by kernel_rfl) (fun _ _ _ h => h) (Or.inl ⟨by kernel_rfl, ?_⟩) (by assumption) ?_
          rotate_left
          · intro w hSw; (try dsimp only at hSw); go_simp; (try with_reducible rfl)
          try simp only [Act.put]
          refine wpAnyH_take (i := 13) (v := ?_) rfl (by kernel_rfl) (by kernel_rfl) (by kernel_rfl) (fun _ _ _ h => h) (Or.inl ⟨by kernel_rfl, ?_⟩) (by assumption) ?_
          rotate_left
          · intro w hSw; (try dsimp only at hSw); go_simp; (try with_reducible rfl)
          try simp only [Act.put]
          refine wpAnyH_take (i := 14) (v := ?_) rfl (by kernel_rfl) (by kernel_rfl) (by kernel_rfl) (fun _ _ _ h => h) (Or.inl ⟨by kernel_rfl, ?_⟩) (by assumption) ?_
          rotate_left
          · intro w hSw; (try dsimp only at hSw); go_simp; (try with_reducible rfl)
          try simp only [Act.put]
          refine wpAnyH_take (i := 15) (v := ?_) rfl (by kernel_rfl) (by kernel_rfl) (by kernel_rfl) (fun _ _ _ h => h) (Or.inl ⟨by kernel_rfl, ?_⟩) (by assumption) ?_
          rotate_left
          · intro w hSw; (try dsimp only at hSw); go_simp; (try with_reducible rfl)
          try simp only [Act.put]
          refine wpAnyH_take (i := 16) (v := ?_) rfl (by kernel_rfl) (by kernel_rfl) (by kernel_rfl) (fun _ _ _ h => h) (Or.inl ⟨by kernel_rfl, ?_⟩) (by assumption) ?_
          rotate_left
          · intro w hSw; (try dsimp only at hSw); go_simp; (try with_reducible rfl)
          try simp only [Act.put]
          refine wpAnyH_take (i := 17) (v := ?_) rfl (by kernel_rfl) (by kernel_rfl) (by kernel_rfl) (fun _ _ _ h => h) (Or.inl ⟨by kernel_rfl, ?_⟩) (by assumption) ?_
          rotate_left
          · intro w hSw; (try dsimp only at hSw); go_simp; (try with_reducible rfl)
          try simp only [Act.put]
          refine wpAnyH_take (i := 18) (v := ?_) rfl (by kernel_rfl) (by kernel_rfl) (by kernel_rfl) (fun _ _ _ h => h) (Or.inl ⟨by kernel_rfl, ?_⟩) (by assumption) ?_
          rotate_left
          · intro w hSw; (try dsimp only at hSw); go_simp; (try with_reducible rfl)
          try simp only [Act.put]
          refine wpAnyH_take (i := 19) (v := undef) rfl (by kernel_rfl) (by kernel_rfl) (by kernel_rfl) (fun _ _ _ h => h) (Or.inr ⟨by kernel_rfl, rfl⟩) (by assumption) ?_
          try simp only [Act.put]
          refine wpAnyH_take (i := 20) (v := undef) rfl (by kernel_rfl) (by kernel_rfl) (by kernel_rfl) (fun _ _ _ h => h) (Or.inr ⟨by kernel_rfl, rfl⟩) (by assumption) ?_
          try simp only [Act.put]
          refine wpAnyH_take (i := 21) (v := ?_) rfl (by kernel_rfl) (by kernel_rfl) (by kernel_rfl) (fun _ _ _ h => h) (Or.inl ⟨by kernel_rfl, ?_⟩) (by assumption) ?_
          rotate_left
          · intro w hSw; (try dsimp only at hSw); go_simp; (try with_reducible rfl)
          try simp only [Act.put]
          refine wpAnyH_take (i := 22) (v := ?_) rfl (by kernel_rfl) (by kernel_rfl) (by kernel_rfl) (fun _ _ _ h => h) (Or.inl ⟨by kernel_rfl, ?_⟩) (by assumption) ?_
          rotate_left
          · intro w hSw; (try dsimp only at hSw); go_simp; (try with_reducible rfl)
          try simp only [Act.put]
          refine wpAnyH_take (i := 23) (v := ?_) rfl (by kernel_rfl) (by kernel_rfl) (by kernel_rfl) (fun _ _ _ h => h) (Or.inl ⟨by kernel_rfl, ?_⟩) (by assumption) ?_
          rotate_left
          · intro w hSw; (try dsimp only at hSw); go_simp; (try with_reducible rfl)
          try simp only [Act.put, List.set_cons_succ]
          refine wpAnyH_done (by kernel_rfl) ?_ _
          go_split_ands
          go_wp2_with fail
          go_ret
          rename_i h1 _ _ h2
          have e1 := Option.some.inj h1
          have e2 := Option.some.inj h2
          cases e1
          cases e2
          exact ⟨by kernel_rfl, by assumption⟩
    · replace x0 := cell_box x0 (.cells #[.int .i64 (fk (a0 * a1)), .int .i64 (tm (a0 * a1)), .string ⟨#[]⟩] 23)
      replace x1 := cell_box x1 (.cells #[.int .i64 (fk (a0 * a1)), .int .i64 (tm (a0 * a1)), .string ⟨#[]⟩] 23)
      replace x2 := cell_box x2 (.cells #[.int .i64 (fk (a0 * a1)), .int .i64 (tm (a0 * a1)), .string ⟨#[]⟩] 23)
      replace y0 := cell_box y0 (.cells #[.int .i64 (fk (a0 * a1)), .int .i64 (tm (a0 * a1)), .string ⟨#[]⟩] 23)
      replace y1 := cell_box y1 (.cells #[.int .i64 (fk (a0 * a1)), .int .i64 (tm (a0 * a1)), .string ⟨#[]⟩] 23)
      replace y2 := cell_box y2 (.cells #[.int .i64 (fk (a0 * a1)), .int .i64 (tm (a0 * a1)), .string ⟨#[]⟩] 23)
      replace u0 := cell_box u0 (.cells #[.int .i64 (fk (a0 * a1)), .int .i64 (tm (a0 * a1)), .string ⟨#[]⟩] 23)
      replace u1 := cell_box u1 (.cells #[.int .i64 (fk (a0 * a1)), .int .i64 (tm (a0 * a1)), .string ⟨#[]⟩] 23)
      replace u2 := cell_box u2 (.cells #[.int .i64 (fk (a0 * a1)), .int .i64 (tm (a0 * a1)), .string ⟨#[]⟩] 23)
      have v0 : (W16.alloc (.cells #[.int .i64 (fk (a0 * a1)), .int .i64 (tm (a0 * a1)), .string ⟨#[]⟩] 23)).cell? ⟨W16.heap.size, 0, none⟩ = some (.int .i64 (fk (a0 * a1))) := by simp [go_sem]
      have v1 : (W16.alloc (.cells #[.int .i64 (fk (a0 * a1)), .int .i64 (tm (a0 * a1)), .string ⟨#[]⟩] 23)).cell? ⟨W16.heap.size, 1, none⟩ = some (.int .i64 (tm (a0 * a1))) := by simp [go_sem]
      have v2 : (W16.alloc (.cells #[.int .i64 (fk (a0 * a1)), .int .i64 (tm (a0 * a1)), .string ⟨#[]⟩] 23)).cell? ⟨W16.heap.size, 2, none⟩ = some (.string ⟨#[]⟩) := by simp [go_sem]
      replace HB := Lib.hid (below_box HB.out (.cells #[.int .i64 (fk (a0 * a1)), .int .i64 (tm (a0 * a1)), .string ⟨#[]⟩] 23))
      go_wp2_with fail
      generalize (W16.alloc (.cells #[.int .i64 (fk (a0 * a1)), .int .i64 (tm (a0 * a1)), .string ⟨#[]⟩] 23)) = W17 at *
      generalize W16.heap.size = pv at *
      cases h3 : fits (a0 * a1)
      · obtain ⟨f3a, f3b, f3c⟩ := fe_not h3
        clear h3
        go_wp2_with fail
        refine (whole_any a0 _).mono ?_; rintro e W18 ⟨rfl, hb⟩
        replace HB := Lib.hid (below_next HB.out hb)
        replace x0 := cell_keep x0 hb
        replace x1 := cell_keep x1 hb
        replace x2 := cell_keep x2 hb
        replace y0 := cell_keep y0 hb
        replace y1 := cell_keep y1 hb
        replace y2 := cell_keep y2 hb
        replace u0 := cell_keep u0 hb
        replace u1 := cell_keep u1 hb
        replace u2 := cell_keep u2 hb
        replace v0 := cell_keep v0 hb
        replace v1 := cell_keep v1 hb
        replace v2 := cell_keep v2 hb
        clear hb
        go_wp2_with fail
        refine (whole_any a0 _).mono ?_; rintro e W19 ⟨rfl, hb⟩
        replace HB := Lib.hid (below_next HB.out hb)
        replace x0 := cell_keep x0 hb
        replace x1 := cell_keep x1 hb
        replace x2 := cell_keep x2 hb
        replace y0 := cell_keep y0 hb
        replace y1 := cell_keep y1 hb
        replace y2 := cell_keep y2 hb
        replace u0 := cell_keep u0 hb
        replace u1 := cell_keep u1 hb
        replace u2 := cell_keep u2 hb
        replace v0 := cell_keep v0 hb
        replace v1 := cell_keep v1 hb
        replace v2 := cell_keep v2 hb
        clear hb
        go_wp2_with fail
        refine (s6.out _).mono ?_; rintro e W20 ⟨rfl, hb⟩
        replace HB := Lib.hid (below_next HB.out hb)
        replace x0 := cell_keep x0 hb
        replace x1 := cell_keep x1 hb
        replace x2 := cell_keep x2 hb
        replace y0 := cell_keep y0 hb
        replace y1 := cell_keep y1 hb
        replace y2 := cell_keep y2 hb
        replace u0 := cell_keep u0 hb
        replace u1 := cell_keep u1 hb
        replace u2 := cell_keep u2 hb
        replace v0 := cell_keep v0 hb
        replace v1 := cell_keep v1 hb
        replace v2 := cell_keep v2 hb
        clear hb
        replace x0 := cell_box x0 (.cells #[.int .i64 1, .int .i64 0, .string ⟨#[]⟩] 23)
        replace x1 := cell_box x1 (.cells #[.int .i64 1, .int .i64 0, .string ⟨#[]⟩] 23)
        replace x2 := cell_box x2 (.cells #[.int .i64 1, .int .i64 0, .string ⟨#[]⟩] 23)
        replace y0 := cell_box y0 (.cells #[.int .i64 1, .int .i64 0, .string ⟨#[]⟩] 23)
        replace y1 := cell_box y1 (.cells #[.int .i64 1, .int .i64 0, .string ⟨#[]⟩] 23)
        replace y2 := cell_box y2 (.cells #[.int .i64 1, .int .i64 0, .string ⟨#[]⟩] 23)
        replace u0 := cell_box u0 (.cells #[.int .i64 1, .int .i64 0, .string ⟨#[]⟩] 23)
        replace u1 := cell_box u1 (.cells #[.int .i64 1, .int .i64 0, .string ⟨#[]⟩] 23)
        replace u2 := cell_box u2 (.cells #[.int .i64 1, .int .i64 0, .string ⟨#[]⟩] 23)
        replace v0 := cell_box v0 (.cells #[.int .i64 1, .int .i64 0, .string ⟨#[]⟩] 23)
        replace v1 := cell_box v1 (.cells #[.int .i64 1, .int .i64 0, .string ⟨#[]⟩] 23)
        replace v2 := cell_box v2 (.cells #[.int .i64 1, .int .i64 0, .string ⟨#[]⟩] 23)
        have r0 : (W20.alloc (.cells #[.int .i64 1, .int .i64 0, .string ⟨#[]⟩] 23)).cell? ⟨W20.heap.size, 0, none⟩ = some (.int .i64 1) := by simp [go_sem]
        have r1 : (W20.alloc (.cells #[.int .i64 1, .int .i64 0, .string ⟨#[]⟩] 23)).cell? ⟨W20.heap.size, 1, none⟩ = some (.int .i64 0) := by simp [go_sem]
        have r2 : (W20.alloc (.cells #[.int .i64 1, .int .i64 0, .string ⟨#[]⟩] 23)).cell? ⟨W20.heap.size, 2, none⟩ = some (.string ⟨#[]⟩) := by simp [go_sem]
        replace HB := Lib.hid (below_box HB.out (.cells #[.int .i64 1, .int .i64 0, .string ⟨#[]⟩] 23))
        go_wp2_with fail
        generalize (W20.alloc (.cells #[.int .i64 1, .int .i64 0, .string ⟨#[]⟩] 23)) = W21 at *
        generalize W20.heap.size = pr at *
        have hB := HB.out
        refine wp_region_held_drew (S := fun w' => w'.cell? ⟨pr, 0, none⟩ = some (.int .i64 1) ∧ w'.cell? ⟨pr, 1, none⟩ = some (.int .i64 0) ∧ w'.cell? ⟨pr, 2, none⟩ = some (.string ⟨#[]⟩) ∧ Below w.heap.size w w') (by kernel_rfl) (by (first | assumption | (go_split_ands; (repeat' apply And.intro); (all_goals first | assumption | exact cell_keep (by assumption) hb | exact below_next (by assumption) hb | exact Below.drew (by assumption))))) (fun hS => ?_)
        refine wpAnyH_take (i := 0) (v := ?_) rfl (by kernel_rfl) (by kernel_rfl) (by kernel_rfl) (fun _ _ _ h => h) (Or.inl ⟨by kernel_rfl, ?_⟩) (by assumption) ?_
        rotate_left
        · intro w hSw; (try dsimp only at hSw); go_simp; (try with_reducible rfl)
        try simp only [Act.put, List.setIfInBounds_toArray, List.set_cons_zero, List.set_cons_succ]
        refine wpAnyH_take (i := 1) (v := ?_) rfl (by kernel_rfl) (by kernel_rfl) (by kernel_rfl) (fun _ _ _ h => h) (Or.inl ⟨by kernel_rfl, ?_⟩) (by assumption) ?_
        rotate_left
        · intro w hSw; (try dsimp only at hSw); go_simp; (try with_reducible rfl)
        try simp only [Act.put, List.setIfInBounds_toArray, List.set_cons_zero, List.set_cons_succ]
        refine wpAnyH_take (i := 2) (v := ?_) rfl (by kernel_rfl) (by kernel_rfl) (by kernel_rfl) (fun _ _ _ h => h) (Or.inl ⟨by kernel_rfl, ?_⟩) (by assumption) ?_
        rotate_left
        · intro w hSw; (try dsimp only at hSw); go_simp; (try with_reducible rfl)
        try simp only [Act.put, List.setIfInBounds_toArray, List.set_cons_zero, List.set_cons_succ]
        refine wpAnyH_take (i := 3) (v := ?_) rfl (by kernel_rfl) (by kernel_rfl) (by kernel_rfl) (fun _ _ _ h => h) (Or.inl ⟨by kernel_rfl, ?_⟩) (by assumption) ?_
        rotate_left
        · intro w hSw; (try dsimp only at hSw); go_simp; (try with_reducible rfl)
        try simp only [Act.put, List.setIfInBounds_toArray, List.set_cons_zero, List.set_cons_succ]
        refine wpAnyH_ready (rs := [4]) (by kernel_rfl) (by simp) ?_
        refine AllReadyH.cons rfl (fun K hK => ?_) AllReadyH.nil
        go_simp
        go_at_call 14
        refine (whole_any 0 _).mono ?_
        rintro e w' ⟨rfl, hb⟩
        refine hK.out _ _ (by (first | assumption | (go_split_ands; (repeat' apply And.intro); (all_goals first | assumption | exact cell_keep (by assumption) hb | exact below_next (by assumption) hb | exact Below.drew (by assumption))))) (fun hHeld => ?_)
        clear hK K hS
        try simp only [Act.put, List.setIfInBounds_toArray, List.set_cons_zero, List.set_cons_succ]
        refine wpAnyH_take (i := 5) (v := ?_) rfl (by kernel_rfl) (by kernel_rfl) (by kernel_rfl) (fun _ _ _ h => h) (Or.inl ⟨by kernel_rfl, ?_⟩) (by assumption) ?_
        rotate_left
        · intro w hSw; (try dsimp only at hSw); go_simp; (try with_reducible rfl)
        try simp only [Act.put, List.setIfInBounds_toArray, List.set_cons_zero, List.set_cons_succ]
        refine wpAnyH_take (i := 6) (v := ?_) rfl (by kernel_rfl) (by kernel_rfl) (by kernel_rfl) (fun _ _ _ h => h) (Or.inl ⟨by kernel_rfl, ?_⟩) (by assumption) ?_
        rotate_left
        · intro w hSw; (try dsimp only at hSw); go_simp; (try with_reducible rfl)
        try simp only [Act.put, List.setIfInBounds_toArray, List.set_cons_zero, List.set_cons_succ]
        refine wpAnyH_take (i := 7) (v := ?_) rfl (by kernel_rfl) (by kernel_rfl) (by kernel_rfl) (fun _ _ _ h => h) (Or.inl ⟨by kernel_rfl, ?_⟩) (by assumption) ?_
        rotate_left
        · intro w hSw; (try dsimp only at hSw); go_simp; (try with_reducible rfl)
        try simp only [Act.put, List.setIfInBounds_toArray, List.set_cons_zero, List.set_cons_succ]
        refine wpAnyH_take (i := 8) (v := ?_) rfl (by kernel_rfl) (by kernel_rfl) (by kernel_rfl) (fun _ _ _ h => h) (Or.inl ⟨by kernel_rfl, ?_⟩) (by assumption) ?_
        rotate_left
        · intro w hSw; (try dsimp only at hSw); go_simp; (try with_reducible rfl)
        try simp only [Act.put, List.setIfInBounds_toArray, List.set_cons_zero, List.set_cons_succ]
        refine wpAnyH_take (i := 9) (v := ?_) rfl (by kernel_rfl) (by kernel_rfl) (by kernel_rfl) (fun _ _ _ h => h) (Or.inl ⟨by kernel_rfl, ?_⟩) (by assumption) ?_
        rotate_left
        · intro w hSw; (try dsimp only at hSw); go_simp; (try with_reducible rfl)
        try simp only [Act.put, List.setIfInBounds_toArray, List.set_cons_zero, List.set_cons_succ]
        refine wpAnyH_take (i := 10) (v := ?_) rfl (by kernel_rfl) (by kernel_rfl) (by kernel_rfl) (fun _ _ _ h => h) (Or.inl ⟨by kernel_rfl, ?_⟩) (by assumption) ?_
        rotate_left
        · intro w hSw; (try dsimp only at hSw); go_simp; (try with_reducible rfl)
        try simp only [Act.put, List.setIfInBounds_toArray, List.set_cons_zero, List.set_cons_succ]
        refine wpAnyH_take (i := 11) (v := ?_) rfl (by kernel_rfl) (by kernel_rfl) (by kernel_rfl) (fun _ _ _ h => h) (Or.inl ⟨by kernel_rfl, ?_⟩) (by assumption) ?_
        rotate_left
        · intro w hSw; (try dsimp only at hSw); go_simp; (try with_reducible rfl)
        try simp only [Act.put, List.setIfInBounds_toArray, List.set_cons_zero, List.set_cons_succ]
        refine wpAnyH_take (i := 12) (v := ?_) rfl (by kernel_rfl) (by kernel_rfl) (by kernel_rfl) (fun _ _ _ h => h) (Or.inl ⟨by kernel_rfl, ?_⟩) (by assumption) ?_
        rotate_left
        · intro w hSw; (try dsimp only at hSw); go_simp; (try with_reducible rfl)
        try simp only [Act.put, List.setIfInBounds_toArray, List.set_cons_zero, List.set_cons_succ]
        refine wpAnyH_take (i := 13) (v := ?_) rfl (by kernel_rfl) (by kernel_rfl) (by kernel_rfl) (fun _ _ _ h => h) (Or.inl ⟨by kernel_rfl, ?_⟩) (by assumption) ?_
        rotate_left
        · intro w hSw; (try dsimp only at hSw); go_simp; (try with_reducible rfl)
        try simp only [Act.put, List.setIfInBounds_toArray, List.set_cons_zero, List.set_cons_succ]
        refine wpAnyH_take (i := 14) (v := ?_) rfl (by kernel_rfl) (by kernel_rfl) (by kernel_rfl) (fun _ _ _ h => h) (Or.inl ⟨by kernel_rfl, ?_⟩) (by assumption) ?_
        rotate_left
        · intro w hSw; (try dsimp only at hSw); go_simp; (try with_reducible rfl)
        try simp only [Act.put, List.setIfInBounds_toArray, List.set_cons_zero, List.set_cons_succ]
        refine wpAnyH_take (i := 15) (v := ?_) rfl (by kernel_rfl) (by kernel_rfl) (by kernel_rfl) (fun _ _ _ h => h) (Or.inl ⟨by kernel_rfl, ?_⟩) (by assumption) ?_
        rotate_left
        · intro w hSw; (try dsimp only at hSw); go_simp; (try with_reducible rfl)
        try simp only [Act.put, List.setIfInBounds_toArray, List.set_cons_zero, List.set_cons_succ]
        refine wpAnyH_take (i := 16) (v := ?_) rfl (by kernel_rfl) (by kernel_rfl) (by kernel_rfl) (fun _ _ _ h => h) (Or.inl ⟨by kernel_rfl, ?_⟩) (by assumption) ?_
        rotate_left
        · intro w hSw; (try dsimp only at hSw); go_simp; (try with_reducible rfl)
        try simp only [Act.put, List.setIfInBounds_toArray, List.set_cons_zero, List.set_cons_succ]
        refine wpAnyH_take (i := 17) (v := ?_) rfl (by kernel_rfl) (by kernel_rfl) (by kernel_rfl) (fun _ _ _ h => h) (Or.inl ⟨by kernel_rfl, ?_⟩) (by assumption) ?_
        rotate_left
        · intro w hSw; (try dsimp only at hSw); go_simp; (try with_reducible rfl)
        try simp only [Act.put, List.setIfInBounds_toArray, List.set_cons_zero, List.set_cons_succ]
        refine wpAnyH_take (i := 18) (v := ?_) rfl (by kernel_rfl) (by kernel_rfl) (by kernel_rfl) (fun _ _ _ h => h) (Or.inl ⟨by kernel_rfl, ?_⟩) (by assumption) ?_
        rotate_left
        · intro w hSw; (try dsimp only at hSw); go_simp; (try with_reducible rfl)
        try simp only [Act.put, List.setIfInBounds_toArray, List.set_cons_zero, List.set_cons_succ]
        refine wpAnyH_take (i := 19) (v := ?_) rfl (by kernel_rfl) (by kernel_rfl) (by kernel_rfl) (fun _ _ _ h => h) (Or.inl ⟨by kernel_rfl, ?_⟩) (by assumption) ?_
        rotate_left
        · intro w hSw; (try dsimp only at hSw); go_simp; (try with_reducible rfl)
        try simp only [Act.put, List.setIfInBounds_toArray, List.set_cons_zero, List.set_cons_succ]
        refine wpAnyH_take (i := 20) (v := ?_) rfl (by kernel_rfl) (by kernel_rfl) (by kernel_rfl) (fun _ _ _ h => h) (Or.inl ⟨by kernel_rfl, ?_⟩) (by assumption) ?_
        rotate_left
        · intro w hSw; (try dsimp only at hSw); go_simp; (try with_reducible rfl)
        try simp only [Act.put, List.setIfInBounds_toArray, List.set_cons_zero, List.set_cons_succ]
        refine wpAnyH_take (i := 21) (v := ?_) rfl (by kernel_rfl) (by kernel_rfl) (by kernel_rfl) (fun _ _ _ h => h) (Or.inl ⟨by kernel_rfl, ?_⟩) (by assumption) ?_
        rotate_left
        · intro w hSw; (try dsimp only at hSw); go_simp; (try with_reducible rfl)
        try simp only [Act.put, List.setIfInBounds_toArray, List.set_cons_zero, List.set_cons_succ]
        refine wpAnyH_take (i := 22) (v := ?_) rfl (by kernel_rfl) (by kernel_rfl) (by kernel_rfl) (fun _ _ _ h => h) (Or.inl ⟨by kernel_rfl, ?_⟩) (by assumption) ?_
        rotate_left
        · intro w hSw; (try dsimp only at hSw); go_simp; (try with_reducible rfl)
        try simp only [Act.put, List.setIfInBounds_toArray, List.set_cons_zero, List.set_cons_succ]
        refine wpAnyH_take (i := 23) (v := ?_) rfl (by kernel_rfl) (by kernel_rfl) (by kernel_rfl) (fun _ _ _ h => h) (Or.inl ⟨by kernel_rfl, ?_⟩) (by assumption) ?_
        rotate_left
        · intro w hSw; (try dsimp only at hSw); go_simp; (try with_reducible rfl)
        try simp only [Act.put, List.setIfInBounds_toArray, List.set_cons_zero, List.set_cons_succ]
        refine wpAnyH_done (by kernel_rfl) ?_ _
        go_split_ands
        go_wp2_with fail
        go_ret
        rename_i h1 _ _ h2
        have e1 := Option.some.inj h1
        have e2 := Option.some.inj h2
        cases e1
        cases e2
        exact ⟨by kernel_rfl, by assumption⟩
      · rcases Classical.em (a0 = 0) with hz | hz
        · have z1 : (a0 == 0) = true := by simpa using hz
          have z2 : (a0 != 0) = false := by simpa using hz
          obtain ⟨f3a, f3b, f3c⟩ := fe_fits h3
          clear h3 hz f3c
          go_wp2_with fail
          refine (whole_any a0 _).mono ?_; rintro e W18 ⟨rfl, hb⟩
          replace HB := Lib.hid (below_next HB.out hb)
          replace x0 := cell_keep x0 hb
          replace x1 := cell_keep x1 hb
          replace x2 := cell_keep x2 hb
          replace y0 := cell_keep y0 hb
          replace y1 := cell_keep y1 hb
          replace y2 := cell_keep y2 hb
          replace u0 := cell_keep u0 hb
          replace u1 := cell_keep u1 hb
          replace u2 := cell_keep u2 hb
          replace v0 := cell_keep v0 hb
          replace v1 := cell_keep v1 hb
          replace v2 := cell_keep v2 hb
          clear hb
          go_wp2_with fail
          refine (whole_any a0 _).mono ?_; rintro e W19 ⟨rfl, hb⟩
          replace HB := Lib.hid (below_next HB.out hb)
          replace x0 := cell_keep x0 hb
          replace x1 := cell_keep x1 hb
          replace x2 := cell_keep x2 hb
          replace y0 := cell_keep y0 hb
          replace y1 := cell_keep y1 hb
          replace y2 := cell_keep y2 hb
          replace u0 := cell_keep u0 hb
          replace u1 := cell_keep u1 hb
          replace u2 := cell_keep u2 hb
          replace v0 := cell_keep v0 hb
          replace v1 := cell_keep v1 hb
          replace v2 := cell_keep v2 hb
          clear hb
          go_wp2_with fail
          refine (s6.out _).mono ?_; rintro e W20 ⟨rfl, hb⟩
          replace HB := Lib.hid (below_next HB.out hb)
          replace x0 := cell_keep x0 hb
          replace x1 := cell_keep x1 hb
          replace x2 := cell_keep x2 hb
          replace y0 := cell_keep y0 hb
          replace y1 := cell_keep y1 hb
          replace y2 := cell_keep y2 hb
          replace u0 := cell_keep u0 hb
          replace u1 := cell_keep u1 hb
          replace u2 := cell_keep u2 hb
          replace v0 := cell_keep v0 hb
          replace v1 := cell_keep v1 hb
          replace v2 := cell_keep v2 hb
          clear hb
          replace x0 := cell_box x0 (.cells #[.int .i64 1, .int .i64 0, .string ⟨#[]⟩] 23)
          replace x1 := cell_box x1 (.cells #[.int .i64 1, .int .i64 0, .string ⟨#[]⟩] 23)
          replace x2 := cell_box x2 (.cells #[.int .i64 1, .int .i64 0, .string ⟨#[]⟩] 23)
          replace y0 := cell_box y0 (.cells #[.int .i64 1, .int .i64 0, .string ⟨#[]⟩] 23)
          replace y1 := cell_box y1 (.cells #[.int .i64 1, .int .i64 0, .string ⟨#[]⟩] 23)
          replace y2 := cell_box y2 (.cells #[.int .i64 1, .int .i64 0, .string ⟨#[]⟩] 23)
          replace u0 := cell_box u0 (.cells #[.int .i64 1, .int .i64 0, .string ⟨#[]⟩] 23)
          replace u1 := cell_box u1 (.cells #[.int .i64 1, .int .i64 0, .string ⟨#[]⟩] 23)
          replace u2 := cell_box u2 (.cells #[.int .i64 1, .int .i64 0, .string ⟨#[]⟩] 23)
          replace v0 := cell_box v0 (.cells #[.int .i64 1, .int .i64 0, .string ⟨#[]⟩] 23)
          replace v1 := cell_box v1 (.cells #[.int .i64 1, .int .i64 0, .string ⟨#[]⟩] 23)
          replace v2 := cell_box v2 (.cells #[.int .i64 1, .int .i64 0, .string ⟨#[]⟩] 23)
          have r0 : (W20.alloc (.cells #[.int .i64 1, .int .i64 0, .string ⟨#[]⟩] 23)).cell? ⟨W20.heap.size, 0, none⟩ = some (.int .i64 1) := by simp [go_sem]
          have r1 : (W20.alloc (.cells #[.int .i64 1, .int .i64 0, .string ⟨#[]⟩] 23)).cell? ⟨W20.heap.size, 1, none⟩ = some (.int .i64 0) := by simp [go_sem]
          have r2 : (W20.alloc (.cells #[.int .i64 1, .int .i64 0, .string ⟨#[]⟩] 23)).cell? ⟨W20.heap.size, 2, none⟩ = some (.string ⟨#[]⟩) := by simp [go_sem]
          replace HB := Lib.hid (below_box HB.out (.cells #[.int .i64 1, .int .i64 0, .string ⟨#[]⟩] 23))
          go_wp2_with fail
          generalize (W20.alloc (.cells #[.int .i64 1, .int .i64 0, .string ⟨#[]⟩] 23)) = W21 at *
          generalize W20.heap.size = pr at *
          have hB := HB.out
          refine wp_region_held_drew (S := fun w' => w'.cell? ⟨pr, 0, none⟩ = some (.int .i64 1) ∧ w'.cell? ⟨pr, 1, none⟩ = some (.int .i64 0) ∧ w'.cell? ⟨pr, 2, none⟩ = some (.string ⟨#[]⟩) ∧ Below w.heap.size w w') (by kernel_rfl) (by (first | assumption | (go_split_ands; (repeat' apply And.intro); (all_goals first | assumption | exact cell_keep (by assumption) hb | exact below_next (by assumption) hb | exact Below.drew (by assumption))))) (fun hS => ?_)
          refine wpAnyH_take (i := 0) (v := ?_) rfl (by kernel_rfl) (by kernel_rfl) (by kernel_rfl) (fun _ _ _ h => h) (Or.inl ⟨by kernel_rfl, ?_⟩) (by assumption) ?_
          rotate_left
          · intro w hSw; (try dsimp only at hSw); go_simp; (try with_reducible rfl)
          try simp only [Act.put, List.setIfInBounds_toArray, List.set_cons_zero, List.set_cons_succ]
          refine wpAnyH_take (i := 1) (v := ?_) rfl (by kernel_rfl) (by kernel_rfl) (by kernel_rfl) (fun _ _ _ h => h) (Or.inl ⟨by kernel_rfl, ?_⟩) (by assumption) ?_
          rotate_left
          · intro w hSw; (try dsimp only at hSw); go_simp; (try with_reducible rfl)
          try simp only [Act.put, List.setIfInBounds_toArray, List.set_cons_zero, List.set_cons_succ]
          refine wpAnyH_take (i := 2) (v := ?_) rfl (by kernel_rfl) (by kernel_rfl) (by kernel_rfl) (fun _ _ _ h => h) (Or.inl ⟨by kernel_rfl, ?_⟩) (by assumption) ?_
          rotate_left
          · intro w hSw; (try dsimp only at hSw); go_simp; (try with_reducible rfl)
          try simp only [Act.put, List.setIfInBounds_toArray, List.set_cons_zero, List.set_cons_succ]
          refine wpAnyH_take (i := 3) (v := ?_) rfl (by kernel_rfl) (by kernel_rfl) (by kernel_rfl) (fun _ _ _ h => h) (Or.inl ⟨by kernel_rfl, ?_⟩) (by assumption) ?_
          rotate_left
          · intro w hSw; (try dsimp only at hSw); go_simp; (try with_reducible rfl)
          try simp only [Act.put, List.setIfInBounds_toArray, List.set_cons_zero, List.set_cons_succ]
          refine wpAnyH_ready (rs := [4]) (by kernel_rfl) (by simp) ?_
          refine AllReadyH.cons rfl (fun K hK => ?_) AllReadyH.nil
          go_simp
          go_at_call 14
          refine (whole_any 0 _).mono ?_
          rintro e w' ⟨rfl, hb⟩
          refine hK.out _ _ (by (first | assumption | (go_split_ands; (repeat' apply And.intro); (all_goals first | assumption | exact cell_keep (by assumption) hb | exact below_next (by assumption) hb | exact Below.drew (by assumption))))) (fun hHeld => ?_)
          clear hK K hS
          try simp only [Act.put, List.setIfInBounds_toArray, List.set_cons_zero, List.set_cons_succ]
          refine wpAnyH_take (i := 5) (v := ?_) rfl (by kernel_rfl) (by kernel_rfl) (by kernel_rfl) (fun _ _ _ h => h) (Or.inl ⟨by kernel_rfl, ?_⟩) (by assumption) ?_
          rotate_left
          · intro w hSw; (try dsimp only at hSw); go_simp; (try with_reducible rfl)
          try simp only [Act.put, List.setIfInBounds_toArray, List.set_cons_zero, List.set_cons_succ]
          refine wpAnyH_take (i := 6) (v := ?_) rfl (by kernel_rfl) (by kernel_rfl) (by kernel_rfl) (fun _ _ _ h => h) (Or.inl ⟨by kernel_rfl, ?_⟩) (by assumption) ?_
          rotate_left
          · intro w hSw; (try dsimp only at hSw); go_simp; (try with_reducible rfl)
          try simp only [Act.put, List.setIfInBounds_toArray, List.set_cons_zero, List.set_cons_succ]
          refine wpAnyH_take (i := 7) (v := ?_) rfl (by kernel_rfl) (by kernel_rfl) (by kernel_rfl) (fun _ _ _ h => h) (Or.inl ⟨by kernel_rfl, ?_⟩) (by assumption) ?_
          rotate_left
          · intro w hSw; (try dsimp only at hSw); go_simp; (try with_reducible rfl)
          try simp only [Act.put, List.setIfInBounds_toArray, List.set_cons_zero, List.set_cons_succ]
          refine wpAnyH_take (i := 8) (v := ?_) rfl (by kernel_rfl) (by kernel_rfl) (by kernel_rfl) (fun _ _ _ h => h) (Or.inl ⟨by kernel_rfl, ?_⟩) (by assumption) ?_
          rotate_left
          · intro w hSw; (try dsimp only at hSw); go_simp; (try with_reducible rfl)
          try simp only [Act.put, List.setIfInBounds_toArray, List.set_cons_zero, List.set_cons_succ]
          refine wpAnyH_take (i := 9) (v := ?_) rfl (by kernel_rfl) (by kernel_rfl) (by kernel_rfl) (fun _ _ _ h => h) (Or.inl ⟨by kernel_rfl, ?_⟩) (by assumption) ?_
          rotate_left
          · intro w hSw; (try dsimp only at hSw); go_simp; (try with_reducible rfl)
          try simp only [Act.put, List.setIfInBounds_toArray, List.set_cons_zero, List.set_cons_succ]
          refine wpAnyH_take (i := 10) (v := ?_) rfl (by kernel_rfl) (by kernel_rfl) (by kernel_rfl) (fun _ _ _ h => h) (Or.inl ⟨by kernel_rfl, ?_⟩) (by assumption) ?_
          rotate_left
          · intro w hSw; (try dsimp only at hSw); go_simp; (try with_reducible rfl)
          try simp only [Act.put, List.setIfInBounds_toArray, List.set_cons_zero, List.set_cons_succ]
          refine wpAnyH_take (i := 11) (v := ?_) rfl (by kernel_rfl) (by kernel_rfl) (by kernel_rfl) (fun _ _ _ h => h) (Or.inl ⟨by kernel_rfl, ?_⟩) (by assumption) ?_
          rotate_left
          · intro w hSw; (try dsimp only at hSw); go_simp; (try with_reducible rfl)
          try simp only [Act.put, List.setIfInBounds_toArray, List.set_cons_zero, List.set_cons_succ]
          refine wpAnyH_take (i := 12) (v := ?_) rfl (by kernel_rfl) (by kernel_rfl) (by kernel_rfl) (fun _ _ _ h => h) (Or.inl ⟨by kernel_rfl, ?_⟩) (by assumption) ?_
          rotate_left
          · intro w hSw; (try dsimp only at hSw); go_simp; (try with_reducible rfl)
          try simp only [Act.put, List.setIfInBounds_toArray, List.set_cons_zero, List.set_cons_succ]
          refine wpAnyH_take (i := 13) (v := ?_) rfl (by kernel_rfl) (by kernel_rfl) (by kernel_rfl) (fun _ _ _ h => h) (Or.inl ⟨by kernel_rfl, ?_⟩) (by assumption) ?_
          rotate_left
          · intro w hSw; (try dsimp only at hSw); go_simp; (try with_reducible rfl)
          try simp only [Act.put, List.setIfInBounds_toArray, List.set_cons_zero, List.set_cons_succ]
          refine wpAnyH_take (i := 14) (v := ?_) rfl (by kernel_rfl) (by kernel_rfl) (by kernel_rfl) (fun _ _ _ h => h) (Or.inl ⟨by kernel_rfl, ?_⟩) (by assumption) ?_
          rotate_left
          · intro w hSw; (try dsimp only at hSw); go_simp; (try with_reducible rfl)
          try simp only [Act.put, List.setIfInBounds_toArray, List.set_cons_zero, List.set_cons_succ]
          refine wpAnyH_take (i := 15) (v := ?_) rfl (by kernel_rfl) (by kernel_rfl) (by kernel_rfl) (fun _ _ _ h => h) (Or.inl ⟨by kernel_rfl, ?_⟩) (by assumption) ?_
          rotate_left
          · intro w hSw; (try dsimp only at hSw); go_simp; (try with_reducible rfl)
          try simp only [Act.put, List.setIfInBounds_toArray, List.set_cons_zero, List.set_cons_succ]
          refine wpAnyH_take (i := 16) (v := ?_) rfl (by kernel_rfl) (by kernel_rfl) (by kernel_rfl) (fun _ _ _ h => h) (Or.inl ⟨by kernel_rfl, ?_⟩) (by assumption) ?_
          rotate_left
          · intro w hSw; (try dsimp only at hSw); go_simp; (try with_reducible rfl)
          try simp only [Act.put, List.setIfInBounds_toArray, List.set_cons_zero, List.set_cons_succ]
          refine wpAnyH_take (i := 17) (v := ?_) rfl (by kernel_rfl) (by kernel_rfl) (by kernel_rfl) (fun _ _ _ h => h) (Or.inl ⟨by kernel_rfl, ?_⟩) (by assumption) ?_
          rotate_left
          · intro w hSw; (try dsimp only at hSw); go_simp; (try with_reducible rfl)
          try simp only [Act.put, List.setIfInBounds_toArray, List.set_cons_zero, List.set_cons_succ]
          refine wpAnyH_take (i := 18) (v := ?_) rfl (by kernel_rfl) (by kernel_rfl) (by kernel_rfl) (fun _ _ _ h => h) (Or.inl ⟨by kernel_rfl, ?_⟩) (by assumption) ?_
          rotate_left
          · intro w hSw; (try dsimp only at hSw); go_simp; (try with_reducible rfl)
          try simp only [Act.put, List.setIfInBounds_toArray, List.set_cons_zero, List.set_cons_succ]
          refine wpAnyH_take (i := 19) (v := undef) rfl (by kernel_rfl) (by kernel_rfl) (by kernel_rfl) (fun _ _ _ h => h) (Or.inr ⟨by kernel_rfl, rfl⟩) (by assumption) ?_
          try simp only [Act.put, List.setIfInBounds_toArray, List.set_cons_zero, List.set_cons_succ]
          refine wpAnyH_take (i := 20) (v := undef) rfl (by kernel_rfl) (by kernel_rfl) (by kernel_rfl) (fun _ _ _ h => h) (Or.inr ⟨by kernel_rfl, rfl⟩) (by assumption) ?_
          try simp only [Act.put, List.setIfInBounds_toArray, List.set_cons_zero, List.set_cons_succ]
          refine wpAnyH_take (i := 21) (v := ?_) rfl (by kernel_rfl) (by kernel_rfl) (by kernel_rfl) (fun _ _ _ h => h) (Or.inl ⟨by kernel_rfl, ?_⟩) (by assumption) ?_
          rotate_left
          · intro w hSw; (try dsimp only at hSw); go_simp; (try with_reducible rfl)
          try simp only [Act.put, List.setIfInBounds_toArray, List.set_cons_zero, List.set_cons_succ]
          refine wpAnyH_take (i := 22) (v := ?_) rfl (by kernel_rfl) (by kernel_rfl) (by kernel_rfl) (fun _ _ _ h => h) (Or.inl ⟨by kernel_rfl, ?_⟩) (by assumption) ?_
          rotate_left
          · intro w hSw; (try dsimp only at hSw); go_simp; (try with_reducible rfl)
          try simp only [Act.put, List.setIfInBounds_toArray, List.set_cons_zero, List.set_cons_succ]
          refine wpAnyH_take (i := 23) (v := ?_) rfl (by kernel_rfl) (by kernel_rfl) (by kernel_rfl) (fun _ _ _ h => h) (Or.inl ⟨by kernel_rfl, ?_⟩) (by assumption) ?_
          rotate_left
          · intro w hSw; (try dsimp only at hSw); go_simp; (try with_reducible rfl)
          try simp only [Act.put, List.setIfInBounds_toArray, List.set_cons_zero, List.set_cons_succ]
          refine wpAnyH_done (by kernel_rfl) ?_ _
          go_split_ands
          go_wp2_with fail
          go_ret
          rename_i h1 _ _ h2
          have e1 := Option.some.inj h1
          have e2 := Option.some.inj h2
          cases e1
          cases e2
          exact ⟨by kernel_rfl, by assumption⟩
        · have z1 : (a0 == 0) = false := by simpa using hz
          have z2 : (a0 != 0) = true := by simpa using hz
          have z3 : Int.tdiv (a0 * a1) a0 = a1 := Int.mul_tdiv_cancel_left _ hz
          have z4 : Int.tmod (a0 * a1) a0 = 0 := Int.mul_tmod_right ..
          have z5 : wrap64 a1 = a1 := by have := I1.out; unfold I64 at this; unfold wrap64; omega
          obtain ⟨f3a, f3b, f3c⟩ := fe_fits h3
          clear h3
          go_wp2_with fail
          refine (whole_any a0 _).mono ?_; rintro e W18 ⟨rfl, hb⟩
          replace HB := Lib.hid (below_next HB.out hb)
          replace x0 := cell_keep x0 hb
          replace x1 := cell_keep x1 hb
          replace x2 := cell_keep x2 hb
          replace y0 := cell_keep y0 hb
          replace y1 := cell_keep y1 hb
          replace y2 := cell_keep y2 hb
          replace u0 := cell_keep u0 hb
          replace u1 := cell_keep u1 hb
          replace u2 := cell_keep u2 hb
          replace v0 := cell_keep v0 hb
          replace v1 := cell_keep v1 hb
          replace v2 := cell_keep v2 hb
          clear hb
          go_wp2_with fail
          refine (whole_any a0 _).mono ?_; rintro e W19 ⟨rfl, hb⟩
          replace HB := Lib.hid (below_next HB.out hb)
          replace x0 := cell_keep x0 hb
          replace x1 := cell_keep x1 hb
          replace x2 := cell_keep x2 hb
          replace y0 := cell_keep y0 hb
          replace y1 := cell_keep y1 hb
          replace y2 := cell_keep y2 hb
          replace u0 := cell_keep u0 hb
          replace u1 := cell_keep u1 hb
          replace u2 := cell_keep u2 hb
          replace v0 := cell_keep v0 hb
          replace v1 := cell_keep v1 hb
          replace v2 := cell_keep v2 hb
          clear hb
          go_wp2_with fail
          refine (s6.out _).mono ?_; rintro e W20 ⟨rfl, hb⟩
          replace HB := Lib.hid (below_next HB.out hb)
          replace x0 := cell_keep x0 hb
          replace x1 := cell_keep x1 hb
          replace x2 := cell_keep x2 hb
          replace y0 := cell_keep y0 hb
          replace y1 := cell_keep y1 hb
          replace y2 := cell_keep y2 hb
          replace u0 := cell_keep u0 hb
          replace u1 := cell_keep u1 hb
          replace u2 := cell_keep u2 hb
          replace v0 := cell_keep v0 hb
          replace v1 := cell_keep v1 hb
          replace v2 := cell_keep v2 hb
          clear hb
          replace x0 := cell_box x0 (.cells #[.int .i64 1, .int .i64 0, .string ⟨#[]⟩] 23)
          replace x1 := cell_box x1 (.cells #[.int .i64 1, .int .i64 0, .string ⟨#[]⟩] 23)
          replace x2 := cell_box x2 (.cells #[.int .i64 1, .int .i64 0, .string ⟨#[]⟩] 23)
          replace y0 := cell_box y0 (.cells #[.int .i64 1, .int .i64 0, .string ⟨#[]⟩] 23)
          replace y1 := cell_box y1 (.cells #[.int .i64 1, .int .i64 0, .string ⟨#[]⟩] 23)
          replace y2 := cell_box y2 (.cells #[.int .i64 1, .int .i64 0, .string ⟨#[]⟩] 23)
          replace u0 := cell_box u0 (.cells #[.int .i64 1, .int .i64 0, .string ⟨#[]⟩] 23)
          replace u1 := cell_box u1 (.cells #[.int .i64 1, .int .i64 0, .string ⟨#[]⟩] 23)
          replace u2 := cell_box u2 (.cells #[.int .i64 1, .int .i64 0, .string ⟨#[]⟩] 23)
          replace v0 := cell_box v0 (.cells #[.int .i64 1, .int .i64 0, .string ⟨#[]⟩] 23)
          replace v1 := cell_box v1 (.cells #[.int .i64 1, .int .i64 0, .string ⟨#[]⟩] 23)
          replace v2 := cell_box v2 (.cells #[.int .i64 1, .int .i64 0, .string ⟨#[]⟩] 23)
          have r0 : (W20.alloc (.cells #[.int .i64 1, .int .i64 0, .string ⟨#[]⟩] 23)).cell? ⟨W20.heap.size, 0, none⟩ = some (.int .i64 1) := by simp [go_sem]
          have r1 : (W20.alloc (.cells #[.int .i64 1, .int .i64 0, .string ⟨#[]⟩] 23)).cell? ⟨W20.heap.size, 1, none⟩ = some (.int .i64 0) := by simp [go_sem]
          have r2 : (W20.alloc (.cells #[.int .i64 1, .int .i64 0, .string ⟨#[]⟩] 23)).cell? ⟨W20.heap.size, 2, none⟩ = some (.string ⟨#[]⟩) := by simp [go_sem]
          replace HB := Lib.hid (below_box HB.out (.cells #[.int .i64 1, .int .i64 0, .string ⟨#[]⟩] 23))
          go_wp2_with fail
          generalize (W20.alloc (.cells #[.int .i64 1, .int .i64 0, .string ⟨#[]⟩] 23)) = W21 at *
          generalize W20.heap.size = pr at *
          have hB := HB.out
          refine wp_region_held_drew (S := fun w' => w'.cell? ⟨pr, 0, none⟩ = some (.int .i64 1) ∧ w'.cell? ⟨pr, 1, none⟩ = some (.int .i64 0) ∧ w'.cell? ⟨pr, 2, none⟩ = some (.string ⟨#[]⟩) ∧ Below w.heap.size w w') (by kernel_rfl) (by (first | assumption | (go_split_ands; (repeat' apply And.intro); (all_goals first | assumption | exact cell_keep (by assumption) hb | exact below_next (by assumption) hb | exact Below.drew (by assumption))))) (fun hS => ?_)
          refine wpAnyH_take (i := 0) (v := ?_) rfl (by kernel_rfl) (by kernel_rfl) (by kernel_rfl) (fun _ _ _ h => h) (Or.inl ⟨by kernel_rfl, ?_⟩) (by assumption) ?_
          rotate_left
          · intro w hSw; (try dsimp only at hSw); go_simp; (try with_reducible rfl)
          try simp only [Act.put, List.setIfInBounds_toArray, List.set_cons_zero, List.set_cons_succ]
          refine wpAnyH_take (i := 1) (v := ?_) rfl (by kernel_rfl) (by kernel_rfl) (by kernel_rfl) (fun _ _ _ h => h) (Or.inl ⟨by kernel_rfl, ?_⟩) (by assumption) ?_
          rotate_left
          · intro w hSw; (try dsimp only at hSw); go_simp; (try with_reducible rfl)
          try simp only [Act.put, List.setIfInBounds_toArray, List.set_cons_zero, List.set_cons_succ]
          refine wpAnyH_take (i := 2) (v := ?_) rfl (by kernel_rfl) (by kernel_rfl) (by kernel_rfl) (fun _ _ _ h => h) (Or.inl ⟨by kernel_rfl, ?_⟩) (by assumption) ?_
          rotate_left
          · intro w hSw; (try dsimp only at hSw); go_simp; (try with_reducible rfl)
          try simp only [Act.put, List.setIfInBounds_toArray, List.set_cons_zero, List.set_cons_succ]
          refine wpAnyH_take (i := 3) (v := ?_) rfl (by kernel_rfl) (by kernel_rfl) (by kernel_rfl) (fun _ _ _ h => h) (Or.inl ⟨by kernel_rfl, ?_⟩) (by assumption) ?_
          rotate_left
          · intro w hSw; (try dsimp only at hSw); go_simp; (try with_reducible rfl)
          try simp only [Act.put, List.setIfInBounds_toArray, List.set_cons_zero, List.set_cons_succ]
          refine wpAnyH_ready (rs := [4]) (by kernel_rfl) (by simp) ?_
          refine AllReadyH.cons rfl (fun K hK => ?_) AllReadyH.nil
          go_simp
          go_at_call 14
          refine (whole_any 0 _).mono ?_
          rintro e w' ⟨rfl, hb⟩
          refine hK.out _ _ (by (first | assumption | (go_split_ands; (repeat' apply And.intro); (all_goals first | assumption | exact cell_keep (by assumption) hb | exact below_next (by assumption) hb | exact Below.drew (by assumption))))) (fun hHeld => ?_)
          clear hK K hS
          try simp only [Act.put, List.setIfInBounds_toArray, List.set_cons_zero, List.set_cons_succ]
          refine wpAnyH_take (i := 5) (v := ?_) rfl (by kernel_rfl) (by kernel_rfl) (by kernel_rfl) (fun _ _ _ h => h) (Or.inl ⟨by kernel_rfl, ?_⟩) (by assumption) ?_
          rotate_left
          · intro w hSw; (try dsimp only at hSw); go_simp; (try with_reducible rfl)
          try simp only [Act.put, List.setIfInBounds_toArray, List.set_cons_zero, List.set_cons_succ]
          refine wpAnyH_take (i := 6) (v := ?_) rfl (by kernel_rfl) (by kernel_rfl) (by kernel_rfl) (fun _ _ _ h => h) (Or.inl ⟨by kernel_rfl, ?_⟩) (by assumption) ?_
          rotate_left
          · intro w hSw; (try dsimp only at hSw); go_simp; (try with_reducible rfl)
          try simp only [Act.put, List.setIfInBounds_toArray, List.set_cons_zero, List.set_cons_succ]
          refine wpAnyH_take (i := 7) (v := ?_) rfl (by kernel_rfl) (by kernel_rfl) (by kernel_rfl) (fun _ _ _ h => h) (Or.inl ⟨by kernel_rfl, ?_⟩) (by assumption) ?_
          rotate_left
          · intro w hSw; (try dsimp only at hSw); go_simp; (try with_reducible rfl)
          try simp only [Act.put, List.setIfInBounds_toArray, List.set_cons_zero, List.set_cons_succ]
          refine wpAnyH_take (i := 8) (v := ?_) rfl (by kernel_rfl) (by kernel_rfl) (by kernel_rfl) (fun _ _ _ h => h) (Or.inl ⟨by kernel_rfl, ?_⟩) (by assumption) ?_
          rotate_left
          · intro w hSw; (try dsimp only at hSw); go_simp; (try with_reducible rfl)
          try simp only [Act.put, List.setIfInBounds_toArray, List.set_cons_zero, List.set_cons_succ]
          refine wpAnyH_take (i := 9) (v := ?_) rfl (by kernel_rfl) (by kernel_rfl) (by kernel_rfl) (fun _ _ _ h => h) (Or.inl ⟨by kernel_rfl, ?_⟩) (by assumption) ?_
          rotate_left
          · intro w hSw; (try dsimp only at hSw); go_simp; (try with_reducible rfl)
          try simp only [Act.put, List.setIfInBounds_toArray, List.set_cons_zero, List.set_cons_succ]
          refine wpAnyH_take (i := 10) (v := ?_) rfl (by kernel_rfl) (by kernel_rfl) (by kernel_rfl) (fun _ _ _ h => h) (Or.inl ⟨by kernel_rfl, ?_⟩) (by assumption) ?_
          rotate_left
          · intro w hSw; (try dsimp only at hSw); go_simp; (try with_reducible rfl)
          try simp only [Act.put, List.setIfInBounds_toArray, List.set_cons_zero, List.set_cons_succ]
          refine wpAnyH_take (i := 11) (v := ?_) rfl (by kernel_rfl) (by kernel_rfl) (by kernel_rfl) (fun _ _ _ h => h) (Or.inl ⟨by kernel_rfl, ?_⟩) (by assumption) ?_
          rotate_left
          · intro w hSw; (try dsimp only at hSw); go_simp; (try with_reducible rfl)
          try simp only [Act.put, List.setIfInBounds_toArray, List.set_cons_zero, List.set_cons_succ]
          refine wpAnyH_take (i := 12) (v := ?_) rfl (by kernel_rfl) (by kernel_rfl) (by kernel_rfl) (fun _ _ _ h => h) (Or.inl ⟨by kernel_rfl, ?_⟩) (by assumption) ?_
          rotate_left
          · intro w hSw; (try dsimp only at hSw); go_simp; (try with_reducible rfl)
          try simp only [Act.put, List.setIfInBounds_toArray, List.set_cons_zero, List.set_cons_succ]
          refine wpAnyH_take (i := 13) (v := ?_) rfl (by kernel_rfl) (by kernel_rfl) (by kernel_rfl) (fun _ _ _ h => h) (Or.inl ⟨by kernel_rfl, ?_⟩) (by assumption) ?_
          rotate_left
          · intro w hSw; (try dsimp only at hSw); go_simp; (try with_reducible rfl)
          try simp only [Act.put, List.setIfInBounds_toArray, List.set_cons_zero, List.set_cons_succ]
          refine wpAnyH_take (i := 14) (v := ?_) rfl (by kernel_rfl) (by kernel_rfl) (by kernel_rfl) (fun _ _ _ h => h) (Or.inl ⟨by kernel_rfl, ?_⟩) (by assumption) ?_
          rotate_left
          · intro w hSw; (try dsimp only at hSw); go_simp; (try with_reducible rfl)
          try simp only [Act.put, List.setIfInBounds_toArray, List.set_cons_zero, List.set_cons_succ]
          refine wpAnyH_take (i := 15) (v := ?_) rfl (by kernel_rfl) (by kernel_rfl) (by kernel_rfl) (fun _ _ _ h => h) (Or.inl ⟨by kernel_rfl, ?_⟩) (by assumption) ?_
          rotate_left
          · intro w hSw; (try dsimp only at hSw); go_simp; (try with_reducible rfl)
          try simp only [Act.put, List.setIfInBounds_toArray, List.set_cons_zero, List.set_cons_succ]
          refine wpAnyH_take (i := 16) (v := ?_) rfl (by kernel_rfl) (by kernel_rfl) (by kernel_rfl) (fun _ _ _ h => h) (Or.inl ⟨by kernel_rfl, ?_⟩) (by assumption) ?_
          rotate_left
          · intro w hSw; (try dsimp only at hSw); go_simp; (try with_reducible rfl)
          try simp only [Act.put, List.setIfInBounds_toArray, List.set_cons_zero, List.set_cons_succ]
          refine wpAnyH_take (i := 17) (v := ?_) rfl (by kernel_rfl) (by kernel_rfl) (by kernel_rfl) (fun _ _ _ h => h) (Or.inl ⟨by kernel_rfl, ?_⟩) (by assumption) ?_
          rotate_left
          · intro w hSw; (try dsimp only at hSw); go_simp; (try with_reducible rfl)
          try simp only [Act.put, List.setIfInBounds_toArray, List.set_cons_zero, List.set_cons_succ]
          refine wpAnyH_take (i := 18) (v := ?_) rfl (by kernel_rfl) (by kernel_rfl) (by kernel_rfl) (fun _ _ _ h => h) (Or.inl ⟨by kernel_rfl, ?_⟩) (by assumption) ?_
          rotate_left
          · intro w hSw; (try dsimp only at hSw); go_simp; (try with_reducible rfl)
          try simp only [Act.put, List.setIfInBounds_toArray, List.set_cons_zero, List.set_cons_succ]
          refine wpAnyH_take (i := 19) (v := undef) rfl (by kernel_rfl) (by kernel_rfl) (by kernel_rfl) (fun _ _ _ h => h) (Or.inr ⟨by kernel_rfl, rfl⟩) (by assumption) ?_
          try simp only [Act.put, List.setIfInBounds_toArray, List.set_cons_zero, List.set_cons_succ]
          refine wpAnyH_take (i := 20) (v := undef) rfl (by kernel_rfl) (by kernel_rfl) (by kernel_rfl) (fun _ _ _ h => h) (Or.inr ⟨by kernel_rfl, rfl⟩) (by assumption) ?_
          try simp only [Act.put, List.setIfInBounds_toArray, List.set_cons_zero, List.set_cons_succ]
          refine wpAnyH_take (i := 21) (v := ?_) rfl (by kernel_rfl) (by kernel_rfl) (by kernel_rfl) (fun _ _ _ h => h) (Or.inl ⟨by kernel_rfl, ?_⟩) (by assumption) ?_
          rotate_left
          · intro w hSw; (try dsimp only at hSw); go_simp; (try with_reducible rfl)
          try simp only [Act.put, List.setIfInBounds_toArray, List.set_cons_zero, List.set_cons_succ]
          refine wpAnyH_take (i := 22) (v := ?_) rfl (by kernel_rfl) (by kernel_rfl) (by kernel_rfl) (fun _ _ _ h => h) (Or.inl ⟨by kernel_rfl, ?_⟩) (by assumption) ?_
          rotate_left
          · intro w hSw; (try dsimp only at hSw); go_simp; (try with_reducible rfl)
          try simp only [Act.put, List.setIfInBounds_toArray, List.set_cons_zero, List.set_cons_succ]
          refine wpAnyH_take (i := 23) (v := ?_) rfl (by kernel_rfl) (by kernel_rfl) (by kernel_rfl) (fun _ _ _ h => h) (Or.inl ⟨by kernel_rfl, ?_⟩) (by assumption) ?_
          rotate_left
          · intro w hSw; (try dsimp only at hSw); go_simp; (try with_reducible rfl)
          try simp only [Act.put, List.setIfInBounds_toArray, List.set_cons_zero, List.set_cons_succ]
          refine wpAnyH_done (by kernel_rfl) ?_ _
          go_split_ands
          go_wp2_with fail
          go_ret
          rename_i h1 _ _ h2
          have e1 := Option.some.inj h1
          have e2 := Option.some.inj h2
          cases e1
          cases e2
          exact ⟨by kernel_rfl, by assumption⟩
  · have s5 := Lib.hid (sub_back I0.out I1.out f1)
    obtain ⟨f1a, f1b, f1c⟩ := fe_fits f1
    clear f1
    replace x0 := cell_box x0 (.cells #[.int .i64 (fk (a0 * a1)), .int .i64 (tm (a0 * a1)), .string ⟨#[]⟩] 23)
    replace x1 := cell_box x1 (.cells #[.int .i64 (fk (a0 * a1)), .int .i64 (tm (a0 * a1)), .string ⟨#[]⟩] 23)
    replace x2 := cell_box x2 (.cells #[.int .i64 (fk (a0 * a1)), .int .i64 (tm (a0 * a1)), .string ⟨#[]⟩] 23)
    replace y0 := cell_box y0 (.cells #[.int .i64 (fk (a0 * a1)), .int .i64 (tm (a0 * a1)), .string ⟨#[]⟩] 23)
    replace y1 := cell_box y1 (.cells #[.int .i64 (fk (a0 * a1)), .int .i64 (tm (a0 * a1)), .string ⟨#[]⟩] 23)
    replace y2 := cell_box y2 (.cells #[.int .i64 (fk (a0 * a1)), .int .i64 (tm (a0 * a1)), .string ⟨#[]⟩] 23)
    replace u0 := cell_box u0 (.cells #[.int .i64 (fk (a0 * a1)), .int .i64 (tm (a0 * a1)), .string ⟨#[]⟩] 23)
    replace u1 := cell_box u1 (.cells #[.int .i64 (fk (a0 * a1)), .int .i64 (tm (a0 * a1)), .string ⟨#[]⟩] 23)
    replace u2 := cell_box u2 (.cells #[.int .i64 (fk (a0 * a1)), .int .i64 (tm (a0 * a1)), .string ⟨#[]⟩] 23)
    have v0 : (W16.alloc (.cells #[.int .i64 (fk (a0 * a1)), .int .i64 (tm (a0 * a1)), .string ⟨#[]⟩] 23)).cell? ⟨W16.heap.size, 0, none⟩ = some (.int .i64 (fk (a0 * a1))) := by simp [go_sem]
    have v1 : (W16.alloc (.cells #[.int .i64 (fk (a0 * a1)), .int .i64 (tm (a0 * a1)), .string ⟨#[]⟩] 23)).cell? ⟨W16.heap.size, 1, none⟩ = some (.int .i64 (tm (a0 * a1))) := by simp [go_sem]
    have v2 : (W16.alloc (.cells #[.int .i64 (fk (a0 * a1)), .int .i64 (tm (a0 * a1)), .string ⟨#[]⟩] 23)).cell? ⟨W16.heap.size, 2, none⟩ = some (.string ⟨#[]⟩) := by simp [go_sem]
    replace HB := Lib.hid (below_box HB.out (.cells #[.int .i64 (fk (a0 * a1)), .int .i64 (tm (a0 * a1)), .string ⟨#[]⟩] 23))
    go_upto_region 10 with fail
    generalize (W16.alloc (.cells #[.int .i64 (fk (a0 * a1)), .int .i64 (tm (a0 * a1)), .string ⟨#[]⟩] 23)) = W17 at *
    generalize W16.heap.size = pv at *
    have lx := block_lt x0
    have lu := block_lt u0
    simp only at lx lu
    have hn := HB.out.size
    have hB := HB.out
    obtain ⟨N, hN⟩ : ∃ N, N = W17.heap.size := ⟨_, rfl⟩
    rw [← hN] at lx lu hn
    have hN2 := Nat.le_of_eq hN
    go_cut [13, 14] (fun t13 t14 wx => ∃ p : Nat, t13 = .pointer (some ⟨p, 0, none⟩) ∧ t14 = .int .i64 0 ∧ wx.cell? ⟨p, 0, none⟩ = some (.int .i64 1) ∧ wx.cell? ⟨p, 1, none⟩ = some (.int .i64 a0) ∧ wx.cell? ⟨p, 2, none⟩ = some (.string ⟨#[]⟩) ∧ wx.cell? ⟨pu, 0, none⟩ = some (.int .i64 (fk (a0 * a1))) ∧ wx.cell? ⟨pu, 1, none⟩ = some (.int .i64 (tm (a0 * a1))) ∧ wx.cell? ⟨pu, 2, none⟩ = some (.string ⟨#[]⟩) ∧ Below w.heap.size w wx)
    case first =>
      go_region_held3 (fun w' => N ≤ w'.heap.size ∧ w'.cell? ⟨px, 0, none⟩ = some (.int .i64 (fk (a0 + a1))) ∧ w'.cell? ⟨px, 1, none⟩ = some (.int .i64 (tm (a0 + a1))) ∧ w'.cell? ⟨px, 2, none⟩ = some (.string ⟨#[]⟩) ∧ w'.cell? ⟨pu, 0, none⟩ = some (.int .i64 (fk (a0 * a1))) ∧ w'.cell? ⟨pu, 1, none⟩ = some (.int .i64 (tm (a0 * a1))) ∧ w'.cell? ⟨pu, 2, none⟩ = some (.string ⟨#[]⟩) ∧ Below w.heap.size w w') (first | assumption | (go_split_ands; (repeat' apply And.intro); (all_goals first | with_reducible assumption | with_reducible exact cell_keep (by assumption) hb | with_reducible exact below_next (by assumption) hb | with_reducible exact Below.drew (by assumption) | with_reducible exact cell_box (by assumption) _ | with_reducible exact cell_box_drew (by assumption) _ | with_reducible exact below_box_drew (by assumption) _ | with_reducible exact below_box (by assumption) _ | with_reducible exact cell_realloc (by assumption) (by omega) _ | with_reducible exact below_realloc (by assumption) (by omega) _ (by omega) | with_reducible exact cell_store3 (by assumption) (by omega) | with_reducible exact below_store3 (by assumption) (by omega) | with_reducible exact Nat.le_trans (by assumption) hb.size | (simp; omega)))) (first | (go_at_call 14; refine (whole_any a1 _).mono ?_; rintro e w' ⟨rfl, hb⟩; have hz : N ≤ w'.heap.size := Nat.le_trans (And.left (by assumption)) hb.size; first | (with_reducible have m := fresh3 hb) | (with_reducible have m := fresh3_drew hb) | (with_reducible have m := fresh_keep m hb) | skip) | (go_at_call 10; refine (s5.out _).mono ?_; rintro e w' ⟨rfl, hb⟩; have hz : N ≤ w'.heap.size := Nat.le_trans (And.left (by assumption)) hb.size; first | (with_reducible have m := fresh3 hb) | (with_reducible have m := fresh3_drew hb) | (with_reducible have m := fresh_keep m hb) | skip))
      all_goals
        go_wp2_with fail
        go_meet
        go_split_ands
        refine ⟨_, rfl, rfl, ?_⟩
        repeat' apply And.intro
        all_goals first | with_reducible assumption | (simp [go_sem]; done) | simp [go_sem, *]
    case rest =>
      clear x0 x1 x2 y0 y1 y2 u0 u1 u2 v0 v1 v2 HB hB hN hN2 lx lu hn
      obtain ⟨p, rfl, rfl, t0, t1, t2, u0, u1, u2, hB⟩ := hcut
      go_wp2_with fail
      go_region_held3 (fun w' => w'.cell? ⟨p, 0, none⟩ = some (.int .i64 1) ∧ w'.cell? ⟨p, 1, none⟩ = some (.int .i64 a0) ∧ w'.cell? ⟨p, 2, none⟩ = some (.string ⟨#[]⟩) ∧ w'.cell? ⟨pu, 0, none⟩ = some (.int .i64 (fk (a0 * a1))) ∧ w'.cell? ⟨pu, 1, none⟩ = some (.int .i64 (tm (a0 * a1))) ∧ w'.cell? ⟨pu, 2, none⟩ = some (.string ⟨#[]⟩) ∧ Below w.heap.size w w') (first | assumption | (go_split_ands; (repeat' apply And.intro); (all_goals first | assumption | exact cell_keep (by assumption) hb | exact below_next (by assumption) hb | exact Below.drew (by assumption)))) (first | (go_at_call 14; refine (whole_any a0 _).mono ?_; rintro e w' ⟨rfl, hb⟩))
      clear t0 t1 t2 u0 u1 u2 hB
      go_split_ands
      rename_i t0 t1 t2 u0 u1 u2 hB
      have HB := Lib.hid hB
      clear hB
      cases h3 : fits (a0 * a1)
      · obtain ⟨f3a, f3b, f3c⟩ := fe_not h3
        clear h3
        go_wp2_with fail
        refine (whole_any a0 _).mono ?_; rintro e W18 ⟨rfl, hb⟩
        replace HB := Lib.hid (below_next HB.out hb)
        replace u0 := cell_keep u0 hb
        replace u1 := cell_keep u1 hb
        replace u2 := cell_keep u2 hb
        clear hb
        go_wp2_with fail
        refine (whole_any a0 _).mono ?_; rintro e W19 ⟨rfl, hb⟩
        replace HB := Lib.hid (below_next HB.out hb)
        replace u0 := cell_keep u0 hb
        replace u1 := cell_keep u1 hb
        replace u2 := cell_keep u2 hb
        clear hb
        go_wp2_with fail
        refine (s6.out _).mono ?_; rintro e W20 ⟨rfl, hb⟩
        replace HB := Lib.hid (below_next HB.out hb)
        replace u0 := cell_keep u0 hb
        replace u1 := cell_keep u1 hb
        replace u2 := cell_keep u2 hb
        clear hb
        replace u0 := cell_box u0 (.cells #[.int .i64 1, .int .i64 0, .string ⟨#[]⟩] 23)
        replace u1 := cell_box u1 (.cells #[.int .i64 1, .int .i64 0, .string ⟨#[]⟩] 23)
        replace u2 := cell_box u2 (.cells #[.int .i64 1, .int .i64 0, .string ⟨#[]⟩] 23)
        have r0 : (W20.alloc (.cells #[.int .i64 1, .int .i64 0, .string ⟨#[]⟩] 23)).cell? ⟨W20.heap.size, 0, none⟩ = some (.int .i64 1) := by simp [go_sem]
        have r1 : (W20.alloc (.cells #[.int .i64 1, .int .i64 0, .string ⟨#[]⟩] 23)).cell? ⟨W20.heap.size, 1, none⟩ = some (.int .i64 0) := by simp [go_sem]
        have r2 : (W20.alloc (.cells #[.int .i64 1, .int .i64 0, .string ⟨#[]⟩] 23)).cell? ⟨W20.heap.size, 2, none⟩ = some (.string ⟨#[]⟩) := by simp [go_sem]
        replace HB := Lib.hid (below_box HB.out (.cells #[.int .i64 1, .int .i64 0, .string ⟨#[]⟩] 23))
        go_wp2_with fail
        generalize (W20.alloc (.cells #[.int .i64 1, .int .i64 0, .string ⟨#[]⟩] 23)) = W21 at *
        generalize W20.heap.size = pr at *
        have hB := HB.out
        refine wp_region_held_drew (S := fun w' => w'.cell? ⟨pr, 0, none⟩ = some (.int .i64 1) ∧ w'.cell? ⟨pr, 1, none⟩ = some (.int .i64 0) ∧ w'.cell? ⟨pr, 2, none⟩ = some (.string ⟨#[]⟩) ∧ Below w.heap.size w w') (by kernel_rfl) (by (first | assumption | (go_split_ands; (repeat' apply And.intro); (all_goals first | assumption | exact cell_keep (by assumption) hb | exact below_next (by assumption) hb | exact Below.drew (by assumption))))) (fun hS => ?_)
        refine wpAnyH_take (i := 0) (v := ?_) rfl (by kernel_rfl) (by kernel_rfl) (by kernel_rfl) (fun _ _ _ h => h) (Or.inl ⟨by kernel_rfl, ?_⟩) (by assumption) ?_
        rotate_left
        · intro w hSw; (try dsimp only at hSw); go_simp; (try with_reducible rfl)
        try simp only [Act.put, List.setIfInBounds_toArray, List.set_cons_zero, List.set_cons_succ]
        refine wpAnyH_take (i := 1) (v := ?_) rfl (by kernel_rfl) (by kernel_rfl) (by kernel_rfl) (fun _ _ _ h => h) (Or.inl ⟨by kernel_rfl, ?_⟩) (by assumption) ?_
        rotate_left
        · intro w hSw; (try dsimp only at hSw); go_simp; (try with_reducible rfl)
        try simp only [Act.put, List.setIfInBounds_toArray, List.set_cons_zero, List.set_cons_succ]
        refine wpAnyH_take (i := 2) (v := ?_) rfl (by kernel_rfl) (by kernel_rfl) (by kernel_rfl) (fun _ _ _ h => h) (Or.inl ⟨by kernel_rfl, ?_⟩) (by assumption) ?_
        rotate_left
        · intro w hSw; (try dsimp only at hSw); go_simp; (try with_reducible rfl)
        try simp only [Act.put, List.setIfInBounds_toArray, List.set_cons_zero, List.set_cons_succ]
        refine wpAnyH_take (i := 3) (v := ?_) rfl (by kernel_rfl) (by kernel_rfl) (by kernel_rfl) (fun _ _ _ h => h) (Or.inl ⟨by kernel_rfl, ?_⟩) (by assumption) ?_
        rotate_left
        · intro w hSw; (try dsimp only at hSw); go_simp; (try with_reducible rfl)
        try simp only [Act.put, List.setIfInBounds_toArray, List.set_cons_zero, List.set_cons_succ]
        refine wpAnyH_ready (rs := [4]) (by kernel_rfl) (by simp) ?_
        refine AllReadyH.cons rfl (fun K hK => ?_) AllReadyH.nil
        go_simp
        go_at_call 14
        refine (whole_any 0 _).mono ?_
        rintro e w' ⟨rfl, hb⟩
        refine hK.out _ _ (by (first | assumption | (go_split_ands; (repeat' apply And.intro); (all_goals first | assumption | exact cell_keep (by assumption) hb | exact below_next (by assumption) hb | exact Below.drew (by assumption))))) (fun hHeld => ?_)
        clear hK K hS
        try simp only [Act.put, List.setIfInBounds_toArray, List.set_cons_zero, List.set_cons_succ]
        refine wpAnyH_take (i := 5) (v := ?_) rfl (by kernel_rfl) (by kernel_rfl) (by kernel_rfl) (fun _ _ _ h => h) (Or.inl ⟨by kernel_rfl, ?_⟩) (by assumption) ?_
        rotate_left
        · intro w hSw; (try dsimp only at hSw); go_simp; (try with_reducible rfl)
        try simp only [Act.put, List.setIfInBounds_toArray, List.set_cons_zero, List.set_cons_succ]
        refine wpAnyH_take (i := 6) (v := ?_) rfl (by kernel_rfl) (by kernel_rfl) (by kernel_rfl) (fun _ _ _ h => h) (Or.inl ⟨by kernel_rfl, ?_⟩) (by assumption) ?_
        rotate_left
        · intro w hSw; (try dsimp only at hSw); go_simp; (try with_reducible rfl)
        try simp only [Act.put, List.setIfInBounds_toArray, List.set_cons_zero, List.set_cons_succ]
        refine wpAnyH_take (i := 7) (v := ?_) rfl (by kernel_rfl) (by kernel_rfl) (by kernel_rfl) (fun _ _ _ h => h) (Or.inl ⟨by kernel_rfl, ?_⟩) (by assumption) ?_
        rotate_left
        · intro w hSw; (try dsimp only at hSw); go_simp; (try with_reducible rfl)
        try simp only [Act.put, List.setIfInBounds_toArray, List.set_cons_zero, List.set_cons_succ]
        refine wpAnyH_take (i := 8) (v := ?_) rfl (by kernel_rfl) (by kernel_rfl) (by kernel_rfl) (fun _ _ _ h => h) (Or.inl ⟨by kernel_rfl, ?_⟩) (by assumption) ?_
        rotate_left
        · intro w hSw; (try dsimp only at hSw); go_simp; (try with_reducible rfl)
        try simp only [Act.put, List.setIfInBounds_toArray, List.set_cons_zero, List.set_cons_succ]
        refine wpAnyH_take (i := 9) (v := ?_) rfl (by kernel_rfl) (by kernel_rfl) (by kernel_rfl) (fun _ _ _ h => h) (Or.inl ⟨by kernel_rfl, ?_⟩) (by assumption) ?_
        rotate_left
        · intro w hSw; (try dsimp only at hSw); go_simp; (try with_reducible rfl)
        try simp only [Act.put, List.setIfInBounds_toArray, List.set_cons_zero, List.set_cons_succ]
        refine wpAnyH_take (i := 10) (v := ?_) rfl (by kernel_rfl) (by kernel_rfl) (by kernel_rfl) (fun _ _ _ h => h) (Or.inl ⟨by kernel_rfl, ?_⟩) (by assumption) ?_
        rotate_left
        · intro w hSw; (try dsimp only at hSw); go_simp; (try with_reducible rfl)
        try simp only [Act.put, List.setIfInBounds_toArray, List.set_cons_zero, List.set_cons_succ]
        refine wpAnyH_take (i := 11) (v := undef) rfl (by kernel_rfl) (by kernel_rfl) (by kernel_rfl) (fun _ _ _ h => h) (Or.inr ⟨by kernel_rfl, rfl⟩) (by assumption) ?_
        try simp only [Act.put, List.setIfInBounds_toArray, List.set_cons_zero, List.set_cons_succ]
        refine wpAnyH_take (i := 12) (v := undef) rfl (by kernel_rfl) (by kernel_rfl) (by kernel_rfl) (fun _ _ _ h => h) (Or.inr ⟨by kernel_rfl, rfl⟩) (by assumption) ?_
        try simp only [Act.put, List.setIfInBounds_toArray, List.set_cons_zero, List.set_cons_succ]
        refine wpAnyH_take (i := 13) (v := ?_) rfl (by kernel_rfl) (by kernel_rfl) (by kernel_rfl) (fun _ _ _ h => h) (Or.inl ⟨by kernel_rfl, ?_⟩) (by assumption) ?_
        rotate_left
        · intro w hSw; (try dsimp only at hSw); go_simp; (try with_reducible rfl)
        try simp only [Act.put, List.setIfInBounds_toArray, List.set_cons_zero, List.set_cons_succ]
        refine wpAnyH_take (i := 14) (v := ?_) rfl (by kernel_rfl) (by kernel_rfl) (by kernel_rfl) (fun _ _ _ h => h) (Or.inl ⟨by kernel_rfl, ?_⟩) (by assumption) ?_
        rotate_left
        · intro w hSw; (try dsimp only at hSw); go_simp; (try with_reducible rfl)
        try simp only [Act.put, List.setIfInBounds_toArray, List.set_cons_zero, List.set_cons_succ]
        refine wpAnyH_take (i := 15) (v := ?_) rfl (by kernel_rfl) (by kernel_rfl) (by kernel_rfl) (fun _ _ _ h => h) (Or.inl ⟨by kernel_rfl, ?_⟩) (by assumption) ?_
        rotate_left
        · intro w hSw; (try dsimp only at hSw); go_simp; (try with_reducible rfl)
        try simp only [Act.put, List.setIfInBounds_toArray, List.set_cons_zero, List.set_cons_succ]
        refine wpAnyH_take (i := 16) (v := ?_) rfl (by kernel_rfl) (by kernel_rfl) (by kernel_rfl) (fun _ _ _ h => h) (Or.inl ⟨by kernel_rfl, ?_⟩) (by assumption) ?_
        rotate_left
        · intro w hSw; (try dsimp only at hSw); go_simp; (try with_reducible rfl)
        try simp only [Act.put, List.setIfInBounds_toArray, List.set_cons_zero, List.set_cons_succ]
        refine wpAnyH_take (i := 17) (v := ?_) rfl (by kernel_rfl) (by kernel_rfl) (by kernel_rfl) (fun _ _ _ h => h) (Or.inl ⟨by kernel_rfl, ?_⟩) (by assumption) ?_
        rotate_left
        · intro w hSw; (try dsimp only at hSw); go_simp; (try with_reducible rfl)
        try simp only [Act.put, List.setIfInBounds_toArray, List.set_cons_zero, List.set_cons_succ]
        refine wpAnyH_take (i := 18) (v := ?_) rfl (by kernel_rfl) (by kernel_rfl) (by kernel_rfl) (fun _ _ _ h => h) (Or.inl ⟨by kernel_rfl, ?_⟩) (by assumption) ?_
        rotate_left
        · intro w hSw; (try dsimp only at hSw); go_simp; (try with_reducible rfl)
        try simp only [Act.put, List.setIfInBounds_toArray, List.set_cons_zero, List.set_cons_succ]
        refine wpAnyH_take (i := 19) (v := ?_) rfl (by kernel_rfl) (by kernel_rfl) (by kernel_rfl) (fun _ _ _ h => h) (Or.inl ⟨by kernel_rfl, ?_⟩) (by assumption) ?_
        rotate_left
        · intro w hSw; (try dsimp only at hSw); go_simp; (try with_reducible rfl)
        try simp only [Act.put, List.setIfInBounds_toArray, List.set_cons_zero, List.set_cons_succ]
        refine wpAnyH_take (i := 20) (v := ?_) rfl (by kernel_rfl) (by kernel_rfl) (by kernel_rfl) (fun _ _ _ h => h) (Or.inl ⟨by kernel_rfl, ?_⟩) (by assumption) ?_
        rotate_left
        · intro w hSw; (try dsimp only at hSw); go_simp; (try with_reducible rfl)
        try simp only [Act.put, List.setIfInBounds_toArray, List.set_cons_zero, List.set_cons_succ]
        refine wpAnyH_take (i := 21) (v := ?_) rfl (by kernel_rfl) (by kernel_rfl) (by kernel_rfl) (fun _ _ _ h => h) (Or.inl ⟨by kernel_rfl, ?_⟩) (by assumption) ?_
        rotate_left
        · intro w hSw; (try dsimp only at hSw); go_simp; (try with_reducible rfl)
        try simp only [Act.put, List.setIfInBounds_toArray, List.set_cons_zero, List.set_cons_succ]
        refine wpAnyH_take (i := 22) (v := ?_) rfl (by kernel_rfl) (by kernel_rfl) (by kernel_rfl) (fun _ _ _ h => h) (Or.inl ⟨by kernel_rfl, ?_⟩) (by assumption) ?_
        rotate_left
        · intro w hSw; (try dsimp only at hSw); go_simp; (try with_reducible rfl)
        try simp only [Act.put, List.setIfInBounds_toArray, List.set_cons_zero, List.set_cons_succ]
        refine wpAnyH_take (i := 23) (v := ?_) rfl (by kernel_rfl) (by kernel_rfl) (by kernel_rfl) (fun _ _ _ h => h) (Or.inl ⟨by kernel_rfl, ?_⟩) (by assumption) ?_
        rotate_left
        · intro w hSw; (try dsimp only at hSw); go_simp; (try with_reducible rfl)
        try simp only [Act.put, List.setIfInBounds_toArray, List.set_cons_zero, List.set_cons_succ]
        refine wpAnyH_done (by kernel_rfl) ?_ _
        go_split_ands
        go_wp2_with fail
        go_ret
        rename_i h1 _ _ h2
        have e1 := Option.some.inj h1
        have e2 := Option.some.inj h2
        cases e1
        cases e2
        exact ⟨by kernel_rfl, by assumption⟩
      · rcases Classical.em (a0 = 0) with hz | hz
        · have z1 : (a0 == 0) = true := by simpa using hz
          have z2 : (a0 != 0) = false := by simpa using hz
          obtain ⟨f3a, f3b, f3c⟩ := fe_fits h3
          clear h3 hz f3c
          go_wp2_with fail
          refine (whole_any a0 _).mono ?_; rintro e W18 ⟨rfl, hb⟩
          replace HB := Lib.hid (below_next HB.out hb)
          replace u0 := cell_keep u0 hb
          replace u1 := cell_keep u1 hb
          replace u2 := cell_keep u2 hb
          clear hb
          go_wp2_with fail
          refine (whole_any a0 _).mono ?_; rintro e W19 ⟨rfl, hb⟩
          replace HB := Lib.hid (below_next HB.out hb)
          replace u0 := cell_keep u0 hb
          replace u1 := cell_keep u1 hb
          replace u2 := cell_keep u2 hb
          clear hb
          go_wp2_with fail
          refine (s6.out _).mono ?_; rintro e W20 ⟨rfl, hb⟩
          replace HB := Lib.hid (below_next HB.out hb)
          replace u0 := cell_keep u0 hb
          replace u1 := cell_keep u1 hb
          replace u2 := cell_keep u2 hb
          clear hb
          replace u0 := cell_box u0 (.cells #[.int .i64 1, .int .i64 0, .string ⟨#[]⟩] 23)
          replace u1 := cell_box u1 (.cells #[.int .i64 1, .int .i64 0, .string ⟨#[]⟩] 23)
          replace u2 := cell_box u2 (.cells #[.int .i64 1, .int .i64 0, .string ⟨#[]⟩] 23)
          have r0 : (W20.alloc (.cells #[.int .i64 1, .int .i64 0, .string ⟨#[]⟩] 23)).cell? ⟨W20.heap.size, 0, none⟩ = some (.int .i64 1) := by simp [go_sem]
          have r1 : (W20.alloc (.cells #[.int .i64 1, .int .i64 0, .string ⟨#[]⟩] 23)).cell? ⟨W20.heap.size, 1, none⟩ = some (.int .i64 0) := by simp [go_sem]
          have r2 : (W20.alloc (.cells #[.int .i64 1, .int .i64 0, .string ⟨#[]⟩] 23)).cell? ⟨W20.heap.size, 2, none⟩ = some (.string ⟨#[]⟩) := by simp [go_sem]
          replace HB := Lib.hid (below_box HB.out (.cells #[.int .i64 1, .int .i64 0, .string ⟨#[]⟩] 23))
          go_wp2_with fail
          generalize (W20.alloc (.cells #[.int .i64 1, .int .i64 0, .string ⟨#[]⟩] 23)) = W21 at *
          generalize W20.heap.size = pr at *
          have hB := HB.out
          refine wp_region_held_drew (S := fun w' => w'.cell? ⟨pr, 0, none⟩ = some (.int .i64 1) ∧ w'.cell? ⟨pr, 1, none⟩ = some (.int .i64 0) ∧ w'.cell? ⟨pr, 2, none⟩ = some (.string ⟨#[]⟩) ∧ Below w.heap.size w w') (by kernel_rfl) (by (first | assumption | (go_split_ands; (repeat' apply And.intro); (all_goals first | assumption | exact cell_keep (by assumption) hb | exact below_next (by assumption) hb | exact Below.drew (by assumption))))) (fun hS => ?_)
          refine wpAnyH_take (i := 0) (v := ?_) rfl (by kernel_rfl) (by kernel_rfl) (by kernel_rfl) (fun _ _ _ h => h) (Or.inl ⟨by kernel_rfl, ?_⟩) (by assumption) ?_
          rotate_left
          · intro w hSw; (try dsimp only at hSw); go_simp; (try with_reducible rfl)
          try simp only [Act.put, List.setIfInBounds_toArray, List.set_cons_zero, List.set_cons_succ]
          refine wpAnyH_take (i := 1) (v := ?_) rfl (by kernel_rfl) (by kernel_rfl) (by kernel_rfl) (fun _ _ _ h => h) (Or.inl ⟨by kernel_rfl, ?_⟩) (by assumption) ?_
          rotate_left
          · intro w hSw; (try dsimp only at hSw); go_simp; (try with_reducible rfl)
          try simp only [Act.put, List.setIfInBounds_toArray, List.set_cons_zero, List.set_cons_succ]
          refine wpAnyH_take (i := 2) (v := ?_) rfl (by kernel_rfl) (by kernel_rfl) (by kernel_rfl) (fun _ _ _ h => h) (Or.inl ⟨by kernel_rfl, ?_⟩) (by assumption) ?_
          rotate_left
          · intro w hSw; (try dsimp only at hSw); go_simp; (try with_reducible rfl)
          try simp only [Act.put, List.setIfInBounds_toArray, List.set_cons_zero, List.set_cons_succ]
          refine wpAnyH_take (i := 3) (v := ?_) rfl (by kernel_rfl) (by kernel_rfl) (by kernel_rfl) (fun _ _ _ h => h) (Or.inl ⟨by kernel_rfl, ?_⟩) (by assumption) ?_
          rotate_left
          · intro w hSw; (try dsimp only at hSw); go_simp; (try with_reducible rfl)
          try simp only [Act.put, List.setIfInBounds_toArray, List.set_cons_zero, List.set_cons_succ]
          refine wpAnyH_ready (rs := [4]) (by kernel_rfl) (by simp) ?_
          refine AllReadyH.cons rfl (fun K hK => ?_) AllReadyH.nil
          go_simp
          go_at_call 14
          refine (whole_any 0 _).mono ?_
          rintro e w' ⟨rfl, hb⟩
          refine hK.out _ _ (by (first | assumption | (go_split_ands; (repeat' apply And.intro); (all_goals first | assumption | exact cell_keep (by assumption) hb | exact below_next (by assumption) hb | exact Below.drew (by assumption))))) (fun hHeld => ?_)
          clear hK K hS
          try simp only [Act.put, List.setIfInBounds_toArray, List.set_cons_zero, List.set_cons_succ]
          refine wpAnyH_take (i := 5) (v := ?_) rfl (by kernel_rfl) (by kernel_rfl) (by kernel_rfl) (fun _ _ _ h => h) (Or.inl ⟨by kernel_rfl, ?_⟩) (by assumption) ?_
          rotate_left
          · intro w hSw; (try dsimp only at hSw); go_simp; (try with_reducible rfl)
          try simp only [Act.put, List.setIfInBounds_toArray, List.set_cons_zero, List.set_cons_succ]
          refine wpAnyH_take (i := 6) (v := ?_) rfl (by kernel_rfl) (by kernel_rfl) (by kernel_rfl) (fun _ _ _ h => h) (Or.inl ⟨by kernel_rfl, ?_⟩) (by assumption) ?_
          rotate_left
          · intro w hSw; (try dsimp only at hSw); go_simp; (try with_reducible rfl)
          try simp only [Act.put, List.setIfInBounds_toArray, List.set_cons_zero, List.set_cons_succ]
          refine wpAnyH_take (i := 7) (v := ?_) rfl (by kernel_rfl) (by kernel_rfl) (by kernel_rfl) (fun _ _ _ h => h) (Or.inl ⟨by kernel_rfl, ?_⟩) (by assumption) ?_
          rotate_left
          · intro w hSw; (try dsimp only at hSw); go_simp; (try with_reducible rfl)
          try simp only [Act.put, List.setIfInBounds_toArray, List.set_cons_zero, List.set_cons_succ]
          refine wpAnyH_take (i := 8) (v := ?_) rfl (by kernel_rfl) (by kernel_rfl) (by kernel_rfl) (fun _ _ _ h => h) (Or.inl ⟨by kernel_rfl, ?_⟩) (by assumption) ?_
          rotate_left
          · intro w hSw; (try dsimp only at hSw); go_simp; (try with_reducible rfl)
          try simp only [Act.put, List.setIfInBounds_toArray, List.set_cons_zero, List.set_cons_succ]
          refine wpAnyH_take (i := 9) (v := ?_) rfl (by kernel_rfl) (by kernel_rfl) (by kernel_rfl) (fun _ _ _ h => h) (Or.inl ⟨by kernel_rfl, ?_⟩) (by assumption) ?_
          rotate_left
          · intro w hSw; (try dsimp only at hSw); go_simp; (try with_reducible rfl)
          try simp only [Act.put, List.setIfInBounds_toArray, List.set_cons_zero, List.set_cons_succ]
          refine wpAnyH_take (i := 10) (v := ?_) rfl (by kernel_rfl) (by kernel_rfl) (by kernel_rfl) (fun _ _ _ h => h) (Or.inl ⟨by kernel_rfl, ?_⟩) (by assumption) ?_
          rotate_left
          · intro w hSw; (try dsimp only at hSw); go_simp; (try with_reducible rfl)
          try simp only [Act.put, List.setIfInBounds_toArray, List.set_cons_zero, List.set_cons_succ]
          refine wpAnyH_take (i := 11) (v := undef) rfl (by kernel_rfl) (by kernel_rfl) (by kernel_rfl) (fun _ _ _ h => h) (Or.inr ⟨by kernel_rfl, rfl⟩) (by assumption) ?_
          try simp only [Act.put, List.setIfInBounds_toArray, List.set_cons_zero, List.set_cons_succ]
          refine wpAnyH_take (i := 12) (v := undef) rfl (by kernel_rfl) (by kernel_rfl) (by kernel_rfl) (fun _ _ _ h => h) (Or.inr ⟨by kernel_rfl, rfl⟩) (by assumption) ?_
          try simp only [Act.put, List.setIfInBounds_toArray, List.set_cons_zero, List.set_cons_succ]
          refine wpAnyH_take (i := 13) (v := ?_) rfl (by kernel_rfl) (by kernel_rfl) (by kernel_rfl) (fun _ _ _ h => h) (Or.inl ⟨by kernel_rfl, ?_⟩) (by assumption) ?_
          rotate_left
          · intro w hSw; (try dsimp only at hSw); go_simp; (try with_reducible rfl)
          try simp only [Act.put, List.setIfInBounds_toArray, List.set_cons_zero, List.set_cons_succ]
          refine wpAnyH_take (i := 14) (v := ?_) rfl (by kernel_rfl) (by kernel_rfl) (by kernel_rfl) (fun _ _ _ h => h) (Or.inl ⟨by kernel_rfl, ?_⟩) (by assumption) ?_
          rotate_left
          · intro w hSw; (try dsimp only at hSw); go_simp; (try with_reducible rfl)
          try simp only [Act.put, List.setIfInBounds_toArray, List.set_cons_zero, List.set_cons_succ]
          refine wpAnyH_take (i := 15) (v := ?_) rfl (by kernel_rfl) (by kernel_rfl) (by kernel_rfl) (fun _ _ _ h => h) (Or.inl ⟨by kernel_rfl, ?_⟩) (by assumption) ?_
          rotate_left
          · intro w hSw; (try dsimp only at hSw); go_simp; (try with_reducible rfl)
          try simp only [Act.put, List.setIfInBounds_toArray, List.set_cons_zero, List.set_cons_succ]
          refine wpAnyH_take (i := 16) (v := ?_) rfl (by kernel_rfl) (by kernel_rfl) (by kernel_rfl) (fun _ _ _ h => h) (Or.inl ⟨by kernel_rfl, ?_⟩) (by assumption) ?_
          rotate_left
          · intro w hSw; (try dsimp only at hSw); go_simp; (try with_reducible rfl)
          try simp only [Act.put, List.setIfInBounds_toArray, List.set_cons_zero, List.set_cons_succ]
          refine wpAnyH_take (i := 17) (v := ?_) rfl (by kernel_rfl) (by kernel_rfl) (by kernel_rfl) (fun _ _ _ h => h) (Or.inl ⟨by kernel_rfl, ?_⟩) (by assumption) ?_
          rotate_left
          · intro w hSw; (try dsimp only at hSw); go_simp; (try with_reducible rfl)
          try simp only [Act.put, List.setIfInBounds_toArray, List.set_cons_zero, List.set_cons_succ]
          refine wpAnyH_take (i := 18) (v := ?_) rfl (by kernel_rfl) (by kernel_rfl) (by kernel_rfl) (fun _ _ _ h => h) (Or.inl ⟨by kernel_rfl, ?_⟩) (by assumption) ?_
          rotate_left
          · intro w hSw; (try dsimp only at hSw); go_simp; (try with_reducible rfl)
          try simp only [Act.put, List.setIfInBounds_toArray, List.set_cons_zero, List.set_cons_succ]
          refine wpAnyH_take (i := 19) (v := undef) rfl (by kernel_rfl) (by kernel_rfl) (by kernel_rfl) (fun _ _ _ h => h) (Or.inr ⟨by kernel_rfl, rfl⟩) (by assumption) ?_
          try simp only [Act.put, List.setIfInBounds_toArray, List.set_cons_zero, List.set_cons_succ]
          refine wpAnyH_take (i := 20) (v := undef) rfl (by kernel_rfl) (by kernel_rfl) (by kernel_rfl) (fun _ _ _ h => h) (Or.inr ⟨by kernel_rfl, rfl⟩) (by assumption) ?_
          try simp only [Act.put, List.setIfInBounds_toArray, List.set_cons_zero, List.set_cons_succ]
          refine wpAnyH_take (i := 21) (v := ?_) rfl (by kernel_rfl) (by kernel_rfl) (by kernel_rfl) (fun _ _ _ h => h) (Or.inl ⟨by kernel_rfl, ?_⟩) (by assumption) ?_
          rotate_left
          · intro w hSw; (try dsimp only at hSw); go_simp; (try with_reducible rfl)
          try simp only [Act.put, List.setIfInBounds_toArray, List.set_cons_zero, List.set_cons_succ]
          refine wpAnyH_take (i := 22) (v := ?_) rfl (by kernel_rfl) (by kernel_rfl) (by kernel_rfl) (fun _ _ _ h => h) (Or.inl ⟨by kernel_rfl, ?_⟩) (by assumption) ?_
          rotate_left
          · intro w hSw; (try dsimp only at hSw); go_simp; (try with_reducible rfl)
          try simp only [Act.put, List.setIfInBounds_toArray, List.set_cons_zero, List.set_cons_succ]
          refine wpAnyH_take (i := 23) (v := ?_) rfl (by kernel_rfl) (by kernel_rfl) (by kernel_rfl) (fun _ _ _ h => h) (Or.inl ⟨by kernel_rfl, ?_⟩) (by assumption) ?_
          rotate_left
          · intro w hSw; (try dsimp only at hSw); go_simp; (try with_reducible rfl)
          try simp only [Act.put, List.setIfInBounds_toArray, List.set_cons_zero, List.set_cons_succ]
          refine wpAnyH_done (by kernel_rfl) ?_ _
          go_split_ands
          go_wp2_with fail
          go_ret
          rename_i h1 _ _ h2
          have e1 := Option.some.inj h1
          have e2 := Option.some.inj h2
          cases e1
          cases e2
          exact ⟨by kernel_rfl, by assumption⟩
        · have z1 : (a0 == 0) = false := by simpa using hz
          have z2 : (a0 != 0) = true := by simpa using hz
          have z3 : Int.tdiv (a0 * a1) a0 = a1 := Int.mul_tdiv_cancel_left _ hz
          have z4 : Int.tmod (a0 * a1) a0 = 0 := Int.mul_tmod_right ..
          have z5 : wrap64 a1 = a1 := by have := I1.out; unfold I64 at this; unfold wrap64; omega
          obtain ⟨f3a, f3b, f3c⟩ := fe_fits h3
          clear h3
          go_wp2_with fail
          refine (whole_any a0 _).mono ?_; rintro e W18 ⟨rfl, hb⟩
          replace HB := Lib.hid (below_next HB.out hb)
          replace u0 := cell_keep u0 hb
          replace u1 := cell_keep u1 hb
          replace u2 := cell_keep u2 hb
          clear hb
          go_wp2_with fail
          refine (whole_any a0 _).mono ?_; rintro e W19 ⟨rfl, hb⟩
          replace HB := Lib.hid (below_next HB.out hb)
          replace u0 := cell_keep u0 hb
          replace u1 := cell_keep u1 hb
          replace u2 := cell_keep u2 hb
          clear hb
          go_wp2_with fail
          refine (s6.out _).mono ?_; rintro e W20 ⟨rfl, hb⟩
          replace HB := Lib.hid (below_next HB.out hb)
          replace u0 := cell_keep u0 hb
          replace u1 := cell_keep u1 hb
          replace u2 := cell_keep u2 hb
          clear hb
          replace u0 := cell_box u0 (.cells #[.int .i64 1, .int .i64 0, .string ⟨#[]⟩] 23)
          replace u1 := cell_box u1 (.cells #[.int .i64 1, .int .i64 0, .string ⟨#[]⟩] 23)
          replace u2 := cell_box u2 (.cells #[.int .i64 1, .int .i64 0, .string ⟨#[]⟩] 23)
          have r0 : (W20.alloc (.cells #[.int .i64 1, .int .i64 0, .string ⟨#[]⟩] 23)).cell? ⟨W20.heap.size, 0, none⟩ = some (.int .i64 1) := by simp [go_sem]
          have r1 : (W20.alloc (.cells #[.int .i64 1, .int .i64 0, .string ⟨#[]⟩] 23)).cell? ⟨W20.heap.size, 1, none⟩ = some (.int .i64 0) := by simp [go_sem]
          have r2 : (W20.alloc (.cells #[.int .i64 1, .int .i64 0, .string ⟨#[]⟩] 23)).cell? ⟨W20.heap.size, 2, none⟩ = some (.string ⟨#[]⟩) := by simp [go_sem]
          replace HB := Lib.hid (below_box HB.out (.cells #[.int .i64 1, .int .i64 0, .string ⟨#[]⟩] 23))
          go_wp2_with fail
          generalize (W20.alloc (.cells #[.int .i64 1, .int .i64 0, .string ⟨#[]⟩] 23)) = W21 at *
          generalize W20.heap.size = pr at *
          have hB := HB.out
          refine wp_region_held_drew (S := fun w' => w'.cell? ⟨pr, 0, none⟩ = some (.int .i64 1) ∧ w'.cell? ⟨pr, 1, none⟩ = some (.int .i64 0) ∧ w'.cell? ⟨pr, 2, none⟩ = some (.string ⟨#[]⟩) ∧ Below w.heap.size w w') (by kernel_rfl) (by (first | assumption | (go_split_ands; (repeat' apply And.intro); (all_goals first | assumption | exact cell_keep (by assumption) hb | exact below_next (by assumption) hb | exact Below.drew (by assumption))))) (fun hS => ?_)
          refine wpAnyH_take (i := 0) (v := ?_) rfl (by kernel_rfl) (by kernel_rfl) (by kernel_rfl) (fun _ _ _ h => h) (Or.inl ⟨by kernel_rfl, ?_⟩) (by assumption) ?_
          rotate_left
          · intro w hSw; (try dsimp only at hSw); go_simp; (try with_reducible rfl)
          try simp only [Act.put, List.setIfInBounds_toArray, List.set_cons_zero, List.set_cons_succ]
          refine wpAnyH_take (i := 1) (v := ?_) rfl (by kernel_rfl) (by kernel_rfl) (by kernel_rfl) (fun _ _ _ h => h) (Or.inl ⟨by kernel_rfl, ?_⟩) (by assumption) ?_
          rotate_left
          · intro w hSw; (try dsimp only at hSw); go_simp; (try with_reducible rfl)
          try simp only [Act.put, List.setIfInBounds_toArray, List.set_cons_zero, List.set_cons_succ]
          refine wpAnyH_take (i := 2) (v := ?_) rfl (by kernel_rfl) (by kernel_rfl) (by kernel_rfl) (fun _ _ _ h => h) (Or.inl ⟨by kernel_rfl, ?_⟩) (by assumption) ?_
          rotate_left
          · intro w hSw; (try dsimp only at hSw); go_simp; (try with_reducible rfl)
          try simp only [Act.put, List.setIfInBounds_toArray, List.set_cons_zero, List.set_cons_succ]
          refine wpAnyH_take (i := 3) (v := ?_) rfl (by kernel_rfl) (by kernel_rfl) (by kernel_rfl) (fun _ _ _ h => h) (Or.inl ⟨by kernel_rfl, ?_⟩) (by assumption) ?_
          rotate_left
          · intro w hSw; (try dsimp only at hSw); go_simp; (try with_reducible rfl)
          try simp only [Act.put, List.setIfInBounds_toArray, List.set_cons_zero, List.set_cons_succ]
          refine wpAnyH_ready (rs := [4]) (by kernel_rfl) (by simp) ?_
          refine AllReadyH.cons rfl (fun K hK => ?_) AllReadyH.nil
          go_simp
          go_at_call 14
          refine (whole_any 0 _).mono ?_
          rintro e w' ⟨rfl, hb⟩
          refine hK.out _ _ (by (first | assumption | (go_split_ands; (repeat' apply And.intro); (all_goals first | assumption | exact cell_keep (by assumption) hb | exact below_next (by assumption) hb | exact Below.drew (by assumption))))) (fun hHeld => ?_)
          clear hK K hS
          try simp only [Act.put, List.setIfInBounds_toArray, List.set_cons_zero, List.set_cons_succ]
          refine wpAnyH_take (i := 5) (v := ?_) rfl (by kernel_rfl) (by kernel_rfl) (by kernel_rfl) (fun _ _ _ h => h) (Or.inl ⟨by kernel_rfl, ?_⟩) (by assumption) ?_
          rotate_left
          · intro w hSw; (try dsimp only at hSw); go_simp; (try with_reducible rfl)
          try simp only [Act.put, List.setIfInBounds_toArray, List.set_cons_zero, List.set_cons_succ]
          refine wpAnyH_take (i := 6) (v := ?_) rfl (by kernel_rfl) (by kernel_rfl) (by kernel_rfl) (fun _ _ _ h => h) (Or.inl ⟨by kernel_rfl, ?_⟩) (by assumption) ?_
          rotate_left
          · intro w hSw; (try dsimp only at hSw); go_simp; (try with_reducible rfl)
          try simp only [Act.put, List.setIfInBounds_toArray, List.set_cons_zero, List.set_cons_succ]
          refine wpAnyH_take (i := 7) (v := ?_) rfl (by kernel_rfl) (by kernel_rfl) (by kernel_rfl) (fun _ _ _ h => h) (Or.inl ⟨by kernel_rfl, ?_⟩) (by assumption) ?_
          rotate_left
          · intro w hSw; (try dsimp only at hSw); go_simp; (try with_reducible rfl)
          try simp only [Act.put, List.setIfInBounds_toArray, List.set_cons_zero, List.set_cons_succ]
          refine wpAnyH_take (i := 8) (v := ?_) rfl (by kernel_rfl) (by kernel_rfl) (by kernel_rfl) (fun _ _ _ h => h) (Or.inl ⟨by kernel_rfl, ?_⟩) (by assumption) ?_
          rotate_left
          · intro w hSw; (try dsimp only at hSw); go_simp; (try with_reducible rfl)
          try simp only [Act.put, List.setIfInBounds_toArray, List.set_cons_zero, List.set_cons_succ]
          refine wpAnyH_take (i := 9) (v := ?_) rfl (by kernel_rfl) (by kernel_rfl) (by kernel_rfl) (fun _ _ _ h => h) (Or.inl ⟨by kernel_rfl, ?_⟩) (by assumption) ?_
          rotate_left
          · intro w hSw; (try dsimp only at hSw); go_simp; (try with_reducible rfl)
          try simp only [Act.put, List.setIfInBounds_toArray, List.set_cons_zero, List.set_cons_succ]
          refine wpAnyH_take (i := 10) (v := ?_) rfl (by kernel_rfl) (by kernel_rfl) (by kernel_rfl) (fun _ _ _ h => h) (Or.inl ⟨by kernel_rfl, ?_⟩) (by assumption) ?_
          rotate_left
          · intro w hSw; (try dsimp only at hSw); go_simp; (try with_reducible rfl)
          try simp only [Act.put, List.setIfInBounds_toArray, List.set_cons_zero, List.set_cons_succ]
          refine wpAnyH_take (i := 11) (v := undef) rfl (by kernel_rfl) (by kernel_rfl) (by kernel_rfl) (fun _ _ _ h => h) (Or.inr ⟨by kernel_rfl, rfl⟩) (by assumption) ?_
          try simp only [Act.put, List.setIfInBounds_toArray, List.set_cons_zero, List.set_cons_succ]
          refine wpAnyH_take (i := 12) (v := undef) rfl (by kernel_rfl) (by kernel_rfl) (by kernel_rfl) (fun _ _ _ h => h) (Or.inr ⟨by kernel_rfl, rfl⟩) (by assumption) ?_
          try simp only [Act.put, List.setIfInBounds_toArray, List.set_cons_zero, List.set_cons_succ]
          refine wpAnyH_take (i := 13) (v := ?_) rfl (by kernel_rfl) (by kernel_rfl) (by kernel_rfl) (fun _ _ _ h => h) (Or.inl ⟨by kernel_rfl, ?_⟩) (by assumption) ?_
          rotate_left
          · intro w hSw; (try dsimp only at hSw); go_simp; (try with_reducible rfl)
          try simp only [Act.put, List.setIfInBounds_toArray, List.set_cons_zero, List.set_cons_succ]
          refine wpAnyH_take (i := 14) (v := ?_) rfl (by kernel_rfl) (by kernel_rfl) (by kernel_rfl) (fun _ _ _ h => h) (Or.inl ⟨by kernel_rfl, ?_⟩) (by assumption) ?_
          rotate_left
          · intro w hSw; (try dsimp only at hSw); go_simp; (try with_reducible rfl)
          try simp only [Act.put, List.setIfInBounds_toArray, List.set_cons_zero, List.set_cons_succ]
          refine wpAnyH_take (i := 15) (v := ?_) rfl (by kernel_rfl) (by kernel_rfl) (by kernel_rfl) (fun _ _ _ h => h) (Or.inl ⟨by kernel_rfl, ?_⟩) (by assumption) ?_
          rotate_left
          · intro w hSw; (try dsimp only at hSw); go_simp; (try with_reducible rfl)
          try simp only [Act.put, List.setIfInBounds_toArray, List.set_cons_zero, List.set_cons_succ]
          refine wpAnyH_take (i := 16) (v := ?_) rfl (by kernel_rfl) (by kernel_rfl) (by kernel_rfl) (fun _ _ _ h => h) (Or.inl ⟨by kernel_rfl, ?_⟩) (by assumption) ?_
          rotate_left
          · intro w hSw; (try dsimp only at hSw); go_simp; (try with_reducible rfl)
          try simp only [Act.put, List.setIfInBounds_toArray, List.set_cons_zero, List.set_cons_succ]
          refine wpAnyH_take (i := 17) (v := ?_) rfl (by kernel_rfl) (by kernel_rfl) (by kernel_rfl) (fun _ _ _ h => h) (Or.inl ⟨by kernel_rfl, ?_⟩) (by assumption) ?_
          rotate_left
          · intro w hSw; (try dsimp only at hSw); go_simp; (try with_reducible rfl)
          try simp only [Act.put, List.setIfInBounds_toArray, List.set_cons_zero, List.set_cons_succ]
          refine wpAnyH_take (i := 18) (v := ?_) rfl (by kernel_rfl) (by kernel_rfl) (by kernel_rfl) (fun _ _ _ h => h) (Or.inl ⟨by kernel_rfl, ?_⟩) (by assumption) ?_
          rotate_left
          · intro w hSw; (try dsimp only at hSw); go_simp; (try with_reducible rfl)
          try simp only [Act.put, List.setIfInBounds_toArray, List.set_cons_zero, List.set_cons_succ]
          refine wpAnyH_take (i := 19) (v := undef) rfl (by kernel_rfl) (by kernel_rfl) (by kernel_rfl) (fun _ _ _ h => h) (Or.inr ⟨by kernel_rfl, rfl⟩) (by assumption) ?_
          try simp only [Act.put, List.setIfInBounds_toArray, List.set_cons_zero, List.set_cons_succ]
          refine wpAnyH_take (i := 20) (v := undef) rfl (by kernel_rfl) (by kernel_rfl) (by kernel_rfl) (fun _ _ _ h => h) (Or.inr ⟨by kernel_rfl, rfl⟩) (by assumption) ?_
          try simp only [Act.put, List.setIfInBounds_toArray, List.set_cons_zero, List.set_cons_succ]
          refine wpAnyH_take (i := 21) (v := ?_) rfl (by kernel_rfl) (by kernel_rfl) (by kernel_rfl) (fun _ _ _ h => h) (Or.inl ⟨by kernel_rfl, ?_⟩) (by assumption) ?_
          rotate_left
          · intro w hSw; (try dsimp only at hSw); go_simp; (try with_reducible rfl)
          try simp only [Act.put, List.setIfInBounds_toArray, List.set_cons_zero, List.set_cons_succ]
          refine wpAnyH_take (i := 22) (v := ?_) rfl (by kernel_rfl) (by kernel_rfl) (by kernel_rfl) (fun _ _ _ h => h) (Or.inl ⟨by kernel_rfl, ?_⟩) (by assumption) ?_
          rotate_left
          · intro w hSw; (try dsimp only at hSw); go_simp; (try with_reducible rfl)
          try simp only [Act.put, List.setIfInBounds_toArray, List.set_cons_zero, List.set_cons_succ]
          refine wpAnyH_take (i := 23) (v := ?_) rfl (by kernel_rfl) (by kernel_rfl) (by kernel_rfl) (fun _ _ _ h => h) (Or.inl ⟨by kernel_rfl, ?_⟩) (by assumption) ?_
          rotate_left
          · intro w hSw; (try dsimp only at hSw); go_simp; (try with_reducible rfl)
          try simp only [Act.put, List.setIfInBounds_toArray, List.set_cons_zero, List.set_cons_succ]
          refine wpAnyH_done (by kernel_rfl) ?_ _
          go_split_ands
          go_wp2_with fail
          go_ret
          rename_i h1 _ _ h2
          have e1 := Option.some.inj h1
          have e2 := Option.some.inj h2
          cases e1
          cases e2
          exact ⟨by kernel_rfl, by assumption⟩


theorem own : ownKnob Try.prog.godebug = none := by kernel_rfl
theorem laid_out : laidOutB Try.prog = true := by kernel_rfl

set_option maxRecDepth 100000 in
theorem lifted (os : Os) (started : os.Started) (H : Type) (enc : TypeId × Value → H) :
    ReturnsInHanded {} Try.checked os 4 .any (Rows.opsWholeSpec.pre6 enc Try.prog Try.f4 Rows.opsWholeRow.domain false) (Rows.opsWholeSpec.post enc Try.prog Try.f4 false true false false) := by
  refine returnsInHanded_of_change (C := Try.checked) own started (by kernel_rfl) Try.func4
    (ChangeSpec.witness6 (enc := enc) (C := Try.checked) false ⟨#[], #[.int .i64 0, .int .i64 0], []⟩ 8 (by kernel_rfl) (by kernel_rfl) (by kernel_rfl) (by kernel_rfl)) ?_
  intro W base args ds gs before hval0 hW hcnd _
  have hval : ∀ (j : Nat) t v, Try.f4.params[j]? = some t → args[j]? = some v → Value.okWide Try.prog W .any base t v := hval0
  have hW' := hW
  obtain ⟨p, q, hA0, hV, rfl, hfz, hnd⟩ := hW
  have hA : DataW.TrodAll enc Try.prog W 0 (fun _ => true) true Try.f4.params.toList args.toList ds p := hA0
  rw [Try.params4] at hA hval
  obtain ⟨v0, vs0, d0, ds0, p0, q0, hargs, rfl, rfl, h0, r0⟩ := trodAll_cons hA
  obtain ⟨v1, vs1, d1, ds1, p1, q1, rfl, rfl, rfl, h1, r1⟩ := trodAll_cons r0
  obtain ⟨rfl, rfl, rfl⟩ := trodAll_nil r1
  obtain rfl : args = #[v0, v1] := by cases args; simp_all
  obtain ⟨rfl, rfl⟩ := trodVars_none hV
  obtain ⟨a0, rfl, rfl, rfl, w0⟩ := open_int Try.underlying2 (hval 0 2 v0 rfl rfl) h0
  obtain ⟨a1, rfl, rfl, rfl, w1⟩ := open_int Try.underlying2 (hval 1 2 v1 rfl rfl) h1
  clear hA0 hval0
  refine (walk a0 a1 w0 w1 W).mono fun e W' ⟨he, hg⟩ => ?_
  subst he
  exact ⟨_, rfl, LawKit.post_law laid_out (by kernel_rfl) rfl Try.underlying4 rfl hW' ⟨rfl, rfl, rfl⟩ hg⟩

theorem over : Rows.opsWholeRow.holds Try.pinned (OpenSpec.ofChange Rows.opsWholeSpec) :=
  OpenClaim.holds_of_wide 4 Try.f4 rfl rfl rfl rfl rfl rfl rfl ⟨rfl, rfl, rfl, rfl, rfl⟩ rfl rfl rfl rfl rfl (by kernel_rfl) Try.func4 (by kernel_rfl)
    (of_decide_eq_true (by kernel_rfl)) (by unfold Func.isWrapper; first | (rw [if_pos (by decide +kernel)]; kernel_rfl) | (rw [if_neg (by decide +kernel)]; exact ⟨rfl, rfl⟩))
    (fun os started H enc _ => lifted os started H enc)

/-- THE STATEMENT -/
theorem proved : Rows.OpsWholeSaid := over
#print axioms proved
end Go.Proofs.Ytcoidmkaddnkdaa.opsWhole
