/- THE LAW OpsOrder: whatever the arguments, the call returns true, and they read as they did. No condition. -/
import Derived.Test.YtcoidmkaddnkdaaRows
import Derived.Test.YtcoidmkaddnkdaaQ2
import Derived.Test.YtcoidmkaddnkdaaKit
import Derived.BigQuiet
namespace Go.Proofs.Ytcoidmkaddnkdaa.opsOrder
open Go.ChangeShapes Go.WideShapes Go.ChangeAt Go.RowKit AnteFlo AnteVal AnteOps
set_option linter.unusedVariables false

theorem pos_lt {a b c : Int} (h : 0 < c) : (a * c < b * c) = (a < b) :=
  propext ⟨fun h' => Int.lt_of_mul_lt_mul_right h' (by omega), fun h' => Int.mul_lt_mul_of_pos_right h' h⟩
theorem neg_lt {a b c : Int} (h : c < 0) : (b * c < a * c) = (a < b) := by
  have := pos_lt (a := a) (b := b) (c := -c) (by omega)
  rw [← this, Int.mul_neg, Int.mul_neg]
  exact propext (by omega)

set_option maxHeartbeats 4000000 in
theorem walk (a0 a1 a2 : Int) (w0 : (Lit.int .i64 a0).wf = true) (w1 : (Lit.int .i64 a1).wf = true) (w2 : (Lit.int .i64 a2).wf = true) (w : World) :
    Calls Try.prog 8 #[.int .i64 a0, .int .i64 a1, .int .i64 a2] w fun e w' => e = .returned (.bool true) ∧ Below w.heap.size w w' := by
  have i0 : I64 a0 := bounds_i64 w0
  have i1 : I64 a1 := bounds_i64 w1
  have i2 : I64 a2 := bounds_i64 w2
  have s1 := Lib.hid (add_gen i0 i2)
  have s2 := Lib.hid (add_gen i1 i2)
  have s3 := Lib.hid (mul_gen i0 i2)
  have I1 := Lib.hid i1
  have I2 := Lib.hid i2
  clear w0 w1 w2 i0 i1 i2
  go_enter Try.func8, Try.ntmps8
  have HB : Hid (Below w.heap.size w w) := Below.refl _ _
  go_wp2_with fail
  refine (awake_any _).mono ?_; rintro e W1 ⟨rfl, hb⟩
  replace HB := Lib.hid (below_next HB.out hb)
  clear hb
  go_wp2_with fail
  refine (whole_any a0 _).mono ?_; rintro e W2 ⟨rfl, hb⟩
  replace HB := Lib.hid (below_next HB.out hb)
  clear hb
  go_wp2_with fail
  refine (whole_any a1 _).mono ?_; rintro e W3 ⟨rfl, hb⟩
  replace HB := Lib.hid (below_next HB.out hb)
  clear hb
  go_wp2_with fail
  refine (hold_lt a0 a1 _).mono ?_; rintro e W4 ⟨rfl, hb⟩
  replace HB := Lib.hid (below_next HB.out hb)
  clear hb
  go_wp2_with fail
  refine (whole_any a0 _).mono ?_; rintro e W5 ⟨rfl, hb⟩
  replace HB := Lib.hid (below_next HB.out hb)
  clear hb
  go_wp2_with fail
  refine (whole_any a2 _).mono ?_; rintro e W6 ⟨rfl, hb⟩
  replace HB := Lib.hid (below_next HB.out hb)
  clear hb
  go_wp2_with fail
  refine (s1.out _).mono ?_; rintro e W7 ⟨rfl, hb⟩
  replace HB := Lib.hid (below_next HB.out hb)
  clear hb
  go_wp2_with fail
  have x0 : (W7.alloc (.cells #[.int .i64 (fk (a0 + a2)), .int .i64 (tm (a0 + a2)), .string ⟨#[]⟩] 23)).cell? ⟨W7.heap.size, 0, none⟩ = some (.int .i64 (fk (a0 + a2))) := by simp [go_sem]
  have x1 : (W7.alloc (.cells #[.int .i64 (fk (a0 + a2)), .int .i64 (tm (a0 + a2)), .string ⟨#[]⟩] 23)).cell? ⟨W7.heap.size, 1, none⟩ = some (.int .i64 (tm (a0 + a2))) := by simp [go_sem]
  have x2 : (W7.alloc (.cells #[.int .i64 (fk (a0 + a2)), .int .i64 (tm (a0 + a2)), .string ⟨#[]⟩] 23)).cell? ⟨W7.heap.size, 2, none⟩ = some (.string ⟨#[]⟩) := by simp [go_sem]
  replace HB := Lib.hid (below_box HB.out (.cells #[.int .i64 (fk (a0 + a2)), .int .i64 (tm (a0 + a2)), .string ⟨#[]⟩] 23))
  generalize (W7.alloc (.cells #[.int .i64 (fk (a0 + a2)), .int .i64 (tm (a0 + a2)), .string ⟨#[]⟩] 23)) = W8 at *
  generalize W7.heap.size = px at *
  go_wp2_with fail
  refine (whole_any a1 _).mono ?_; rintro e W9 ⟨rfl, hb⟩
  replace HB := Lib.hid (below_next HB.out hb)
  replace x0 := cell_keep x0 hb
  replace x1 := cell_keep x1 hb
  replace x2 := cell_keep x2 hb
  clear hb
  go_wp2_with fail
  refine (whole_any a2 _).mono ?_; rintro e W10 ⟨rfl, hb⟩
  replace HB := Lib.hid (below_next HB.out hb)
  replace x0 := cell_keep x0 hb
  replace x1 := cell_keep x1 hb
  replace x2 := cell_keep x2 hb
  clear hb
  go_wp2_with fail
  refine (s2.out _).mono ?_; rintro e W11 ⟨rfl, hb⟩
  replace HB := Lib.hid (below_next HB.out hb)
  replace x0 := cell_keep x0 hb
  replace x1 := cell_keep x1 hb
  replace x2 := cell_keep x2 hb
  clear hb
  go_wp2_with fail
  have y0 : (W11.alloc (.cells #[.int .i64 (fk (a1 + a2)), .int .i64 (tm (a1 + a2)), .string ⟨#[]⟩] 23)).cell? ⟨W11.heap.size, 0, none⟩ = some (.int .i64 (fk (a1 + a2))) := by simp [go_sem]
  have y1 : (W11.alloc (.cells #[.int .i64 (fk (a1 + a2)), .int .i64 (tm (a1 + a2)), .string ⟨#[]⟩] 23)).cell? ⟨W11.heap.size, 1, none⟩ = some (.int .i64 (tm (a1 + a2))) := by simp [go_sem]
  have y2 : (W11.alloc (.cells #[.int .i64 (fk (a1 + a2)), .int .i64 (tm (a1 + a2)), .string ⟨#[]⟩] 23)).cell? ⟨W11.heap.size, 2, none⟩ = some (.string ⟨#[]⟩) := by simp [go_sem]
  replace HB := Lib.hid (below_box HB.out (.cells #[.int .i64 (fk (a1 + a2)), .int .i64 (tm (a1 + a2)), .string ⟨#[]⟩] 23))
  replace x0 := cell_box x0 (.cells #[.int .i64 (fk (a1 + a2)), .int .i64 (tm (a1 + a2)), .string ⟨#[]⟩] 23)
  replace x1 := cell_box x1 (.cells #[.int .i64 (fk (a1 + a2)), .int .i64 (tm (a1 + a2)), .string ⟨#[]⟩] 23)
  replace x2 := cell_box x2 (.cells #[.int .i64 (fk (a1 + a2)), .int .i64 (tm (a1 + a2)), .string ⟨#[]⟩] 23)
  generalize (W11.alloc (.cells #[.int .i64 (fk (a1 + a2)), .int .i64 (tm (a1 + a2)), .string ⟨#[]⟩] 23)) = W12 at *
  generalize W11.heap.size = py at *
  go_wp2_with fail
  refine (whole_any a0 _).mono ?_; rintro e W13 ⟨rfl, hb⟩
  replace HB := Lib.hid (below_next HB.out hb)
  replace x0 := cell_keep x0 hb
  replace x1 := cell_keep x1 hb
  replace x2 := cell_keep x2 hb
  replace y0 := cell_keep y0 hb
  replace y1 := cell_keep y1 hb
  replace y2 := cell_keep y2 hb
  clear hb
  go_wp2_with fail
  refine (whole_any a2 _).mono ?_; rintro e W14 ⟨rfl, hb⟩
  replace HB := Lib.hid (below_next HB.out hb)
  replace x0 := cell_keep x0 hb
  replace x1 := cell_keep x1 hb
  replace x2 := cell_keep x2 hb
  replace y0 := cell_keep y0 hb
  replace y1 := cell_keep y1 hb
  replace y2 := cell_keep y2 hb
  clear hb
  go_wp2_with fail
  refine (s3.out _).mono ?_; rintro e W15 ⟨rfl, hb⟩
  replace HB := Lib.hid (below_next HB.out hb)
  replace x0 := cell_keep x0 hb
  replace x1 := cell_keep x1 hb
  replace x2 := cell_keep x2 hb
  replace y0 := cell_keep y0 hb
  replace y1 := cell_keep y1 hb
  replace y2 := cell_keep y2 hb
  clear hb
  go_wp2_with fail
  have u0 : (W15.alloc (.cells #[.int .i64 (fk (a0 * a2)), .int .i64 (tm (a0 * a2)), .string ⟨#[]⟩] 23)).cell? ⟨W15.heap.size, 0, none⟩ = some (.int .i64 (fk (a0 * a2))) := by simp [go_sem]
  have u1 : (W15.alloc (.cells #[.int .i64 (fk (a0 * a2)), .int .i64 (tm (a0 * a2)), .string ⟨#[]⟩] 23)).cell? ⟨W15.heap.size, 1, none⟩ = some (.int .i64 (tm (a0 * a2))) := by simp [go_sem]
  have u2 : (W15.alloc (.cells #[.int .i64 (fk (a0 * a2)), .int .i64 (tm (a0 * a2)), .string ⟨#[]⟩] 23)).cell? ⟨W15.heap.size, 2, none⟩ = some (.string ⟨#[]⟩) := by simp [go_sem]
  replace HB := Lib.hid (below_box HB.out (.cells #[.int .i64 (fk (a0 * a2)), .int .i64 (tm (a0 * a2)), .string ⟨#[]⟩] 23))
  replace x0 := cell_box x0 (.cells #[.int .i64 (fk (a0 * a2)), .int .i64 (tm (a0 * a2)), .string ⟨#[]⟩] 23)
  replace x1 := cell_box x1 (.cells #[.int .i64 (fk (a0 * a2)), .int .i64 (tm (a0 * a2)), .string ⟨#[]⟩] 23)
  replace x2 := cell_box x2 (.cells #[.int .i64 (fk (a0 * a2)), .int .i64 (tm (a0 * a2)), .string ⟨#[]⟩] 23)
  replace y0 := cell_box y0 (.cells #[.int .i64 (fk (a0 * a2)), .int .i64 (tm (a0 * a2)), .string ⟨#[]⟩] 23)
  replace y1 := cell_box y1 (.cells #[.int .i64 (fk (a0 * a2)), .int .i64 (tm (a0 * a2)), .string ⟨#[]⟩] 23)
  replace y2 := cell_box y2 (.cells #[.int .i64 (fk (a0 * a2)), .int .i64 (tm (a0 * a2)), .string ⟨#[]⟩] 23)
  generalize (W15.alloc (.cells #[.int .i64 (fk (a0 * a2)), .int .i64 (tm (a0 * a2)), .string ⟨#[]⟩] 23)) = W16 at *
  generalize W15.heap.size = pu at *
  have hlt : (a0 + a2 < a1 + a2) = (a0 < a1) := propext (by omega)
  have z1 : a2 = 0 → fits (a0 * a2) = true ∧ fits (a1 * a2) = true ∧ a0 * a2 = 0 ∧ a1 * a2 = 0 ∧ (a2 == 0) = true ∧ (a2 != 0) = false ∧ (a2 < 0) = False ∧ (0 < a2) = False := by rintro rfl; rw [Int.mul_zero, Int.mul_zero]; exact ⟨rfl, rfl, rfl, rfl, rfl, rfl, eq_false (by omega), eq_false (by omega)⟩
  have z2 : a2 < 0 → (a1 * a2 < a0 * a2) = (a0 < a1) ∧ (a2 == 0) = false ∧ (a2 != 0) = true ∧ (a2 < 0) = True ∧ (0 < a2) = False := fun h => ⟨neg_lt h, by simp; omega, by simp; omega, eq_true h, eq_false (by omega)⟩
  have z3 : 0 < a2 → (a0 * a2 < a1 * a2) = (a0 < a1) ∧ (a2 == 0) = false ∧ (a2 != 0) = true ∧ (a2 < 0) = False ∧ (0 < a2) = True := fun h => ⟨pos_lt h, by simp; omega, by simp; omega, eq_false (by omega), eq_true h⟩
  have HL := Lib.hid hlt
  have Z1 := Lib.hid z1
  have Z2 := Lib.hid z2
  have Z3 := Lib.hid z3
  clear z1 z2 z3 hlt
  cases f1 : fits (a0 + a2)
  · skip
    obtain ⟨f1a, f1b, f1c⟩ := fe_not f1
    clear f1
    rcases Int.lt_trichotomy a2 0 with hc | hc | hc
    · cases f3 : fits (a0 * a2)
      · obtain ⟨q0, q1, q2, q3, q4⟩ := Z2.out hc
        clear hc
        obtain ⟨f3a, f3b, f3c⟩ := fe_not f3
        clear f3
        have S4 := Lib.hid (mul_gen I1.out I2.out)
        have Q0 := Lib.hid q0
        clear q0
        go_wp2_with fail
        refine (whole_any a1 _).mono ?_; rintro e W17 ⟨rfl, hb⟩
        replace HB := Lib.hid (below_next HB.out hb)
        replace x0 := cell_keep x0 hb
        replace x1 := cell_keep x1 hb
        replace x2 := cell_keep x2 hb
        replace y0 := cell_keep y0 hb
        replace y1 := cell_keep y1 hb
        replace y2 := cell_keep y2 hb
        replace u0 := cell_keep u0 hb
        replace u1 := cell_keep u1 hb
        replace u2 := cell_keep u2 hb
        clear hb
        go_wp2_with fail
        refine (whole_any a2 _).mono ?_; rintro e W18 ⟨rfl, hb⟩
        replace HB := Lib.hid (below_next HB.out hb)
        replace x0 := cell_keep x0 hb
        replace x1 := cell_keep x1 hb
        replace x2 := cell_keep x2 hb
        replace y0 := cell_keep y0 hb
        replace y1 := cell_keep y1 hb
        replace y2 := cell_keep y2 hb
        replace u0 := cell_keep u0 hb
        replace u1 := cell_keep u1 hb
        replace u2 := cell_keep u2 hb
        clear hb
        go_wp2_with fail
        refine (S4.out _).mono ?_; rintro e W19 ⟨rfl, hb⟩
        replace HB := Lib.hid (below_next HB.out hb)
        replace x0 := cell_keep x0 hb
        replace x1 := cell_keep x1 hb
        replace x2 := cell_keep x2 hb
        replace y0 := cell_keep y0 hb
        replace y1 := cell_keep y1 hb
        replace y2 := cell_keep y2 hb
        replace u0 := cell_keep u0 hb
        replace u1 := cell_keep u1 hb
        replace u2 := cell_keep u2 hb
        clear hb
        have bv0 : (W19.alloc (.cells #[.int .i64 (fk (a1 * a2)), .int .i64 (tm (a1 * a2)), .string ⟨#[]⟩] 23)).cell? ⟨W19.heap.size, 0, none⟩ = some (.int .i64 (fk (a1 * a2))) := by simp [go_sem]
        have bv1 : (W19.alloc (.cells #[.int .i64 (fk (a1 * a2)), .int .i64 (tm (a1 * a2)), .string ⟨#[]⟩] 23)).cell? ⟨W19.heap.size, 1, none⟩ = some (.int .i64 (tm (a1 * a2))) := by simp [go_sem]
        have bv2 : (W19.alloc (.cells #[.int .i64 (fk (a1 * a2)), .int .i64 (tm (a1 * a2)), .string ⟨#[]⟩] 23)).cell? ⟨W19.heap.size, 2, none⟩ = some (.string ⟨#[]⟩) := by simp [go_sem]
        have bx0 := cell_box x0 (.cells #[.int .i64 (fk (a1 * a2)), .int .i64 (tm (a1 * a2)), .string ⟨#[]⟩] 23)
        have bx1 := cell_box x1 (.cells #[.int .i64 (fk (a1 * a2)), .int .i64 (tm (a1 * a2)), .string ⟨#[]⟩] 23)
        have bx2 := cell_box x2 (.cells #[.int .i64 (fk (a1 * a2)), .int .i64 (tm (a1 * a2)), .string ⟨#[]⟩] 23)
        have by0 := cell_box y0 (.cells #[.int .i64 (fk (a1 * a2)), .int .i64 (tm (a1 * a2)), .string ⟨#[]⟩] 23)
        have by1 := cell_box y1 (.cells #[.int .i64 (fk (a1 * a2)), .int .i64 (tm (a1 * a2)), .string ⟨#[]⟩] 23)
        have by2 := cell_box y2 (.cells #[.int .i64 (fk (a1 * a2)), .int .i64 (tm (a1 * a2)), .string ⟨#[]⟩] 23)
        have bu0 := cell_box u0 (.cells #[.int .i64 (fk (a1 * a2)), .int .i64 (tm (a1 * a2)), .string ⟨#[]⟩] 23)
        have bu1 := cell_box u1 (.cells #[.int .i64 (fk (a1 * a2)), .int .i64 (tm (a1 * a2)), .string ⟨#[]⟩] 23)
        have bu2 := cell_box u2 (.cells #[.int .i64 (fk (a1 * a2)), .int .i64 (tm (a1 * a2)), .string ⟨#[]⟩] 23)
        replace HB := Lib.hid (below_box HB.out (.cells #[.int .i64 (fk (a1 * a2)), .int .i64 (tm (a1 * a2)), .string ⟨#[]⟩] 23))
        go_wp2_with fail
        go_quiet (fail)
        go_wp2_with fail
        go_ret
        first
          | exact ⟨ret_bool (by simp), HB.out⟩
          | exact ⟨ret_bool (by simp), below_drewN HB.out _⟩
      · cases f4 : fits (a1 * a2)
        · obtain ⟨q0, q1, q2, q3, q4⟩ := Z2.out hc
          clear hc
          obtain ⟨f3a, f3b, f3c⟩ := fe_fits f3
          clear f3
          have S4 := Lib.hid (mul_over I1.out I2.out f4)
          clear f4
          have Q0 := Lib.hid q0
          clear q0
          go_wp2_with fail
          refine (whole_any a1 _).mono ?_; rintro e W17 ⟨rfl, hb⟩
          replace HB := Lib.hid (below_next HB.out hb)
          replace x0 := cell_keep x0 hb
          replace x1 := cell_keep x1 hb
          replace x2 := cell_keep x2 hb
          replace y0 := cell_keep y0 hb
          replace y1 := cell_keep y1 hb
          replace y2 := cell_keep y2 hb
          replace u0 := cell_keep u0 hb
          replace u1 := cell_keep u1 hb
          replace u2 := cell_keep u2 hb
          clear hb
          go_wp2_with fail
          refine (whole_any a2 _).mono ?_; rintro e W18 ⟨rfl, hb⟩
          replace HB := Lib.hid (below_next HB.out hb)
          replace x0 := cell_keep x0 hb
          replace x1 := cell_keep x1 hb
          replace x2 := cell_keep x2 hb
          replace y0 := cell_keep y0 hb
          replace y1 := cell_keep y1 hb
          replace y2 := cell_keep y2 hb
          replace u0 := cell_keep u0 hb
          replace u1 := cell_keep u1 hb
          replace u2 := cell_keep u2 hb
          clear hb
          go_wp2_with fail
          refine (S4.out _).mono ?_; rintro e W19 ⟨rfl, hb⟩
          replace HB := Lib.hid (below_next HB.out hb)
          replace x0 := cell_keep x0 hb
          replace x1 := cell_keep x1 hb
          replace x2 := cell_keep x2 hb
          replace y0 := cell_keep y0 hb
          replace y1 := cell_keep y1 hb
          replace y2 := cell_keep y2 hb
          replace u0 := cell_keep u0 hb
          replace u1 := cell_keep u1 hb
          replace u2 := cell_keep u2 hb
          clear hb
          have bv0 : (W19.alloc (.cells #[.int .i64 0, .int .i64 0, .string ⟨#[]⟩] 23)).cell? ⟨W19.heap.size, 0, none⟩ = some (.int .i64 0) := by simp [go_sem]
          have bv1 : (W19.alloc (.cells #[.int .i64 0, .int .i64 0, .string ⟨#[]⟩] 23)).cell? ⟨W19.heap.size, 1, none⟩ = some (.int .i64 0) := by simp [go_sem]
          have bv2 : (W19.alloc (.cells #[.int .i64 0, .int .i64 0, .string ⟨#[]⟩] 23)).cell? ⟨W19.heap.size, 2, none⟩ = some (.string ⟨#[]⟩) := by simp [go_sem]
          have bx0 := cell_box x0 (.cells #[.int .i64 0, .int .i64 0, .string ⟨#[]⟩] 23)
          have bx1 := cell_box x1 (.cells #[.int .i64 0, .int .i64 0, .string ⟨#[]⟩] 23)
          have bx2 := cell_box x2 (.cells #[.int .i64 0, .int .i64 0, .string ⟨#[]⟩] 23)
          have by0 := cell_box y0 (.cells #[.int .i64 0, .int .i64 0, .string ⟨#[]⟩] 23)
          have by1 := cell_box y1 (.cells #[.int .i64 0, .int .i64 0, .string ⟨#[]⟩] 23)
          have by2 := cell_box y2 (.cells #[.int .i64 0, .int .i64 0, .string ⟨#[]⟩] 23)
          have bu0 := cell_box u0 (.cells #[.int .i64 0, .int .i64 0, .string ⟨#[]⟩] 23)
          have bu1 := cell_box u1 (.cells #[.int .i64 0, .int .i64 0, .string ⟨#[]⟩] 23)
          have bu2 := cell_box u2 (.cells #[.int .i64 0, .int .i64 0, .string ⟨#[]⟩] 23)
          replace HB := Lib.hid (below_box HB.out (.cells #[.int .i64 0, .int .i64 0, .string ⟨#[]⟩] 23))
          go_wp2_with fail
          go_quiet (fail)
          go_wp2_with fail
          go_ret
          first
            | exact ⟨ret_bool (by simp), HB.out⟩
            | exact ⟨ret_bool (by simp), below_drewN HB.out _⟩
        · obtain ⟨q0, q1, q2, q3, q4⟩ := Z2.out hc
          clear hc
          obtain ⟨f3a, f3b, f3c⟩ := fe_fits f3
          clear f3
          have S4 := Lib.hid (mul_fit I1.out I2.out f4)
          clear f4
          have Q0 := Lib.hid q0
          clear q0
          go_wp2_with fail
          refine (whole_any a1 _).mono ?_; rintro e W17 ⟨rfl, hb⟩
          replace HB := Lib.hid (below_next HB.out hb)
          replace x0 := cell_keep x0 hb
          replace x1 := cell_keep x1 hb
          replace x2 := cell_keep x2 hb
          replace y0 := cell_keep y0 hb
          replace y1 := cell_keep y1 hb
          replace y2 := cell_keep y2 hb
          replace u0 := cell_keep u0 hb
          replace u1 := cell_keep u1 hb
          replace u2 := cell_keep u2 hb
          clear hb
          go_wp2_with fail
          refine (whole_any a2 _).mono ?_; rintro e W18 ⟨rfl, hb⟩
          replace HB := Lib.hid (below_next HB.out hb)
          replace x0 := cell_keep x0 hb
          replace x1 := cell_keep x1 hb
          replace x2 := cell_keep x2 hb
          replace y0 := cell_keep y0 hb
          replace y1 := cell_keep y1 hb
          replace y2 := cell_keep y2 hb
          replace u0 := cell_keep u0 hb
          replace u1 := cell_keep u1 hb
          replace u2 := cell_keep u2 hb
          clear hb
          go_wp2_with fail
          refine (S4.out _).mono ?_; rintro e W19 ⟨rfl, hb⟩
          replace HB := Lib.hid (below_next HB.out hb)
          replace x0 := cell_keep x0 hb
          replace x1 := cell_keep x1 hb
          replace x2 := cell_keep x2 hb
          replace y0 := cell_keep y0 hb
          replace y1 := cell_keep y1 hb
          replace y2 := cell_keep y2 hb
          replace u0 := cell_keep u0 hb
          replace u1 := cell_keep u1 hb
          replace u2 := cell_keep u2 hb
          clear hb
          have bv0 : (W19.alloc (.cells #[.int .i64 1, .int .i64 (a1 * a2), .string ⟨#[]⟩] 23)).cell? ⟨W19.heap.size, 0, none⟩ = some (.int .i64 1) := by simp [go_sem]
          have bv1 : (W19.alloc (.cells #[.int .i64 1, .int .i64 (a1 * a2), .string ⟨#[]⟩] 23)).cell? ⟨W19.heap.size, 1, none⟩ = some (.int .i64 (a1 * a2)) := by simp [go_sem]
          have bv2 : (W19.alloc (.cells #[.int .i64 1, .int .i64 (a1 * a2), .string ⟨#[]⟩] 23)).cell? ⟨W19.heap.size, 2, none⟩ = some (.string ⟨#[]⟩) := by simp [go_sem]
          have bx0 := cell_box x0 (.cells #[.int .i64 1, .int .i64 (a1 * a2), .string ⟨#[]⟩] 23)
          have bx1 := cell_box x1 (.cells #[.int .i64 1, .int .i64 (a1 * a2), .string ⟨#[]⟩] 23)
          have bx2 := cell_box x2 (.cells #[.int .i64 1, .int .i64 (a1 * a2), .string ⟨#[]⟩] 23)
          have by0 := cell_box y0 (.cells #[.int .i64 1, .int .i64 (a1 * a2), .string ⟨#[]⟩] 23)
          have by1 := cell_box y1 (.cells #[.int .i64 1, .int .i64 (a1 * a2), .string ⟨#[]⟩] 23)
          have by2 := cell_box y2 (.cells #[.int .i64 1, .int .i64 (a1 * a2), .string ⟨#[]⟩] 23)
          have bu0 := cell_box u0 (.cells #[.int .i64 1, .int .i64 (a1 * a2), .string ⟨#[]⟩] 23)
          have bu1 := cell_box u1 (.cells #[.int .i64 1, .int .i64 (a1 * a2), .string ⟨#[]⟩] 23)
          have bu2 := cell_box u2 (.cells #[.int .i64 1, .int .i64 (a1 * a2), .string ⟨#[]⟩] 23)
          replace HB := Lib.hid (below_box HB.out (.cells #[.int .i64 1, .int .i64 (a1 * a2), .string ⟨#[]⟩] 23))
          have q0 := Q0.out
          go_wp2_with fail
          refine (hold_lt _ _ _).mono ?_; rintro e W20 ⟨rfl, hb⟩
          replace HB := Lib.hid (below_next HB.out hb)
          replace bx0 := cell_keep bx0 hb
          replace bx1 := cell_keep bx1 hb
          replace bx2 := cell_keep bx2 hb
          replace by0 := cell_keep by0 hb
          replace by1 := cell_keep by1 hb
          replace by2 := cell_keep by2 hb
          replace bu0 := cell_keep bu0 hb
          replace bu1 := cell_keep bu1 hb
          replace bu2 := cell_keep bu2 hb
          replace bv0 := cell_keep bv0 hb
          replace bv1 := cell_keep bv1 hb
          replace bv2 := cell_keep bv2 hb
          clear hb
          go_wp2_with fail
          go_ret
          exact ⟨ret_bool (by simp), HB.out⟩
    · obtain ⟨f3, f4, m3, m4, q1, q2, q3, q4⟩ := Z1.out hc
      clear hc
      obtain ⟨f3a, f3b, f3c⟩ := fe_fits f3
      replace f3c := f3c.trans m3
      have s4 := mul_fit I1.out I2.out f4
      rw [m4] at s4
      have S4 := Lib.hid s4
      clear f3 f4 m3 m4 s4
      go_wp2_with fail
      refine (whole_any a1 _).mono ?_; rintro e W17 ⟨rfl, hb⟩
      replace HB := Lib.hid (below_next HB.out hb)
      replace x0 := cell_keep x0 hb
      replace x1 := cell_keep x1 hb
      replace x2 := cell_keep x2 hb
      replace y0 := cell_keep y0 hb
      replace y1 := cell_keep y1 hb
      replace y2 := cell_keep y2 hb
      replace u0 := cell_keep u0 hb
      replace u1 := cell_keep u1 hb
      replace u2 := cell_keep u2 hb
      clear hb
      go_wp2_with fail
      refine (whole_any a2 _).mono ?_; rintro e W18 ⟨rfl, hb⟩
      replace HB := Lib.hid (below_next HB.out hb)
      replace x0 := cell_keep x0 hb
      replace x1 := cell_keep x1 hb
      replace x2 := cell_keep x2 hb
      replace y0 := cell_keep y0 hb
      replace y1 := cell_keep y1 hb
      replace y2 := cell_keep y2 hb
      replace u0 := cell_keep u0 hb
      replace u1 := cell_keep u1 hb
      replace u2 := cell_keep u2 hb
      clear hb
      go_wp2_with fail
      refine (S4.out _).mono ?_; rintro e W19 ⟨rfl, hb⟩
      replace HB := Lib.hid (below_next HB.out hb)
      replace x0 := cell_keep x0 hb
      replace x1 := cell_keep x1 hb
      replace x2 := cell_keep x2 hb
      replace y0 := cell_keep y0 hb
      replace y1 := cell_keep y1 hb
      replace y2 := cell_keep y2 hb
      replace u0 := cell_keep u0 hb
      replace u1 := cell_keep u1 hb
      replace u2 := cell_keep u2 hb
      clear hb
      have bv0 : (W19.alloc (.cells #[.int .i64 1, .int .i64 0, .string ⟨#[]⟩] 23)).cell? ⟨W19.heap.size, 0, none⟩ = some (.int .i64 1) := by simp [go_sem]
      have bv1 : (W19.alloc (.cells #[.int .i64 1, .int .i64 0, .string ⟨#[]⟩] 23)).cell? ⟨W19.heap.size, 1, none⟩ = some (.int .i64 0) := by simp [go_sem]
      have bv2 : (W19.alloc (.cells #[.int .i64 1, .int .i64 0, .string ⟨#[]⟩] 23)).cell? ⟨W19.heap.size, 2, none⟩ = some (.string ⟨#[]⟩) := by simp [go_sem]
      have bx0 := cell_box x0 (.cells #[.int .i64 1, .int .i64 0, .string ⟨#[]⟩] 23)
      have bx1 := cell_box x1 (.cells #[.int .i64 1, .int .i64 0, .string ⟨#[]⟩] 23)
      have bx2 := cell_box x2 (.cells #[.int .i64 1, .int .i64 0, .string ⟨#[]⟩] 23)
      have by0 := cell_box y0 (.cells #[.int .i64 1, .int .i64 0, .string ⟨#[]⟩] 23)
      have by1 := cell_box y1 (.cells #[.int .i64 1, .int .i64 0, .string ⟨#[]⟩] 23)
      have by2 := cell_box y2 (.cells #[.int .i64 1, .int .i64 0, .string ⟨#[]⟩] 23)
      have bu0 := cell_box u0 (.cells #[.int .i64 1, .int .i64 0, .string ⟨#[]⟩] 23)
      have bu1 := cell_box u1 (.cells #[.int .i64 1, .int .i64 0, .string ⟨#[]⟩] 23)
      have bu2 := cell_box u2 (.cells #[.int .i64 1, .int .i64 0, .string ⟨#[]⟩] 23)
      replace HB := Lib.hid (below_box HB.out (.cells #[.int .i64 1, .int .i64 0, .string ⟨#[]⟩] 23))
      go_wp2_with fail
      have hB := HB.out
      go_region_held3 (fun w' => w'.cell? ⟨pu, 0, none⟩ = some (.int .i64 (fk (a0 * a2))) ∧ w'.cell? ⟨pu, 1, none⟩ = some (.int .i64 (tm (a0 * a2))) ∧ w'.cell? ⟨pu, 2, none⟩ = some (.string ⟨#[]⟩) ∧ w'.cell? ⟨W19.heap.size, 0, none⟩ = some (.int .i64 1) ∧ w'.cell? ⟨W19.heap.size, 1, none⟩ = some (.int .i64 0) ∧ w'.cell? ⟨W19.heap.size, 2, none⟩ = some (.string ⟨#[]⟩) ∧ Below w.heap.size w w') (first | assumption | (go_split_ands; (repeat' apply And.intro); (all_goals first | assumption | exact cell_keep (by assumption) hb | exact below_next (by assumption) hb | exact Below.drew (by assumption)))) (first | (go_at_call 14; refine (whole_any _ _).mono ?_; rintro e w' ⟨rfl, hb⟩))
      all_goals
        go_split_ands
        go_wp2_with fail
        go_ret
        exact ⟨ret_bool (by simp), by assumption⟩
    · cases f3 : fits (a0 * a2)
      · obtain ⟨q0, q1, q2, q3, q4⟩ := Z3.out hc
        clear hc
        obtain ⟨f3a, f3b, f3c⟩ := fe_not f3
        clear f3
        have S4 := Lib.hid (mul_gen I1.out I2.out)
        have Q0 := Lib.hid q0
        clear q0
        go_wp2_with fail
        refine (whole_any a1 _).mono ?_; rintro e W17 ⟨rfl, hb⟩
        replace HB := Lib.hid (below_next HB.out hb)
        replace x0 := cell_keep x0 hb
        replace x1 := cell_keep x1 hb
        replace x2 := cell_keep x2 hb
        replace y0 := cell_keep y0 hb
        replace y1 := cell_keep y1 hb
        replace y2 := cell_keep y2 hb
        replace u0 := cell_keep u0 hb
        replace u1 := cell_keep u1 hb
        replace u2 := cell_keep u2 hb
        clear hb
        go_wp2_with fail
        refine (whole_any a2 _).mono ?_; rintro e W18 ⟨rfl, hb⟩
        replace HB := Lib.hid (below_next HB.out hb)
        replace x0 := cell_keep x0 hb
        replace x1 := cell_keep x1 hb
        replace x2 := cell_keep x2 hb
        replace y0 := cell_keep y0 hb
        replace y1 := cell_keep y1 hb
        replace y2 := cell_keep y2 hb
        replace u0 := cell_keep u0 hb
        replace u1 := cell_keep u1 hb
        replace u2 := cell_keep u2 hb
        clear hb
        go_wp2_with fail
        refine (S4.out _).mono ?_; rintro e W19 ⟨rfl, hb⟩
        replace HB := Lib.hid (below_next HB.out hb)
        replace x0 := cell_keep x0 hb
        replace x1 := cell_keep x1 hb
        replace x2 := cell_keep x2 hb
        replace y0 := cell_keep y0 hb
        replace y1 := cell_keep y1 hb
        replace y2 := cell_keep y2 hb
        replace u0 := cell_keep u0 hb
        replace u1 := cell_keep u1 hb
        replace u2 := cell_keep u2 hb
        clear hb
        have bv0 : (W19.alloc (.cells #[.int .i64 (fk (a1 * a2)), .int .i64 (tm (a1 * a2)), .string ⟨#[]⟩] 23)).cell? ⟨W19.heap.size, 0, none⟩ = some (.int .i64 (fk (a1 * a2))) := by simp [go_sem]
        have bv1 : (W19.alloc (.cells #[.int .i64 (fk (a1 * a2)), .int .i64 (tm (a1 * a2)), .string ⟨#[]⟩] 23)).cell? ⟨W19.heap.size, 1, none⟩ = some (.int .i64 (tm (a1 * a2))) := by simp [go_sem]
        have bv2 : (W19.alloc (.cells #[.int .i64 (fk (a1 * a2)), .int .i64 (tm (a1 * a2)), .string ⟨#[]⟩] 23)).cell? ⟨W19.heap.size, 2, none⟩ = some (.string ⟨#[]⟩) := by simp [go_sem]
        have bx0 := cell_box x0 (.cells #[.int .i64 (fk (a1 * a2)), .int .i64 (tm (a1 * a2)), .string ⟨#[]⟩] 23)
        have bx1 := cell_box x1 (.cells #[.int .i64 (fk (a1 * a2)), .int .i64 (tm (a1 * a2)), .string ⟨#[]⟩] 23)
        have bx2 := cell_box x2 (.cells #[.int .i64 (fk (a1 * a2)), .int .i64 (tm (a1 * a2)), .string ⟨#[]⟩] 23)
        have by0 := cell_box y0 (.cells #[.int .i64 (fk (a1 * a2)), .int .i64 (tm (a1 * a2)), .string ⟨#[]⟩] 23)
        have by1 := cell_box y1 (.cells #[.int .i64 (fk (a1 * a2)), .int .i64 (tm (a1 * a2)), .string ⟨#[]⟩] 23)
        have by2 := cell_box y2 (.cells #[.int .i64 (fk (a1 * a2)), .int .i64 (tm (a1 * a2)), .string ⟨#[]⟩] 23)
        have bu0 := cell_box u0 (.cells #[.int .i64 (fk (a1 * a2)), .int .i64 (tm (a1 * a2)), .string ⟨#[]⟩] 23)
        have bu1 := cell_box u1 (.cells #[.int .i64 (fk (a1 * a2)), .int .i64 (tm (a1 * a2)), .string ⟨#[]⟩] 23)
        have bu2 := cell_box u2 (.cells #[.int .i64 (fk (a1 * a2)), .int .i64 (tm (a1 * a2)), .string ⟨#[]⟩] 23)
        replace HB := Lib.hid (below_box HB.out (.cells #[.int .i64 (fk (a1 * a2)), .int .i64 (tm (a1 * a2)), .string ⟨#[]⟩] 23))
        go_wp2_with fail
        go_quiet (fail)
        go_wp2_with fail
        go_ret
        first
          | exact ⟨ret_bool (by simp), HB.out⟩
          | exact ⟨ret_bool (by simp), below_drewN HB.out _⟩
      · cases f4 : fits (a1 * a2)
        · obtain ⟨q0, q1, q2, q3, q4⟩ := Z3.out hc
          clear hc
          obtain ⟨f3a, f3b, f3c⟩ := fe_fits f3
          clear f3
          have S4 := Lib.hid (mul_over I1.out I2.out f4)
          clear f4
          have Q0 := Lib.hid q0
          clear q0
          go_wp2_with fail
          refine (whole_any a1 _).mono ?_; rintro e W17 ⟨rfl, hb⟩
          replace HB := Lib.hid (below_next HB.out hb)
          replace x0 := cell_keep x0 hb
          replace x1 := cell_keep x1 hb
          replace x2 := cell_keep x2 hb
          replace y0 := cell_keep y0 hb
          replace y1 := cell_keep y1 hb
          replace y2 := cell_keep y2 hb
          replace u0 := cell_keep u0 hb
          replace u1 := cell_keep u1 hb
          replace u2 := cell_keep u2 hb
          clear hb
          go_wp2_with fail
          refine (whole_any a2 _).mono ?_; rintro e W18 ⟨rfl, hb⟩
          replace HB := Lib.hid (below_next HB.out hb)
          replace x0 := cell_keep x0 hb
          replace x1 := cell_keep x1 hb
          replace x2 := cell_keep x2 hb
          replace y0 := cell_keep y0 hb
          replace y1 := cell_keep y1 hb
          replace y2 := cell_keep y2 hb
          replace u0 := cell_keep u0 hb
          replace u1 := cell_keep u1 hb
          replace u2 := cell_keep u2 hb
          clear hb
          go_wp2_with fail
          refine (S4.out _).mono ?_; rintro e W19 ⟨rfl, hb⟩
          replace HB := Lib.hid (below_next HB.out hb)
          replace x0 := cell_keep x0 hb
          replace x1 := cell_keep x1 hb
          replace x2 := cell_keep x2 hb
          replace y0 := cell_keep y0 hb
          replace y1 := cell_keep y1 hb
          replace y2 := cell_keep y2 hb
          replace u0 := cell_keep u0 hb
          replace u1 := cell_keep u1 hb
          replace u2 := cell_keep u2 hb
          clear hb
          have bv0 : (W19.alloc (.cells #[.int .i64 0, .int .i64 0, .string ⟨#[]⟩] 23)).cell? ⟨W19.heap.size, 0, none⟩ = some (.int .i64 0) := by simp [go_sem]
          have bv1 : (W19.alloc (.cells #[.int .i64 0, .int .i64 0, .string ⟨#[]⟩] 23)).cell? ⟨W19.heap.size, 1, none⟩ = some (.int .i64 0) := by simp [go_sem]
          have bv2 : (W19.alloc (.cells #[.int .i64 0, .int .i64 0, .string ⟨#[]⟩] 23)).cell? ⟨W19.heap.size, 2, none⟩ = some (.string ⟨#[]⟩) := by simp [go_sem]
          have bx0 := cell_box x0 (.cells #[.int .i64 0, .int .i64 0, .string ⟨#[]⟩] 23)
          have bx1 := cell_box x1 (.cells #[.int .i64 0, .int .i64 0, .string ⟨#[]⟩] 23)
          have bx2 := cell_box x2 (.cells #[.int .i64 0, .int .i64 0, .string ⟨#[]⟩] 23)
          have by0 := cell_box y0 (.cells #[.int .i64 0, .int .i64 0, .string ⟨#[]⟩] 23)
          have by1 := cell_box y1 (.cells #[.int .i64 0, .int .i64 0, .string ⟨#[]⟩] 23)
          have by2 := cell_box y2 (.cells #[.int .i64 0, .int .i64 0, .string ⟨#[]⟩] 23)
          have bu0 := cell_box u0 (.cells #[.int .i64 0, .int .i64 0, .string ⟨#[]⟩] 23)
          have bu1 := cell_box u1 (.cells #[.int .i64 0, .int .i64 0, .string ⟨#[]⟩] 23)
          have bu2 := cell_box u2 (.cells #[.int .i64 0, .int .i64 0, .string ⟨#[]⟩] 23)
          replace HB := Lib.hid (below_box HB.out (.cells #[.int .i64 0, .int .i64 0, .string ⟨#[]⟩] 23))
          go_wp2_with fail
          go_quiet (fail)
          go_wp2_with fail
          go_ret
          first
            | exact ⟨ret_bool (by simp), HB.out⟩
            | exact ⟨ret_bool (by simp), below_drewN HB.out _⟩
        · obtain ⟨q0, q1, q2, q3, q4⟩ := Z3.out hc
          clear hc
          obtain ⟨f3a, f3b, f3c⟩ := fe_fits f3
          clear f3
          have S4 := Lib.hid (mul_fit I1.out I2.out f4)
          clear f4
          have Q0 := Lib.hid q0
          clear q0
          go_wp2_with fail
          refine (whole_any a1 _).mono ?_; rintro e W17 ⟨rfl, hb⟩
          replace HB := Lib.hid (below_next HB.out hb)
          replace x0 := cell_keep x0 hb
          replace x1 := cell_keep x1 hb
          replace x2 := cell_keep x2 hb
          replace y0 := cell_keep y0 hb
          replace y1 := cell_keep y1 hb
          replace y2 := cell_keep y2 hb
          replace u0 := cell_keep u0 hb
          replace u1 := cell_keep u1 hb
          replace u2 := cell_keep u2 hb
          clear hb
          go_wp2_with fail
          refine (whole_any a2 _).mono ?_; rintro e W18 ⟨rfl, hb⟩
          replace HB := Lib.hid (below_next HB.out hb)
          replace x0 := cell_keep x0 hb
          replace x1 := cell_keep x1 hb
          replace x2 := cell_keep x2 hb
          replace y0 := cell_keep y0 hb
          replace y1 := cell_keep y1 hb
          replace y2 := cell_keep y2 hb
          replace u0 := cell_keep u0 hb
          replace u1 := cell_keep u1 hb
          replace u2 := cell_keep u2 hb
          clear hb
          go_wp2_with fail
          refine (S4.out _).mono ?_; rintro e W19 ⟨rfl, hb⟩
          replace HB := Lib.hid (below_next HB.out hb)
          replace x0 := cell_keep x0 hb
          replace x1 := cell_keep x1 hb
          replace x2 := cell_keep x2 hb
          replace y0 := cell_keep y0 hb
          replace y1 := cell_keep y1 hb
          replace y2 := cell_keep y2 hb
          replace u0 := cell_keep u0 hb
          replace u1 := cell_keep u1 hb
          replace u2 := cell_keep u2 hb
          clear hb
          have bv0 : (W19.alloc (.cells #[.int .i64 1, .int .i64 (a1 * a2), .string ⟨#[]⟩] 23)).cell? ⟨W19.heap.size, 0, none⟩ = some (.int .i64 1) := by simp [go_sem]
          have bv1 : (W19.alloc (.cells #[.int .i64 1, .int .i64 (a1 * a2), .string ⟨#[]⟩] 23)).cell? ⟨W19.heap.size, 1, none⟩ = some (.int .i64 (a1 * a2)) := by simp [go_sem]
          have bv2 : (W19.alloc (.cells #[.int .i64 1, .int .i64 (a1 * a2), .string ⟨#[]⟩] 23)).cell? ⟨W19.heap.size, 2, none⟩ = some (.string ⟨#[]⟩) := by simp [go_sem]
          have bx0 := cell_box x0 (.cells #[.int .i64 1, .int .i64 (a1 * a2), .string ⟨#[]⟩] 23)
          have bx1 := cell_box x1 (.cells #[.int .i64 1, .int .i64 (a1 * a2), .string ⟨#[]⟩] 23)
          have bx2 := cell_box x2 (.cells #[.int .i64 1, .int .i64 (a1 * a2), .string ⟨#[]⟩] 23)
          have by0 := cell_box y0 (.cells #[.int .i64 1, .int .i64 (a1 * a2), .string ⟨#[]⟩] 23)
          have by1 := cell_box y1 (.cells #[.int .i64 1, .int .i64 (a1 * a2), .string ⟨#[]⟩] 23)
          have by2 := cell_box y2 (.cells #[.int .i64 1, .int .i64 (a1 * a2), .string ⟨#[]⟩] 23)
          have bu0 := cell_box u0 (.cells #[.int .i64 1, .int .i64 (a1 * a2), .string ⟨#[]⟩] 23)
          have bu1 := cell_box u1 (.cells #[.int .i64 1, .int .i64 (a1 * a2), .string ⟨#[]⟩] 23)
          have bu2 := cell_box u2 (.cells #[.int .i64 1, .int .i64 (a1 * a2), .string ⟨#[]⟩] 23)
          replace HB := Lib.hid (below_box HB.out (.cells #[.int .i64 1, .int .i64 (a1 * a2), .string ⟨#[]⟩] 23))
          have q0 := Q0.out
          go_wp2_with fail
          refine (hold_lt _ _ _).mono ?_; rintro e W20 ⟨rfl, hb⟩
          replace HB := Lib.hid (below_next HB.out hb)
          replace bx0 := cell_keep bx0 hb
          replace bx1 := cell_keep bx1 hb
          replace bx2 := cell_keep bx2 hb
          replace by0 := cell_keep by0 hb
          replace by1 := cell_keep by1 hb
          replace by2 := cell_keep by2 hb
          replace bu0 := cell_keep bu0 hb
          replace bu1 := cell_keep bu1 hb
          replace bu2 := cell_keep bu2 hb
          replace bv0 := cell_keep bv0 hb
          replace bv1 := cell_keep bv1 hb
          replace bv2 := cell_keep bv2 hb
          clear hb
          go_wp2_with fail
          go_ret
          exact ⟨ret_bool (by simp), HB.out⟩
  · cases f2 : fits (a1 + a2)
    · skip
      obtain ⟨f1a, f1b, f1c⟩ := fe_fits f1
      obtain ⟨f2a, f2b, f2c⟩ := fe_not f2
      clear f1 f2
      rcases Int.lt_trichotomy a2 0 with hc | hc | hc
      · cases f3 : fits (a0 * a2)
        · obtain ⟨q0, q1, q2, q3, q4⟩ := Z2.out hc
          clear hc
          obtain ⟨f3a, f3b, f3c⟩ := fe_not f3
          clear f3
          have S4 := Lib.hid (mul_gen I1.out I2.out)
          have Q0 := Lib.hid q0
          clear q0
          go_wp2_with fail
          refine (whole_any a1 _).mono ?_; rintro e W17 ⟨rfl, hb⟩
          replace HB := Lib.hid (below_next HB.out hb)
          replace x0 := cell_keep x0 hb
          replace x1 := cell_keep x1 hb
          replace x2 := cell_keep x2 hb
          replace y0 := cell_keep y0 hb
          replace y1 := cell_keep y1 hb
          replace y2 := cell_keep y2 hb
          replace u0 := cell_keep u0 hb
          replace u1 := cell_keep u1 hb
          replace u2 := cell_keep u2 hb
          clear hb
          go_wp2_with fail
          refine (whole_any a2 _).mono ?_; rintro e W18 ⟨rfl, hb⟩
          replace HB := Lib.hid (below_next HB.out hb)
          replace x0 := cell_keep x0 hb
          replace x1 := cell_keep x1 hb
          replace x2 := cell_keep x2 hb
          replace y0 := cell_keep y0 hb
          replace y1 := cell_keep y1 hb
          replace y2 := cell_keep y2 hb
          replace u0 := cell_keep u0 hb
          replace u1 := cell_keep u1 hb
          replace u2 := cell_keep u2 hb
          clear hb
          go_wp2_with fail
          refine (S4.out _).mono ?_; rintro e W19 ⟨rfl, hb⟩
          replace HB := Lib.hid (below_next HB.out hb)
          replace x0 := cell_keep x0 hb
          replace x1 := cell_keep x1 hb
          replace x2 := cell_keep x2 hb
          replace y0 := cell_keep y0 hb
          replace y1 := cell_keep y1 hb
          replace y2 := cell_keep y2 hb
          replace u0 := cell_keep u0 hb
          replace u1 := cell_keep u1 hb
          replace u2 := cell_keep u2 hb
          clear hb
          have bv0 : (W19.alloc (.cells #[.int .i64 (fk (a1 * a2)), .int .i64 (tm (a1 * a2)), .string ⟨#[]⟩] 23)).cell? ⟨W19.heap.size, 0, none⟩ = some (.int .i64 (fk (a1 * a2))) := by simp [go_sem]
          have bv1 : (W19.alloc (.cells #[.int .i64 (fk (a1 * a2)), .int .i64 (tm (a1 * a2)), .string ⟨#[]⟩] 23)).cell? ⟨W19.heap.size, 1, none⟩ = some (.int .i64 (tm (a1 * a2))) := by simp [go_sem]
          have bv2 : (W19.alloc (.cells #[.int .i64 (fk (a1 * a2)), .int .i64 (tm (a1 * a2)), .string ⟨#[]⟩] 23)).cell? ⟨W19.heap.size, 2, none⟩ = some (.string ⟨#[]⟩) := by simp [go_sem]
          have bx0 := cell_box x0 (.cells #[.int .i64 (fk (a1 * a2)), .int .i64 (tm (a1 * a2)), .string ⟨#[]⟩] 23)
          have bx1 := cell_box x1 (.cells #[.int .i64 (fk (a1 * a2)), .int .i64 (tm (a1 * a2)), .string ⟨#[]⟩] 23)
          have bx2 := cell_box x2 (.cells #[.int .i64 (fk (a1 * a2)), .int .i64 (tm (a1 * a2)), .string ⟨#[]⟩] 23)
          have by0 := cell_box y0 (.cells #[.int .i64 (fk (a1 * a2)), .int .i64 (tm (a1 * a2)), .string ⟨#[]⟩] 23)
          have by1 := cell_box y1 (.cells #[.int .i64 (fk (a1 * a2)), .int .i64 (tm (a1 * a2)), .string ⟨#[]⟩] 23)
          have by2 := cell_box y2 (.cells #[.int .i64 (fk (a1 * a2)), .int .i64 (tm (a1 * a2)), .string ⟨#[]⟩] 23)
          have bu0 := cell_box u0 (.cells #[.int .i64 (fk (a1 * a2)), .int .i64 (tm (a1 * a2)), .string ⟨#[]⟩] 23)
          have bu1 := cell_box u1 (.cells #[.int .i64 (fk (a1 * a2)), .int .i64 (tm (a1 * a2)), .string ⟨#[]⟩] 23)
          have bu2 := cell_box u2 (.cells #[.int .i64 (fk (a1 * a2)), .int .i64 (tm (a1 * a2)), .string ⟨#[]⟩] 23)
          replace HB := Lib.hid (below_box HB.out (.cells #[.int .i64 (fk (a1 * a2)), .int .i64 (tm (a1 * a2)), .string ⟨#[]⟩] 23))
          go_wp2_with fail
          go_quiet (fail)
          go_wp2_with fail
          go_ret
          first
            | exact ⟨ret_bool (by simp), HB.out⟩
            | exact ⟨ret_bool (by simp), below_drewN HB.out _⟩
        · cases f4 : fits (a1 * a2)
          · obtain ⟨q0, q1, q2, q3, q4⟩ := Z2.out hc
            clear hc
            obtain ⟨f3a, f3b, f3c⟩ := fe_fits f3
            clear f3
            have S4 := Lib.hid (mul_over I1.out I2.out f4)
            clear f4
            have Q0 := Lib.hid q0
            clear q0
            go_wp2_with fail
            refine (whole_any a1 _).mono ?_; rintro e W17 ⟨rfl, hb⟩
            replace HB := Lib.hid (below_next HB.out hb)
            replace x0 := cell_keep x0 hb
            replace x1 := cell_keep x1 hb
            replace x2 := cell_keep x2 hb
            replace y0 := cell_keep y0 hb
            replace y1 := cell_keep y1 hb
            replace y2 := cell_keep y2 hb
            replace u0 := cell_keep u0 hb
            replace u1 := cell_keep u1 hb
            replace u2 := cell_keep u2 hb
            clear hb
            go_wp2_with fail
            refine (whole_any a2 _).mono ?_; rintro e W18 ⟨rfl, hb⟩
            replace HB := Lib.hid (below_next HB.out hb)
            replace x0 := cell_keep x0 hb
            replace x1 := cell_keep x1 hb
            replace x2 := cell_keep x2 hb
            replace y0 := cell_keep y0 hb
            replace y1 := cell_keep y1 hb
            replace y2 := cell_keep y2 hb
            replace u0 := cell_keep u0 hb
            replace u1 := cell_keep u1 hb
            replace u2 := cell_keep u2 hb
            clear hb
            go_wp2_with fail
            refine (S4.out _).mono ?_; rintro e W19 ⟨rfl, hb⟩
            replace HB := Lib.hid (below_next HB.out hb)
            replace x0 := cell_keep x0 hb
            replace x1 := cell_keep x1 hb
            replace x2 := cell_keep x2 hb
            replace y0 := cell_keep y0 hb
            replace y1 := cell_keep y1 hb
            replace y2 := cell_keep y2 hb
            replace u0 := cell_keep u0 hb
            replace u1 := cell_keep u1 hb
            replace u2 := cell_keep u2 hb
            clear hb
            have bv0 : (W19.alloc (.cells #[.int .i64 0, .int .i64 0, .string ⟨#[]⟩] 23)).cell? ⟨W19.heap.size, 0, none⟩ = some (.int .i64 0) := by simp [go_sem]
            have bv1 : (W19.alloc (.cells #[.int .i64 0, .int .i64 0, .string ⟨#[]⟩] 23)).cell? ⟨W19.heap.size, 1, none⟩ = some (.int .i64 0) := by simp [go_sem]
            have bv2 : (W19.alloc (.cells #[.int .i64 0, .int .i64 0, .string ⟨#[]⟩] 23)).cell? ⟨W19.heap.size, 2, none⟩ = some (.string ⟨#[]⟩) := by simp [go_sem]
            have bx0 := cell_box x0 (.cells #[.int .i64 0, .int .i64 0, .string ⟨#[]⟩] 23)
            have bx1 := cell_box x1 (.cells #[.int .i64 0, .int .i64 0, .string ⟨#[]⟩] 23)
            have bx2 := cell_box x2 (.cells #[.int .i64 0, .int .i64 0, .string ⟨#[]⟩] 23)
            have by0 := cell_box y0 (.cells #[.int .i64 0, .int .i64 0, .string ⟨#[]⟩] 23)
            have by1 := cell_box y1 (.cells #[.int .i64 0, .int .i64 0, .string ⟨#[]⟩] 23)
            have by2 := cell_box y2 (.cells #[.int .i64 0, .int .i64 0, .string ⟨#[]⟩] 23)
            have bu0 := cell_box u0 (.cells #[.int .i64 0, .int .i64 0, .string ⟨#[]⟩] 23)
            have bu1 := cell_box u1 (.cells #[.int .i64 0, .int .i64 0, .string ⟨#[]⟩] 23)
            have bu2 := cell_box u2 (.cells #[.int .i64 0, .int .i64 0, .string ⟨#[]⟩] 23)
            replace HB := Lib.hid (below_box HB.out (.cells #[.int .i64 0, .int .i64 0, .string ⟨#[]⟩] 23))
            go_wp2_with fail
            go_quiet (fail)
            go_wp2_with fail
            go_ret
            first
              | exact ⟨ret_bool (by simp), HB.out⟩
              | exact ⟨ret_bool (by simp), below_drewN HB.out _⟩
          · obtain ⟨q0, q1, q2, q3, q4⟩ := Z2.out hc
            clear hc
            obtain ⟨f3a, f3b, f3c⟩ := fe_fits f3
            clear f3
            have S4 := Lib.hid (mul_fit I1.out I2.out f4)
            clear f4
            have Q0 := Lib.hid q0
            clear q0
            go_wp2_with fail
            refine (whole_any a1 _).mono ?_; rintro e W17 ⟨rfl, hb⟩
            replace HB := Lib.hid (below_next HB.out hb)
            replace x0 := cell_keep x0 hb
            replace x1 := cell_keep x1 hb
            replace x2 := cell_keep x2 hb
            replace y0 := cell_keep y0 hb
            replace y1 := cell_keep y1 hb
            replace y2 := cell_keep y2 hb
            replace u0 := cell_keep u0 hb
            replace u1 := cell_keep u1 hb
            replace u2 := cell_keep u2 hb
            clear hb
            go_wp2_with fail
            refine (whole_any a2 _).mono ?_; rintro e W18 ⟨rfl, hb⟩
            replace HB := Lib.hid (below_next HB.out hb)
            replace x0 := cell_keep x0 hb
            replace x1 := cell_keep x1 hb
            replace x2 := cell_keep x2 hb
            replace y0 := cell_keep y0 hb
            replace y1 := cell_keep y1 hb
            replace y2 := cell_keep y2 hb
            replace u0 := cell_keep u0 hb
            replace u1 := cell_keep u1 hb
            replace u2 := cell_keep u2 hb
            clear hb
            go_wp2_with fail
            refine (S4.out _).mono ?_; rintro e W19 ⟨rfl, hb⟩
            replace HB := Lib.hid (below_next HB.out hb)
            replace x0 := cell_keep x0 hb
            replace x1 := cell_keep x1 hb
            replace x2 := cell_keep x2 hb
            replace y0 := cell_keep y0 hb
            replace y1 := cell_keep y1 hb
            replace y2 := cell_keep y2 hb
            replace u0 := cell_keep u0 hb
            replace u1 := cell_keep u1 hb
            replace u2 := cell_keep u2 hb
            clear hb
            have bv0 : (W19.alloc (.cells #[.int .i64 1, .int .i64 (a1 * a2), .string ⟨#[]⟩] 23)).cell? ⟨W19.heap.size, 0, none⟩ = some (.int .i64 1) := by simp [go_sem]
            have bv1 : (W19.alloc (.cells #[.int .i64 1, .int .i64 (a1 * a2), .string ⟨#[]⟩] 23)).cell? ⟨W19.heap.size, 1, none⟩ = some (.int .i64 (a1 * a2)) := by simp [go_sem]
            have bv2 : (W19.alloc (.cells #[.int .i64 1, .int .i64 (a1 * a2), .string ⟨#[]⟩] 23)).cell? ⟨W19.heap.size, 2, none⟩ = some (.string ⟨#[]⟩) := by simp [go_sem]
            have bx0 := cell_box x0 (.cells #[.int .i64 1, .int .i64 (a1 * a2), .string ⟨#[]⟩] 23)
            have bx1 := cell_box x1 (.cells #[.int .i64 1, .int .i64 (a1 * a2), .string ⟨#[]⟩] 23)
            have bx2 := cell_box x2 (.cells #[.int .i64 1, .int .i64 (a1 * a2), .string ⟨#[]⟩] 23)
            have by0 := cell_box y0 (.cells #[.int .i64 1, .int .i64 (a1 * a2), .string ⟨#[]⟩] 23)
            have by1 := cell_box y1 (.cells #[.int .i64 1, .int .i64 (a1 * a2), .string ⟨#[]⟩] 23)
            have by2 := cell_box y2 (.cells #[.int .i64 1, .int .i64 (a1 * a2), .string ⟨#[]⟩] 23)
            have bu0 := cell_box u0 (.cells #[.int .i64 1, .int .i64 (a1 * a2), .string ⟨#[]⟩] 23)
            have bu1 := cell_box u1 (.cells #[.int .i64 1, .int .i64 (a1 * a2), .string ⟨#[]⟩] 23)
            have bu2 := cell_box u2 (.cells #[.int .i64 1, .int .i64 (a1 * a2), .string ⟨#[]⟩] 23)
            replace HB := Lib.hid (below_box HB.out (.cells #[.int .i64 1, .int .i64 (a1 * a2), .string ⟨#[]⟩] 23))
            have q0 := Q0.out
            go_wp2_with fail
            refine (hold_lt _ _ _).mono ?_; rintro e W20 ⟨rfl, hb⟩
            replace HB := Lib.hid (below_next HB.out hb)
            replace bx0 := cell_keep bx0 hb
            replace bx1 := cell_keep bx1 hb
            replace bx2 := cell_keep bx2 hb
            replace by0 := cell_keep by0 hb
            replace by1 := cell_keep by1 hb
            replace by2 := cell_keep by2 hb
            replace bu0 := cell_keep bu0 hb
            replace bu1 := cell_keep bu1 hb
            replace bu2 := cell_keep bu2 hb
            replace bv0 := cell_keep bv0 hb
            replace bv1 := cell_keep bv1 hb
            replace bv2 := cell_keep bv2 hb
            clear hb
            go_wp2_with fail
            go_ret
            exact ⟨ret_bool (by simp), HB.out⟩
      · obtain ⟨f3, f4, m3, m4, q1, q2, q3, q4⟩ := Z1.out hc
        clear hc
        obtain ⟨f3a, f3b, f3c⟩ := fe_fits f3
        replace f3c := f3c.trans m3
        have s4 := mul_fit I1.out I2.out f4
        rw [m4] at s4
        have S4 := Lib.hid s4
        clear f3 f4 m3 m4 s4
        go_wp2_with fail
        refine (whole_any a1 _).mono ?_; rintro e W17 ⟨rfl, hb⟩
        replace HB := Lib.hid (below_next HB.out hb)
        replace x0 := cell_keep x0 hb
        replace x1 := cell_keep x1 hb
        replace x2 := cell_keep x2 hb
        replace y0 := cell_keep y0 hb
        replace y1 := cell_keep y1 hb
        replace y2 := cell_keep y2 hb
        replace u0 := cell_keep u0 hb
        replace u1 := cell_keep u1 hb
        replace u2 := cell_keep u2 hb
        clear hb
        go_wp2_with fail
        refine (whole_any a2 _).mono ?_; rintro e W18 ⟨rfl, hb⟩
        replace HB := Lib.hid (below_next HB.out hb)
        replace x0 := cell_keep x0 hb
        replace x1 := cell_keep x1 hb
        replace x2 := cell_keep x2 hb
        replace y0 := cell_keep y0 hb
        replace y1 := cell_keep y1 hb
        replace y2 := cell_keep y2 hb
        replace u0 := cell_keep u0 hb
        replace u1 := cell_keep u1 hb
        replace u2 := cell_keep u2 hb
        clear hb
        go_wp2_with fail
        refine (S4.out _).mono ?_; rintro e W19 ⟨rfl, hb⟩
        replace HB := Lib.hid (below_next HB.out hb)
        replace x0 := cell_keep x0 hb
        replace x1 := cell_keep x1 hb
        replace x2 := cell_keep x2 hb
        replace y0 := cell_keep y0 hb
        replace y1 := cell_keep y1 hb
        replace y2 := cell_keep y2 hb
        replace u0 := cell_keep u0 hb
        replace u1 := cell_keep u1 hb
        replace u2 := cell_keep u2 hb
        clear hb
        have bv0 : (W19.alloc (.cells #[.int .i64 1, .int .i64 0, .string ⟨#[]⟩] 23)).cell? ⟨W19.heap.size, 0, none⟩ = some (.int .i64 1) := by simp [go_sem]
        have bv1 : (W19.alloc (.cells #[.int .i64 1, .int .i64 0, .string ⟨#[]⟩] 23)).cell? ⟨W19.heap.size, 1, none⟩ = some (.int .i64 0) := by simp [go_sem]
        have bv2 : (W19.alloc (.cells #[.int .i64 1, .int .i64 0, .string ⟨#[]⟩] 23)).cell? ⟨W19.heap.size, 2, none⟩ = some (.string ⟨#[]⟩) := by simp [go_sem]
        have bx0 := cell_box x0 (.cells #[.int .i64 1, .int .i64 0, .string ⟨#[]⟩] 23)
        have bx1 := cell_box x1 (.cells #[.int .i64 1, .int .i64 0, .string ⟨#[]⟩] 23)
        have bx2 := cell_box x2 (.cells #[.int .i64 1, .int .i64 0, .string ⟨#[]⟩] 23)
        have by0 := cell_box y0 (.cells #[.int .i64 1, .int .i64 0, .string ⟨#[]⟩] 23)
        have by1 := cell_box y1 (.cells #[.int .i64 1, .int .i64 0, .string ⟨#[]⟩] 23)
        have by2 := cell_box y2 (.cells #[.int .i64 1, .int .i64 0, .string ⟨#[]⟩] 23)
        have bu0 := cell_box u0 (.cells #[.int .i64 1, .int .i64 0, .string ⟨#[]⟩] 23)
        have bu1 := cell_box u1 (.cells #[.int .i64 1, .int .i64 0, .string ⟨#[]⟩] 23)
        have bu2 := cell_box u2 (.cells #[.int .i64 1, .int .i64 0, .string ⟨#[]⟩] 23)
        replace HB := Lib.hid (below_box HB.out (.cells #[.int .i64 1, .int .i64 0, .string ⟨#[]⟩] 23))
        go_wp2_with fail
        have hB := HB.out
        go_region_held3 (fun w' => w'.cell? ⟨pu, 0, none⟩ = some (.int .i64 (fk (a0 * a2))) ∧ w'.cell? ⟨pu, 1, none⟩ = some (.int .i64 (tm (a0 * a2))) ∧ w'.cell? ⟨pu, 2, none⟩ = some (.string ⟨#[]⟩) ∧ w'.cell? ⟨W19.heap.size, 0, none⟩ = some (.int .i64 1) ∧ w'.cell? ⟨W19.heap.size, 1, none⟩ = some (.int .i64 0) ∧ w'.cell? ⟨W19.heap.size, 2, none⟩ = some (.string ⟨#[]⟩) ∧ Below w.heap.size w w') (first | assumption | (go_split_ands; (repeat' apply And.intro); (all_goals first | assumption | exact cell_keep (by assumption) hb | exact below_next (by assumption) hb | exact Below.drew (by assumption)))) (first | (go_at_call 14; refine (whole_any _ _).mono ?_; rintro e w' ⟨rfl, hb⟩))
        all_goals
          go_split_ands
          go_wp2_with fail
          go_ret
          exact ⟨ret_bool (by simp), by assumption⟩
      · cases f3 : fits (a0 * a2)
        · obtain ⟨q0, q1, q2, q3, q4⟩ := Z3.out hc
          clear hc
          obtain ⟨f3a, f3b, f3c⟩ := fe_not f3
          clear f3
          have S4 := Lib.hid (mul_gen I1.out I2.out)
          have Q0 := Lib.hid q0
          clear q0
          go_wp2_with fail
          refine (whole_any a1 _).mono ?_; rintro e W17 ⟨rfl, hb⟩
          replace HB := Lib.hid (below_next HB.out hb)
          replace x0 := cell_keep x0 hb
          replace x1 := cell_keep x1 hb
          replace x2 := cell_keep x2 hb
          replace y0 := cell_keep y0 hb
          replace y1 := cell_keep y1 hb
          replace y2 := cell_keep y2 hb
          replace u0 := cell_keep u0 hb
          replace u1 := cell_keep u1 hb
          replace u2 := cell_keep u2 hb
          clear hb
          go_wp2_with fail
          refine (whole_any a2 _).mono ?_; rintro e W18 ⟨rfl, hb⟩
          replace HB := Lib.hid (below_next HB.out hb)
          replace x0 := cell_keep x0 hb
          replace x1 := cell_keep x1 hb
          replace x2 := cell_keep x2 hb
          replace y0 := cell_keep y0 hb
          replace y1 := cell_keep y1 hb
          replace y2 := cell_keep y2 hb
          replace u0 := cell_keep u0 hb
          replace u1 := cell_keep u1 hb
          replace u2 := cell_keep u2 hb
          clear hb
          go_wp2_with fail
          refine (S4.out _).mono ?_; rintro e W19 ⟨rfl, hb⟩
          replace HB := Lib.hid (below_next HB.out hb)
          replace x0 := cell_keep x0 hb
          replace x1 := cell_keep x1 hb
          replace x2 := cell_keep x2 hb
          replace y0 := cell_keep y0 hb
          replace y1 := cell_keep y1 hb
          replace y2 := cell_keep y2 hb
          replace u0 := cell_keep u0 hb
          replace u1 := cell_keep u1 hb
          replace u2 := cell_keep u2 hb
          clear hb
          have bv0 : (W19.alloc (.cells #[.int .i64 (fk (a1 * a2)), .int .i64 (tm (a1 * a2)), .string ⟨#[]⟩] 23)).cell? ⟨W19.heap.size, 0, none⟩ = some (.int .i64 (fk (a1 * a2))) := by simp [go_sem]
          have bv1 : (W19.alloc (.cells #[.int .i64 (fk (a1 * a2)), .int .i64 (tm (a1 * a2)), .string ⟨#[]⟩] 23)).cell? ⟨W19.heap.size, 1, none⟩ = some (.int .i64 (tm (a1 * a2))) := by simp [go_sem]
          have bv2 : (W19.alloc (.cells #[.int .i64 (fk (a1 * a2)), .int .i64 (tm (a1 * a2)), .string ⟨#[]⟩] 23)).cell? ⟨W19.heap.size, 2, none⟩ = some (.string ⟨#[]⟩) := by simp [go_sem]
          have bx0 := cell_box x0 (.cells #[.int .i64 (fk (a1 * a2)), .int .i64 (tm (a1 * a2)), .string ⟨#[]⟩] 23)
          have bx1 := cell_box x1 (.cells #[.int .i64 (fk (a1 * a2)), .int .i64 (tm (a1 * a2)), .string ⟨#[]⟩] 23)
          have bx2 := cell_box x2 (.cells #[.int .i64 (fk (a1 * a2)), .int .i64 (tm (a1 * a2)), .string ⟨#[]⟩] 23)
          have by0 := cell_box y0 (.cells #[.int .i64 (fk (a1 * a2)), .int .i64 (tm (a1 * a2)), .string ⟨#[]⟩] 23)
          have by1 := cell_box y1 (.cells #[.int .i64 (fk (a1 * a2)), .int .i64 (tm (a1 * a2)), .string ⟨#[]⟩] 23)
          have by2 := cell_box y2 (.cells #[.int .i64 (fk (a1 * a2)), .int .i64 (tm (a1 * a2)), .string ⟨#[]⟩] 23)
          have bu0 := cell_box u0 (.cells #[.int .i64 (fk (a1 * a2)), .int .i64 (tm (a1 * a2)), .string ⟨#[]⟩] 23)
          have bu1 := cell_box u1 (.cells #[.int .i64 (fk (a1 * a2)), .int .i64 (tm (a1 * a2)), .string ⟨#[]⟩] 23)
          have bu2 := cell_box u2 (.cells #[.int .i64 (fk (a1 * a2)), .int .i64 (tm (a1 * a2)), .string ⟨#[]⟩] 23)
          replace HB := Lib.hid (below_box HB.out (.cells #[.int .i64 (fk (a1 * a2)), .int .i64 (tm (a1 * a2)), .string ⟨#[]⟩] 23))
          go_wp2_with fail
          go_quiet (fail)
          go_wp2_with fail
          go_ret
          first
            | exact ⟨ret_bool (by simp), HB.out⟩
            | exact ⟨ret_bool (by simp), below_drewN HB.out _⟩
        · cases f4 : fits (a1 * a2)
          · obtain ⟨q0, q1, q2, q3, q4⟩ := Z3.out hc
            clear hc
            obtain ⟨f3a, f3b, f3c⟩ := fe_fits f3
            clear f3
            have S4 := Lib.hid (mul_over I1.out I2.out f4)
            clear f4
            have Q0 := Lib.hid q0
            clear q0
            go_wp2_with fail
            refine (whole_any a1 _).mono ?_; rintro e W17 ⟨rfl, hb⟩
            replace HB := Lib.hid (below_next HB.out hb)
            replace x0 := cell_keep x0 hb
            replace x1 := cell_keep x1 hb
            replace x2 := cell_keep x2 hb
            replace y0 := cell_keep y0 hb
            replace y1 := cell_keep y1 hb
            replace y2 := cell_keep y2 hb
            replace u0 := cell_keep u0 hb
            replace u1 := cell_keep u1 hb
            replace u2 := cell_keep u2 hb
            clear hb
            go_wp2_with fail
            refine (whole_any a2 _).mono ?_; rintro e W18 ⟨rfl, hb⟩
            replace HB := Lib.hid (below_next HB.out hb)
            replace x0 := cell_keep x0 hb
            replace x1 := cell_keep x1 hb
            replace x2 := cell_keep x2 hb
            replace y0 := cell_keep y0 hb
            replace y1 := cell_keep y1 hb
            replace y2 := cell_keep y2 hb
            replace u0 := cell_keep u0 hb
            replace u1 := cell_keep u1 hb
            replace u2 := cell_keep u2 hb
            clear hb
            go_wp2_with fail
            refine (S4.out _).mono ?_; rintro e W19 ⟨rfl, hb⟩
            replace HB := Lib.hid (below_next HB.out hb)
            replace x0 := cell_keep x0 hb
            replace x1 := cell_keep x1 hb
            replace x2 := cell_keep x2 hb
            replace y0 := cell_keep y0 hb
            replace y1 := cell_keep y1 hb
            replace y2 := cell_keep y2 hb
            replace u0 := cell_keep u0 hb
            replace u1 := cell_keep u1 hb
            replace u2 := cell_keep u2 hb
            clear hb
            have bv0 : (W19.alloc (.cells #[.int .i64 0, .int .i64 0, .string ⟨#[]⟩] 23)).cell? ⟨W19.heap.size, 0, none⟩ = some (.int .i64 0) := by simp [go_sem]
            have bv1 : (W19.alloc (.cells #[.int .i64 0, .int .i64 0, .string ⟨#[]⟩] 23)).cell? ⟨W19.heap.size, 1, none⟩ = some (.int .i64 0) := by simp [go_sem]
            have bv2 : (W19.alloc (.cells #[.int .i64 0, .int .i64 0, .string ⟨#[]⟩] 23)).cell? ⟨W19.heap.size, 2, none⟩ = some (.string ⟨#[]⟩) := by simp [go_sem]
            have bx0 := cell_box x0 (.cells #[.int .i64 0, .int .i64 0, .string ⟨#[]⟩] 23)
            have bx1 := cell_box x1 (.cells #[.int .i64 0, .int .i64 0, .string ⟨#[]⟩] 23)
            have bx2 := cell_box x2 (.cells #[.int .i64 0, .int .i64 0, .string ⟨#[]⟩] 23)
            have by0 := cell_box y0 (.cells #[.int .i64 0, .int .i64 0, .string ⟨#[]⟩] 23)
            have by1 := cell_box y1 (.cells #[.int .i64 0, .int .i64 0, .string ⟨#[]⟩] 23)
            have by2 := cell_box y2 (.cells #[.int .i64 0, .int .i64 0, .string ⟨#[]⟩] 23)
            have bu0 := cell_box u0 (.cells #[.int .i64 0, .int .i64 0, .string ⟨#[]⟩] 23)
            have bu1 := cell_box u1 (.cells #[.int .i64 0, .int .i64 0, .string ⟨#[]⟩] 23)
            have bu2 := cell_box u2 (.cells #[.int .i64 0, .int .i64 0, .string ⟨#[]⟩] 23)
            replace HB := Lib.hid (below_box HB.out (.cells #[.int .i64 0, .int .i64 0, .string ⟨#[]⟩] 23))
            go_wp2_with fail
            go_quiet (fail)
            go_wp2_with fail
            go_ret
            first
              | exact ⟨ret_bool (by simp), HB.out⟩
              | exact ⟨ret_bool (by simp), below_drewN HB.out _⟩
          · obtain ⟨q0, q1, q2, q3, q4⟩ := Z3.out hc
            clear hc
            obtain ⟨f3a, f3b, f3c⟩ := fe_fits f3
            clear f3
            have S4 := Lib.hid (mul_fit I1.out I2.out f4)
            clear f4
            have Q0 := Lib.hid q0
            clear q0
            go_wp2_with fail
            refine (whole_any a1 _).mono ?_; rintro e W17 ⟨rfl, hb⟩
            replace HB := Lib.hid (below_next HB.out hb)
            replace x0 := cell_keep x0 hb
            replace x1 := cell_keep x1 hb
            replace x2 := cell_keep x2 hb
            replace y0 := cell_keep y0 hb
            replace y1 := cell_keep y1 hb
            replace y2 := cell_keep y2 hb
            replace u0 := cell_keep u0 hb
            replace u1 := cell_keep u1 hb
            replace u2 := cell_keep u2 hb
            clear hb
            go_wp2_with fail
            refine (whole_any a2 _).mono ?_; rintro e W18 ⟨rfl, hb⟩
            replace HB := Lib.hid (below_next HB.out hb)
            replace x0 := cell_keep x0 hb
            replace x1 := cell_keep x1 hb
            replace x2 := cell_keep x2 hb
            replace y0 := cell_keep y0 hb
            replace y1 := cell_keep y1 hb
            replace y2 := cell_keep y2 hb
            replace u0 := cell_keep u0 hb
            replace u1 := cell_keep u1 hb
            replace u2 := cell_keep u2 hb
            clear hb
            go_wp2_with fail
            refine (S4.out _).mono ?_; rintro e W19 ⟨rfl, hb⟩
            replace HB := Lib.hid (below_next HB.out hb)
            replace x0 := cell_keep x0 hb
            replace x1 := cell_keep x1 hb
            replace x2 := cell_keep x2 hb
            replace y0 := cell_keep y0 hb
            replace y1 := cell_keep y1 hb
            replace y2 := cell_keep y2 hb
            replace u0 := cell_keep u0 hb
            replace u1 := cell_keep u1 hb
            replace u2 := cell_keep u2 hb
            clear hb
            have bv0 : (W19.alloc (.cells #[.int .i64 1, .int .i64 (a1 * a2), .string ⟨#[]⟩] 23)).cell? ⟨W19.heap.size, 0, none⟩ = some (.int .i64 1) := by simp [go_sem]
            have bv1 : (W19.alloc (.cells #[.int .i64 1, .int .i64 (a1 * a2), .string ⟨#[]⟩] 23)).cell? ⟨W19.heap.size, 1, none⟩ = some (.int .i64 (a1 * a2)) := by simp [go_sem]
            have bv2 : (W19.alloc (.cells #[.int .i64 1, .int .i64 (a1 * a2), .string ⟨#[]⟩] 23)).cell? ⟨W19.heap.size, 2, none⟩ = some (.string ⟨#[]⟩) := by simp [go_sem]
            have bx0 := cell_box x0 (.cells #[.int .i64 1, .int .i64 (a1 * a2), .string ⟨#[]⟩] 23)
            have bx1 := cell_box x1 (.cells #[.int .i64 1, .int .i64 (a1 * a2), .string ⟨#[]⟩] 23)
            have bx2 := cell_box x2 (.cells #[.int .i64 1, .int .i64 (a1 * a2), .string ⟨#[]⟩] 23)
            have by0 := cell_box y0 (.cells #[.int .i64 1, .int .i64 (a1 * a2), .string ⟨#[]⟩] 23)
            have by1 := cell_box y1 (.cells #[.int .i64 1, .int .i64 (a1 * a2), .string ⟨#[]⟩] 23)
            have by2 := cell_box y2 (.cells #[.int .i64 1, .int .i64 (a1 * a2), .string ⟨#[]⟩] 23)
            have bu0 := cell_box u0 (.cells #[.int .i64 1, .int .i64 (a1 * a2), .string ⟨#[]⟩] 23)
            have bu1 := cell_box u1 (.cells #[.int .i64 1, .int .i64 (a1 * a2), .string ⟨#[]⟩] 23)
            have bu2 := cell_box u2 (.cells #[.int .i64 1, .int .i64 (a1 * a2), .string ⟨#[]⟩] 23)
            replace HB := Lib.hid (below_box HB.out (.cells #[.int .i64 1, .int .i64 (a1 * a2), .string ⟨#[]⟩] 23))
            have q0 := Q0.out
            go_wp2_with fail
            refine (hold_lt _ _ _).mono ?_; rintro e W20 ⟨rfl, hb⟩
            replace HB := Lib.hid (below_next HB.out hb)
            replace bx0 := cell_keep bx0 hb
            replace bx1 := cell_keep bx1 hb
            replace bx2 := cell_keep bx2 hb
            replace by0 := cell_keep by0 hb
            replace by1 := cell_keep by1 hb
            replace by2 := cell_keep by2 hb
            replace bu0 := cell_keep bu0 hb
            replace bu1 := cell_keep bu1 hb
            replace bu2 := cell_keep bu2 hb
            replace bv0 := cell_keep bv0 hb
            replace bv1 := cell_keep bv1 hb
            replace bv2 := cell_keep bv2 hb
            clear hb
            go_wp2_with fail
            go_ret
            exact ⟨ret_bool (by simp), HB.out⟩
    · skip
      obtain ⟨f1a, f1b, f1c⟩ := fe_fits f1
      obtain ⟨f2a, f2b, f2c⟩ := fe_fits f2
      clear f1 f2
      rcases Int.lt_trichotomy a2 0 with hc | hc | hc
      · cases f3 : fits (a0 * a2)
        · obtain ⟨q0, q1, q2, q3, q4⟩ := Z2.out hc
          clear hc
          obtain ⟨f3a, f3b, f3c⟩ := fe_not f3
          clear f3
          have S4 := Lib.hid (mul_gen I1.out I2.out)
          have Q0 := Lib.hid q0
          clear q0
          go_wp2_with fail
          refine (whole_any a1 _).mono ?_; rintro e W17 ⟨rfl, hb⟩
          replace HB := Lib.hid (below_next HB.out hb)
          replace x0 := cell_keep x0 hb
          replace x1 := cell_keep x1 hb
          replace x2 := cell_keep x2 hb
          replace y0 := cell_keep y0 hb
          replace y1 := cell_keep y1 hb
          replace y2 := cell_keep y2 hb
          replace u0 := cell_keep u0 hb
          replace u1 := cell_keep u1 hb
          replace u2 := cell_keep u2 hb
          clear hb
          go_wp2_with fail
          refine (whole_any a2 _).mono ?_; rintro e W18 ⟨rfl, hb⟩
          replace HB := Lib.hid (below_next HB.out hb)
          replace x0 := cell_keep x0 hb
          replace x1 := cell_keep x1 hb
          replace x2 := cell_keep x2 hb
          replace y0 := cell_keep y0 hb
          replace y1 := cell_keep y1 hb
          replace y2 := cell_keep y2 hb
          replace u0 := cell_keep u0 hb
          replace u1 := cell_keep u1 hb
          replace u2 := cell_keep u2 hb
          clear hb
          go_wp2_with fail
          refine (S4.out _).mono ?_; rintro e W19 ⟨rfl, hb⟩
          replace HB := Lib.hid (below_next HB.out hb)
          replace x0 := cell_keep x0 hb
          replace x1 := cell_keep x1 hb
          replace x2 := cell_keep x2 hb
          replace y0 := cell_keep y0 hb
          replace y1 := cell_keep y1 hb
          replace y2 := cell_keep y2 hb
          replace u0 := cell_keep u0 hb
          replace u1 := cell_keep u1 hb
          replace u2 := cell_keep u2 hb
          clear hb
          have bv0 : (W19.alloc (.cells #[.int .i64 (fk (a1 * a2)), .int .i64 (tm (a1 * a2)), .string ⟨#[]⟩] 23)).cell? ⟨W19.heap.size, 0, none⟩ = some (.int .i64 (fk (a1 * a2))) := by simp [go_sem]
          have bv1 : (W19.alloc (.cells #[.int .i64 (fk (a1 * a2)), .int .i64 (tm (a1 * a2)), .string ⟨#[]⟩] 23)).cell? ⟨W19.heap.size, 1, none⟩ = some (.int .i64 (tm (a1 * a2))) := by simp [go_sem]
          have bv2 : (W19.alloc (.cells #[.int .i64 (fk (a1 * a2)), .int .i64 (tm (a1 * a2)), .string ⟨#[]⟩] 23)).cell? ⟨W19.heap.size, 2, none⟩ = some (.string ⟨#[]⟩) := by simp [go_sem]
          have bx0 := cell_box x0 (.cells #[.int .i64 (fk (a1 * a2)), .int .i64 (tm (a1 * a2)), .string ⟨#[]⟩] 23)
          have bx1 := cell_box x1 (.cells #[.int .i64 (fk (a1 * a2)), .int .i64 (tm (a1 * a2)), .string ⟨#[]⟩] 23)
          have bx2 := cell_box x2 (.cells #[.int .i64 (fk (a1 * a2)), .int .i64 (tm (a1 * a2)), .string ⟨#[]⟩] 23)
          have by0 := cell_box y0 (.cells #[.int .i64 (fk (a1 * a2)), .int .i64 (tm (a1 * a2)), .string ⟨#[]⟩] 23)
          have by1 := cell_box y1 (.cells #[.int .i64 (fk (a1 * a2)), .int .i64 (tm (a1 * a2)), .string ⟨#[]⟩] 23)
          have by2 := cell_box y2 (.cells #[.int .i64 (fk (a1 * a2)), .int .i64 (tm (a1 * a2)), .string ⟨#[]⟩] 23)
          have bu0 := cell_box u0 (.cells #[.int .i64 (fk (a1 * a2)), .int .i64 (tm (a1 * a2)), .string ⟨#[]⟩] 23)
          have bu1 := cell_box u1 (.cells #[.int .i64 (fk (a1 * a2)), .int .i64 (tm (a1 * a2)), .string ⟨#[]⟩] 23)
          have bu2 := cell_box u2 (.cells #[.int .i64 (fk (a1 * a2)), .int .i64 (tm (a1 * a2)), .string ⟨#[]⟩] 23)
          replace HB := Lib.hid (below_box HB.out (.cells #[.int .i64 (fk (a1 * a2)), .int .i64 (tm (a1 * a2)), .string ⟨#[]⟩] 23))
          have hlt := HL.out
          go_wp2_with fail
          refine (hold_lt _ _ _).mono ?_; rintro e W20 ⟨rfl, hb⟩
          replace HB := Lib.hid (below_next HB.out hb)
          replace bx0 := cell_keep bx0 hb
          replace bx1 := cell_keep bx1 hb
          replace bx2 := cell_keep bx2 hb
          replace by0 := cell_keep by0 hb
          replace by1 := cell_keep by1 hb
          replace by2 := cell_keep by2 hb
          replace bu0 := cell_keep bu0 hb
          replace bu1 := cell_keep bu1 hb
          replace bu2 := cell_keep bu2 hb
          replace bv0 := cell_keep bv0 hb
          replace bv1 := cell_keep bv1 hb
          replace bv2 := cell_keep bv2 hb
          clear hb
          go_wp2_with fail
          go_quiet (fail)
          go_wp2_with fail
          go_ret
          first
            | exact ⟨ret_bool (by simp), HB.out⟩
            | exact ⟨ret_bool (by simp), below_drewN HB.out _⟩
        · cases f4 : fits (a1 * a2)
          · obtain ⟨q0, q1, q2, q3, q4⟩ := Z2.out hc
            clear hc
            obtain ⟨f3a, f3b, f3c⟩ := fe_fits f3
            clear f3
            have S4 := Lib.hid (mul_over I1.out I2.out f4)
            clear f4
            have Q0 := Lib.hid q0
            clear q0
            go_wp2_with fail
            refine (whole_any a1 _).mono ?_; rintro e W17 ⟨rfl, hb⟩
            replace HB := Lib.hid (below_next HB.out hb)
            replace x0 := cell_keep x0 hb
            replace x1 := cell_keep x1 hb
            replace x2 := cell_keep x2 hb
            replace y0 := cell_keep y0 hb
            replace y1 := cell_keep y1 hb
            replace y2 := cell_keep y2 hb
            replace u0 := cell_keep u0 hb
            replace u1 := cell_keep u1 hb
            replace u2 := cell_keep u2 hb
            clear hb
            go_wp2_with fail
            refine (whole_any a2 _).mono ?_; rintro e W18 ⟨rfl, hb⟩
            replace HB := Lib.hid (below_next HB.out hb)
            replace x0 := cell_keep x0 hb
            replace x1 := cell_keep x1 hb
            replace x2 := cell_keep x2 hb
            replace y0 := cell_keep y0 hb
            replace y1 := cell_keep y1 hb
            replace y2 := cell_keep y2 hb
            replace u0 := cell_keep u0 hb
            replace u1 := cell_keep u1 hb
            replace u2 := cell_keep u2 hb
            clear hb
            go_wp2_with fail
            refine (S4.out _).mono ?_; rintro e W19 ⟨rfl, hb⟩
            replace HB := Lib.hid (below_next HB.out hb)
            replace x0 := cell_keep x0 hb
            replace x1 := cell_keep x1 hb
            replace x2 := cell_keep x2 hb
            replace y0 := cell_keep y0 hb
            replace y1 := cell_keep y1 hb
            replace y2 := cell_keep y2 hb
            replace u0 := cell_keep u0 hb
            replace u1 := cell_keep u1 hb
            replace u2 := cell_keep u2 hb
            clear hb
            have bv0 : (W19.alloc (.cells #[.int .i64 0, .int .i64 0, .string ⟨#[]⟩] 23)).cell? ⟨W19.heap.size, 0, none⟩ = some (.int .i64 0) := by simp [go_sem]
            have bv1 : (W19.alloc (.cells #[.int .i64 0, .int .i64 0, .string ⟨#[]⟩] 23)).cell? ⟨W19.heap.size, 1, none⟩ = some (.int .i64 0) := by simp [go_sem]
            have bv2 : (W19.alloc (.cells #[.int .i64 0, .int .i64 0, .string ⟨#[]⟩] 23)).cell? ⟨W19.heap.size, 2, none⟩ = some (.string ⟨#[]⟩) := by simp [go_sem]
            have bx0 := cell_box x0 (.cells #[.int .i64 0, .int .i64 0, .string ⟨#[]⟩] 23)
            have bx1 := cell_box x1 (.cells #[.int .i64 0, .int .i64 0, .string ⟨#[]⟩] 23)
            have bx2 := cell_box x2 (.cells #[.int .i64 0, .int .i64 0, .string ⟨#[]⟩] 23)
            have by0 := cell_box y0 (.cells #[.int .i64 0, .int .i64 0, .string ⟨#[]⟩] 23)
            have by1 := cell_box y1 (.cells #[.int .i64 0, .int .i64 0, .string ⟨#[]⟩] 23)
            have by2 := cell_box y2 (.cells #[.int .i64 0, .int .i64 0, .string ⟨#[]⟩] 23)
            have bu0 := cell_box u0 (.cells #[.int .i64 0, .int .i64 0, .string ⟨#[]⟩] 23)
            have bu1 := cell_box u1 (.cells #[.int .i64 0, .int .i64 0, .string ⟨#[]⟩] 23)
            have bu2 := cell_box u2 (.cells #[.int .i64 0, .int .i64 0, .string ⟨#[]⟩] 23)
            replace HB := Lib.hid (below_box HB.out (.cells #[.int .i64 0, .int .i64 0, .string ⟨#[]⟩] 23))
            have hlt := HL.out
            go_wp2_with fail
            refine (hold_lt _ _ _).mono ?_; rintro e W20 ⟨rfl, hb⟩
            replace HB := Lib.hid (below_next HB.out hb)
            replace bx0 := cell_keep bx0 hb
            replace bx1 := cell_keep bx1 hb
            replace bx2 := cell_keep bx2 hb
            replace by0 := cell_keep by0 hb
            replace by1 := cell_keep by1 hb
            replace by2 := cell_keep by2 hb
            replace bu0 := cell_keep bu0 hb
            replace bu1 := cell_keep bu1 hb
            replace bu2 := cell_keep bu2 hb
            replace bv0 := cell_keep bv0 hb
            replace bv1 := cell_keep bv1 hb
            replace bv2 := cell_keep bv2 hb
            clear hb
            go_wp2_with fail
            go_quiet (fail)
            go_wp2_with fail
            go_ret
            first
              | exact ⟨ret_bool (by simp), HB.out⟩
              | exact ⟨ret_bool (by simp), below_drewN HB.out _⟩
          · obtain ⟨q0, q1, q2, q3, q4⟩ := Z2.out hc
            clear hc
            obtain ⟨f3a, f3b, f3c⟩ := fe_fits f3
            clear f3
            have S4 := Lib.hid (mul_fit I1.out I2.out f4)
            clear f4
            have Q0 := Lib.hid q0
            clear q0
            go_wp2_with fail
            refine (whole_any a1 _).mono ?_; rintro e W17 ⟨rfl, hb⟩
            replace HB := Lib.hid (below_next HB.out hb)
            replace x0 := cell_keep x0 hb
            replace x1 := cell_keep x1 hb
            replace x2 := cell_keep x2 hb
            replace y0 := cell_keep y0 hb
            replace y1 := cell_keep y1 hb
            replace y2 := cell_keep y2 hb
            replace u0 := cell_keep u0 hb
            replace u1 := cell_keep u1 hb
            replace u2 := cell_keep u2 hb
            clear hb
            go_wp2_with fail
            refine (whole_any a2 _).mono ?_; rintro e W18 ⟨rfl, hb⟩
            replace HB := Lib.hid (below_next HB.out hb)
            replace x0 := cell_keep x0 hb
            replace x1 := cell_keep x1 hb
            replace x2 := cell_keep x2 hb
            replace y0 := cell_keep y0 hb
            replace y1 := cell_keep y1 hb
            replace y2 := cell_keep y2 hb
            replace u0 := cell_keep u0 hb
            replace u1 := cell_keep u1 hb
            replace u2 := cell_keep u2 hb
            clear hb
            go_wp2_with fail
            refine (S4.out _).mono ?_; rintro e W19 ⟨rfl, hb⟩
            replace HB := Lib.hid (below_next HB.out hb)
            replace x0 := cell_keep x0 hb
            replace x1 := cell_keep x1 hb
            replace x2 := cell_keep x2 hb
            replace y0 := cell_keep y0 hb
            replace y1 := cell_keep y1 hb
            replace y2 := cell_keep y2 hb
            replace u0 := cell_keep u0 hb
            replace u1 := cell_keep u1 hb
            replace u2 := cell_keep u2 hb
            clear hb
            have bv0 : (W19.alloc (.cells #[.int .i64 1, .int .i64 (a1 * a2), .string ⟨#[]⟩] 23)).cell? ⟨W19.heap.size, 0, none⟩ = some (.int .i64 1) := by simp [go_sem]
            have bv1 : (W19.alloc (.cells #[.int .i64 1, .int .i64 (a1 * a2), .string ⟨#[]⟩] 23)).cell? ⟨W19.heap.size, 1, none⟩ = some (.int .i64 (a1 * a2)) := by simp [go_sem]
            have bv2 : (W19.alloc (.cells #[.int .i64 1, .int .i64 (a1 * a2), .string ⟨#[]⟩] 23)).cell? ⟨W19.heap.size, 2, none⟩ = some (.string ⟨#[]⟩) := by simp [go_sem]
            have bx0 := cell_box x0 (.cells #[.int .i64 1, .int .i64 (a1 * a2), .string ⟨#[]⟩] 23)
            have bx1 := cell_box x1 (.cells #[.int .i64 1, .int .i64 (a1 * a2), .string ⟨#[]⟩] 23)
            have bx2 := cell_box x2 (.cells #[.int .i64 1, .int .i64 (a1 * a2), .string ⟨#[]⟩] 23)
            have by0 := cell_box y0 (.cells #[.int .i64 1, .int .i64 (a1 * a2), .string ⟨#[]⟩] 23)
            have by1 := cell_box y1 (.cells #[.int .i64 1, .int .i64 (a1 * a2), .string ⟨#[]⟩] 23)
            have by2 := cell_box y2 (.cells #[.int .i64 1, .int .i64 (a1 * a2), .string ⟨#[]⟩] 23)
            have bu0 := cell_box u0 (.cells #[.int .i64 1, .int .i64 (a1 * a2), .string ⟨#[]⟩] 23)
            have bu1 := cell_box u1 (.cells #[.int .i64 1, .int .i64 (a1 * a2), .string ⟨#[]⟩] 23)
            have bu2 := cell_box u2 (.cells #[.int .i64 1, .int .i64 (a1 * a2), .string ⟨#[]⟩] 23)
            replace HB := Lib.hid (below_box HB.out (.cells #[.int .i64 1, .int .i64 (a1 * a2), .string ⟨#[]⟩] 23))
            have hlt := HL.out
            go_wp2_with fail
            refine (hold_lt _ _ _).mono ?_; rintro e W20 ⟨rfl, hb⟩
            replace HB := Lib.hid (below_next HB.out hb)
            replace bx0 := cell_keep bx0 hb
            replace bx1 := cell_keep bx1 hb
            replace bx2 := cell_keep bx2 hb
            replace by0 := cell_keep by0 hb
            replace by1 := cell_keep by1 hb
            replace by2 := cell_keep by2 hb
            replace bu0 := cell_keep bu0 hb
            replace bu1 := cell_keep bu1 hb
            replace bu2 := cell_keep bu2 hb
            replace bv0 := cell_keep bv0 hb
            replace bv1 := cell_keep bv1 hb
            replace bv2 := cell_keep bv2 hb
            clear hb
            have q0 := Q0.out
            go_wp2_with fail
            refine (hold_lt _ _ _).mono ?_; rintro e W21 ⟨rfl, hb⟩
            replace HB := Lib.hid (below_next HB.out hb)
            replace bx0 := cell_keep bx0 hb
            replace bx1 := cell_keep bx1 hb
            replace bx2 := cell_keep bx2 hb
            replace by0 := cell_keep by0 hb
            replace by1 := cell_keep by1 hb
            replace by2 := cell_keep by2 hb
            replace bu0 := cell_keep bu0 hb
            replace bu1 := cell_keep bu1 hb
            replace bu2 := cell_keep bu2 hb
            replace bv0 := cell_keep bv0 hb
            replace bv1 := cell_keep bv1 hb
            replace bv2 := cell_keep bv2 hb
            clear hb
            go_wp2_with fail
            go_ret
            exact ⟨ret_bool (by simp), HB.out⟩
      · obtain ⟨f3, f4, m3, m4, q1, q2, q3, q4⟩ := Z1.out hc
        clear hc
        obtain ⟨f3a, f3b, f3c⟩ := fe_fits f3
        replace f3c := f3c.trans m3
        have s4 := mul_fit I1.out I2.out f4
        rw [m4] at s4
        have S4 := Lib.hid s4
        clear f3 f4 m3 m4 s4
        go_wp2_with fail
        refine (whole_any a1 _).mono ?_; rintro e W17 ⟨rfl, hb⟩
        replace HB := Lib.hid (below_next HB.out hb)
        replace x0 := cell_keep x0 hb
        replace x1 := cell_keep x1 hb
        replace x2 := cell_keep x2 hb
        replace y0 := cell_keep y0 hb
        replace y1 := cell_keep y1 hb
        replace y2 := cell_keep y2 hb
        replace u0 := cell_keep u0 hb
        replace u1 := cell_keep u1 hb
        replace u2 := cell_keep u2 hb
        clear hb
        go_wp2_with fail
        refine (whole_any a2 _).mono ?_; rintro e W18 ⟨rfl, hb⟩
        replace HB := Lib.hid (below_next HB.out hb)
        replace x0 := cell_keep x0 hb
        replace x1 := cell_keep x1 hb
        replace x2 := cell_keep x2 hb
        replace y0 := cell_keep y0 hb
        replace y1 := cell_keep y1 hb
        replace y2 := cell_keep y2 hb
        replace u0 := cell_keep u0 hb
        replace u1 := cell_keep u1 hb
        replace u2 := cell_keep u2 hb
        clear hb
        go_wp2_with fail
        refine (S4.out _).mono ?_; rintro e W19 ⟨rfl, hb⟩
        replace HB := Lib.hid (below_next HB.out hb)
        replace x0 := cell_keep x0 hb
        replace x1 := cell_keep x1 hb
        replace x2 := cell_keep x2 hb
        replace y0 := cell_keep y0 hb
        replace y1 := cell_keep y1 hb
        replace y2 := cell_keep y2 hb
        replace u0 := cell_keep u0 hb
        replace u1 := cell_keep u1 hb
        replace u2 := cell_keep u2 hb
        clear hb
        have bv0 : (W19.alloc (.cells #[.int .i64 1, .int .i64 0, .string ⟨#[]⟩] 23)).cell? ⟨W19.heap.size, 0, none⟩ = some (.int .i64 1) := by simp [go_sem]
        have bv1 : (W19.alloc (.cells #[.int .i64 1, .int .i64 0, .string ⟨#[]⟩] 23)).cell? ⟨W19.heap.size, 1, none⟩ = some (.int .i64 0) := by simp [go_sem]
        have bv2 : (W19.alloc (.cells #[.int .i64 1, .int .i64 0, .string ⟨#[]⟩] 23)).cell? ⟨W19.heap.size, 2, none⟩ = some (.string ⟨#[]⟩) := by simp [go_sem]
        have bx0 := cell_box x0 (.cells #[.int .i64 1, .int .i64 0, .string ⟨#[]⟩] 23)
        have bx1 := cell_box x1 (.cells #[.int .i64 1, .int .i64 0, .string ⟨#[]⟩] 23)
        have bx2 := cell_box x2 (.cells #[.int .i64 1, .int .i64 0, .string ⟨#[]⟩] 23)
        have by0 := cell_box y0 (.cells #[.int .i64 1, .int .i64 0, .string ⟨#[]⟩] 23)
        have by1 := cell_box y1 (.cells #[.int .i64 1, .int .i64 0, .string ⟨#[]⟩] 23)
        have by2 := cell_box y2 (.cells #[.int .i64 1, .int .i64 0, .string ⟨#[]⟩] 23)
        have bu0 := cell_box u0 (.cells #[.int .i64 1, .int .i64 0, .string ⟨#[]⟩] 23)
        have bu1 := cell_box u1 (.cells #[.int .i64 1, .int .i64 0, .string ⟨#[]⟩] 23)
        have bu2 := cell_box u2 (.cells #[.int .i64 1, .int .i64 0, .string ⟨#[]⟩] 23)
        replace HB := Lib.hid (below_box HB.out (.cells #[.int .i64 1, .int .i64 0, .string ⟨#[]⟩] 23))
        have hlt := HL.out
        go_wp2_with fail
        refine (hold_lt _ _ _).mono ?_; rintro e W20 ⟨rfl, hb⟩
        replace HB := Lib.hid (below_next HB.out hb)
        replace bx0 := cell_keep bx0 hb
        replace bx1 := cell_keep bx1 hb
        replace bx2 := cell_keep bx2 hb
        replace by0 := cell_keep by0 hb
        replace by1 := cell_keep by1 hb
        replace by2 := cell_keep by2 hb
        replace bu0 := cell_keep bu0 hb
        replace bu1 := cell_keep bu1 hb
        replace bu2 := cell_keep bu2 hb
        replace bv0 := cell_keep bv0 hb
        replace bv1 := cell_keep bv1 hb
        replace bv2 := cell_keep bv2 hb
        clear hb
        go_wp2_with fail
        have hB := HB.out
        go_region_held3 (fun w' => w'.cell? ⟨pu, 0, none⟩ = some (.int .i64 (fk (a0 * a2))) ∧ w'.cell? ⟨pu, 1, none⟩ = some (.int .i64 (tm (a0 * a2))) ∧ w'.cell? ⟨pu, 2, none⟩ = some (.string ⟨#[]⟩) ∧ w'.cell? ⟨W19.heap.size, 0, none⟩ = some (.int .i64 1) ∧ w'.cell? ⟨W19.heap.size, 1, none⟩ = some (.int .i64 0) ∧ w'.cell? ⟨W19.heap.size, 2, none⟩ = some (.string ⟨#[]⟩) ∧ Below w.heap.size w w') (first | assumption | (go_split_ands; (repeat' apply And.intro); (all_goals first | assumption | exact cell_keep (by assumption) hb | exact below_next (by assumption) hb | exact Below.drew (by assumption)))) (first | (go_at_call 14; refine (whole_any _ _).mono ?_; rintro e w' ⟨rfl, hb⟩))
        all_goals
          go_split_ands
          go_wp2_with fail
          go_ret
          exact ⟨ret_bool (by simp), by assumption⟩
      · cases f3 : fits (a0 * a2)
        · obtain ⟨q0, q1, q2, q3, q4⟩ := Z3.out hc
          clear hc
          obtain ⟨f3a, f3b, f3c⟩ := fe_not f3
          clear f3
          have S4 := Lib.hid (mul_gen I1.out I2.out)
          have Q0 := Lib.hid q0
          clear q0
          go_wp2_with fail
          refine (whole_any a1 _).mono ?_; rintro e W17 ⟨rfl, hb⟩
          replace HB := Lib.hid (below_next HB.out hb)
          replace x0 := cell_keep x0 hb
          replace x1 := cell_keep x1 hb
          replace x2 := cell_keep x2 hb
          replace y0 := cell_keep y0 hb
          replace y1 := cell_keep y1 hb
          replace y2 := cell_keep y2 hb
          replace u0 := cell_keep u0 hb
          replace u1 := cell_keep u1 hb
          replace u2 := cell_keep u2 hb
          clear hb
          go_wp2_with fail
          refine (whole_any a2 _).mono ?_; rintro e W18 ⟨rfl, hb⟩
          replace HB := Lib.hid (below_next HB.out hb)
          replace x0 := cell_keep x0 hb
          replace x1 := cell_keep x1 hb
          replace x2 := cell_keep x2 hb
          replace y0 := cell_keep y0 hb
          replace y1 := cell_keep y1 hb
          replace y2 := cell_keep y2 hb
          replace u0 := cell_keep u0 hb
          replace u1 := cell_keep u1 hb
          replace u2 := cell_keep u2 hb
          clear hb
          go_wp2_with fail
          refine (S4.out _).mono ?_; rintro e W19 ⟨rfl, hb⟩
          replace HB := Lib.hid (below_next HB.out hb)
          replace x0 := cell_keep x0 hb
          replace x1 := cell_keep x1 hb
          replace x2 := cell_keep x2 hb
          replace y0 := cell_keep y0 hb
          replace y1 := cell_keep y1 hb
          replace y2 := cell_keep y2 hb
          replace u0 := cell_keep u0 hb
          replace u1 := cell_keep u1 hb
          replace u2 := cell_keep u2 hb
          clear hb
          have bv0 : (W19.alloc (.cells #[.int .i64 (fk (a1 * a2)), .int .i64 (tm (a1 * a2)), .string ⟨#[]⟩] 23)).cell? ⟨W19.heap.size, 0, none⟩ = some (.int .i64 (fk (a1 * a2))) := by simp [go_sem]
          have bv1 : (W19.alloc (.cells #[.int .i64 (fk (a1 * a2)), .int .i64 (tm (a1 * a2)), .string ⟨#[]⟩] 23)).cell? ⟨W19.heap.size, 1, none⟩ = some (.int .i64 (tm (a1 * a2))) := by simp [go_sem]
          have bv2 : (W19.alloc (.cells #[.int .i64 (fk (a1 * a2)), .int .i64 (tm (a1 * a2)), .string ⟨#[]⟩] 23)).cell? ⟨W19.heap.size, 2, none⟩ = some (.string ⟨#[]⟩) := by simp [go_sem]
          have bx0 := cell_box x0 (.cells #[.int .i64 (fk (a1 * a2)), .int .i64 (tm (a1 * a2)), .string ⟨#[]⟩] 23)
          have bx1 := cell_box x1 (.cells #[.int .i64 (fk (a1 * a2)), .int .i64 (tm (a1 * a2)), .string ⟨#[]⟩] 23)
          have bx2 := cell_box x2 (.cells #[.int .i64 (fk (a1 * a2)), .int .i64 (tm (a1 * a2)), .string ⟨#[]⟩] 23)
          have by0 := cell_box y0 (.cells #[.int .i64 (fk (a1 * a2)), .int .i64 (tm (a1 * a2)), .string ⟨#[]⟩] 23)
          have by1 := cell_box y1 (.cells #[.int .i64 (fk (a1 * a2)), .int .i64 (tm (a1 * a2)), .string ⟨#[]⟩] 23)
          have by2 := cell_box y2 (.cells #[.int .i64 (fk (a1 * a2)), .int .i64 (tm (a1 * a2)), .string ⟨#[]⟩] 23)
          have bu0 := cell_box u0 (.cells #[.int .i64 (fk (a1 * a2)), .int .i64 (tm (a1 * a2)), .string ⟨#[]⟩] 23)
          have bu1 := cell_box u1 (.cells #[.int .i64 (fk (a1 * a2)), .int .i64 (tm (a1 * a2)), .string ⟨#[]⟩] 23)
          have bu2 := cell_box u2 (.cells #[.int .i64 (fk (a1 * a2)), .int .i64 (tm (a1 * a2)), .string ⟨#[]⟩] 23)
          replace HB := Lib.hid (below_box HB.out (.cells #[.int .i64 (fk (a1 * a2)), .int .i64 (tm (a1 * a2)), .string ⟨#[]⟩] 23))
          have hlt := HL.out
          go_wp2_with fail
          refine (hold_lt _ _ _).mono ?_; rintro e W20 ⟨rfl, hb⟩
          replace HB := Lib.hid (below_next HB.out hb)
          replace bx0 := cell_keep bx0 hb
          replace bx1 := cell_keep bx1 hb
          replace bx2 := cell_keep bx2 hb
          replace by0 := cell_keep by0 hb
          replace by1 := cell_keep by1 hb
          replace by2 := cell_keep by2 hb
          replace bu0 := cell_keep bu0 hb
          replace bu1 := cell_keep bu1 hb
          replace bu2 := cell_keep bu2 hb
          replace bv0 := cell_keep bv0 hb
          replace bv1 := cell_keep bv1 hb
          replace bv2 := cell_keep bv2 hb
          clear hb
          go_wp2_with fail
          go_quiet (fail)
          go_wp2_with fail
          go_ret
          first
            | exact ⟨ret_bool (by simp), HB.out⟩
            | exact ⟨ret_bool (by simp), below_drewN HB.out _⟩
        · cases f4 : fits (a1 * a2)
          · obtain ⟨q0, q1, q2, q3, q4⟩ := Z3.out hc
            clear hc
            obtain ⟨f3a, f3b, f3c⟩ := fe_fits f3
            clear f3
            have S4 := Lib.hid (mul_over I1.out I2.out f4)
            clear f4
            have Q0 := Lib.hid q0
            clear q0
            go_wp2_with fail
            refine (whole_any a1 _).mono ?_; rintro e W17 ⟨rfl, hb⟩
            replace HB := Lib.hid (below_next HB.out hb)
            replace x0 := cell_keep x0 hb
            replace x1 := cell_keep x1 hb
            replace x2 := cell_keep x2 hb
            replace y0 := cell_keep y0 hb
            replace y1 := cell_keep y1 hb
            replace y2 := cell_keep y2 hb
            replace u0 := cell_keep u0 hb
            replace u1 := cell_keep u1 hb
            replace u2 := cell_keep u2 hb
            clear hb
            go_wp2_with fail
            refine (whole_any a2 _).mono ?_; rintro e W18 ⟨rfl, hb⟩
            replace HB := Lib.hid (below_next HB.out hb)
            replace x0 := cell_keep x0 hb
            replace x1 := cell_keep x1 hb
            replace x2 := cell_keep x2 hb
            replace y0 := cell_keep y0 hb
            replace y1 := cell_keep y1 hb
            replace y2 := cell_keep y2 hb
            replace u0 := cell_keep u0 hb
            replace u1 := cell_keep u1 hb
            replace u2 := cell_keep u2 hb
            clear hb
            go_wp2_with fail
            refine (S4.out _).mono ?_; rintro e W19 ⟨rfl, hb⟩
            replace HB := Lib.hid (below_next HB.out hb)
            replace x0 := cell_keep x0 hb
            replace x1 := cell_keep x1 hb
            replace x2 := cell_keep x2 hb
            replace y0 := cell_keep y0 hb
            replace y1 := cell_keep y1 hb
            replace y2 := cell_keep y2 hb
            replace u0 := cell_keep u0 hb
            replace u1 := cell_keep u1 hb
            replace u2 := cell_keep u2 hb
            clear hb
            have bv0 : (W19.alloc (.cells #[.int .i64 0, .int .i64 0, .string ⟨#[]⟩] 23)).cell? ⟨W19.heap.size, 0, none⟩ = some (.int .i64 0) := by simp [go_sem]
            have bv1 : (W19.alloc (.cells #[.int .i64 0, .int .i64 0, .string ⟨#[]⟩] 23)).cell? ⟨W19.heap.size, 1, none⟩ = some (.int .i64 0) := by simp [go_sem]
            have bv2 : (W19.alloc (.cells #[.int .i64 0, .int .i64 0, .string ⟨#[]⟩] 23)).cell? ⟨W19.heap.size, 2, none⟩ = some (.string ⟨#[]⟩) := by simp [go_sem]
            have bx0 := cell_box x0 (.cells #[.int .i64 0, .int .i64 0, .string ⟨#[]⟩] 23)
            have bx1 := cell_box x1 (.cells #[.int .i64 0, .int .i64 0, .string ⟨#[]⟩] 23)
            have bx2 := cell_box x2 (.cells #[.int .i64 0, .int .i64 0, .string ⟨#[]⟩] 23)
            have by0 := cell_box y0 (.cells #[.int .i64 0, .int .i64 0, .string ⟨#[]⟩] 23)
            have by1 := cell_box y1 (.cells #[.int .i64 0, .int .i64 0, .string ⟨#[]⟩] 23)
            have by2 := cell_box y2 (.cells #[.int .i64 0, .int .i64 0, .string ⟨#[]⟩] 23)
            have bu0 := cell_box u0 (.cells #[.int .i64 0, .int .i64 0, .string ⟨#[]⟩] 23)
            have bu1 := cell_box u1 (.cells #[.int .i64 0, .int .i64 0, .string ⟨#[]⟩] 23)
            have bu2 := cell_box u2 (.cells #[.int .i64 0, .int .i64 0, .string ⟨#[]⟩] 23)
            replace HB := Lib.hid (below_box HB.out (.cells #[.int .i64 0, .int .i64 0, .string ⟨#[]⟩] 23))
            have hlt := HL.out
            go_wp2_with fail
            refine (hold_lt _ _ _).mono ?_; rintro e W20 ⟨rfl, hb⟩
            replace HB := Lib.hid (below_next HB.out hb)
            replace bx0 := cell_keep bx0 hb
            replace bx1 := cell_keep bx1 hb
            replace bx2 := cell_keep bx2 hb
            replace by0 := cell_keep by0 hb
            replace by1 := cell_keep by1 hb
            replace by2 := cell_keep by2 hb
            replace bu0 := cell_keep bu0 hb
            replace bu1 := cell_keep bu1 hb
            replace bu2 := cell_keep bu2 hb
            replace bv0 := cell_keep bv0 hb
            replace bv1 := cell_keep bv1 hb
            replace bv2 := cell_keep bv2 hb
            clear hb
            go_wp2_with fail
            go_quiet (fail)
            go_wp2_with fail
            go_ret
            first
              | exact ⟨ret_bool (by simp), HB.out⟩
              | exact ⟨ret_bool (by simp), below_drewN HB.out _⟩
          · obtain ⟨q0, q1, q2, q3, q4⟩ := Z3.out hc
            clear hc
            obtain ⟨f3a, f3b, f3c⟩ := fe_fits f3
            clear f3
            have S4 := Lib.hid (mul_fit I1.out I2.out f4)
            clear f4
            have Q0 := Lib.hid q0
            clear q0
            go_wp2_with fail
            refine (whole_any a1 _).mono ?_; rintro e W17 ⟨rfl, hb⟩
            replace HB := Lib.hid (below_next HB.out hb)
            replace x0 := cell_keep x0 hb
            replace x1 := cell_keep x1 hb
            replace x2 := cell_keep x2 hb
            replace y0 := cell_keep y0 hb
            replace y1 := cell_keep y1 hb
            replace y2 := cell_keep y2 hb
            replace u0 := cell_keep u0 hb
            replace u1 := cell_keep u1 hb
            replace u2 := cell_keep u2 hb
            clear hb
            go_wp2_with fail
            refine (whole_any a2 _).mono ?_; rintro e W18 ⟨rfl, hb⟩
            replace HB := Lib.hid (below_next HB.out hb)
            replace x0 := cell_keep x0 hb
            replace x1 := cell_keep x1 hb
            replace x2 := cell_keep x2 hb
            replace y0 := cell_keep y0 hb
            replace y1 := cell_keep y1 hb
            replace y2 := cell_keep y2 hb
            replace u0 := cell_keep u0 hb
            replace u1 := cell_keep u1 hb
            replace u2 := cell_keep u2 hb
            clear hb
            go_wp2_with fail
            refine (S4.out _).mono ?_; rintro e W19 ⟨rfl, hb⟩
            replace HB := Lib.hid (below_next HB.out hb)
            replace x0 := cell_keep x0 hb
            replace x1 := cell_keep x1 hb
            replace x2 := cell_keep x2 hb
            replace y0 := cell_keep y0 hb
            replace y1 := cell_keep y1 hb
            replace y2 := cell_keep y2 hb
            replace u0 := cell_keep u0 hb
            replace u1 := cell_keep u1 hb
            replace u2 := cell_keep u2 hb
            clear hb
            have bv0 : (W19.alloc (.cells #[.int .i64 1, .int .i64 (a1 * a2), .string ⟨#[]⟩] 23)).cell? ⟨W19.heap.size, 0, none⟩ = some (.int .i64 1) := by simp [go_sem]
            have bv1 : (W19.alloc (.cells #[.int .i64 1, .int .i64 (a1 * a2), .string ⟨#[]⟩] 23)).cell? ⟨W19.heap.size, 1, none⟩ = some (.int .i64 (a1 * a2)) := by simp [go_sem]
            have bv2 : (W19.alloc (.cells #[.int .i64 1, .int .i64 (a1 * a2), .string ⟨#[]⟩] 23)).cell? ⟨W19.heap.size, 2, none⟩ = some (.string ⟨#[]⟩) := by simp [go_sem]
            have bx0 := cell_box x0 (.cells #[.int .i64 1, .int .i64 (a1 * a2), .string ⟨#[]⟩] 23)
            have bx1 := cell_box x1 (.cells #[.int .i64 1, .int .i64 (a1 * a2), .string ⟨#[]⟩] 23)
            have bx2 := cell_box x2 (.cells #[.int .i64 1, .int .i64 (a1 * a2), .string ⟨#[]⟩] 23)
            have by0 := cell_box y0 (.cells #[.int .i64 1, .int .i64 (a1 * a2), .string ⟨#[]⟩] 23)
            have by1 := cell_box y1 (.cells #[.int .i64 1, .int .i64 (a1 * a2), .string ⟨#[]⟩] 23)
            have by2 := cell_box y2 (.cells #[.int .i64 1, .int .i64 (a1 * a2), .string ⟨#[]⟩] 23)
            have bu0 := cell_box u0 (.cells #[.int .i64 1, .int .i64 (a1 * a2), .string ⟨#[]⟩] 23)
            have bu1 := cell_box u1 (.cells #[.int .i64 1, .int .i64 (a1 * a2), .string ⟨#[]⟩] 23)
            have bu2 := cell_box u2 (.cells #[.int .i64 1, .int .i64 (a1 * a2), .string ⟨#[]⟩] 23)
            replace HB := Lib.hid (below_box HB.out (.cells #[.int .i64 1, .int .i64 (a1 * a2), .string ⟨#[]⟩] 23))
            have hlt := HL.out
            go_wp2_with fail
            refine (hold_lt _ _ _).mono ?_; rintro e W20 ⟨rfl, hb⟩
            replace HB := Lib.hid (below_next HB.out hb)
            replace bx0 := cell_keep bx0 hb
            replace bx1 := cell_keep bx1 hb
            replace bx2 := cell_keep bx2 hb
            replace by0 := cell_keep by0 hb
            replace by1 := cell_keep by1 hb
            replace by2 := cell_keep by2 hb
            replace bu0 := cell_keep bu0 hb
            replace bu1 := cell_keep bu1 hb
            replace bu2 := cell_keep bu2 hb
            replace bv0 := cell_keep bv0 hb
            replace bv1 := cell_keep bv1 hb
            replace bv2 := cell_keep bv2 hb
            clear hb
            have q0 := Q0.out
            go_wp2_with fail
            refine (hold_lt _ _ _).mono ?_; rintro e W21 ⟨rfl, hb⟩
            replace HB := Lib.hid (below_next HB.out hb)
            replace bx0 := cell_keep bx0 hb
            replace bx1 := cell_keep bx1 hb
            replace bx2 := cell_keep bx2 hb
            replace by0 := cell_keep by0 hb
            replace by1 := cell_keep by1 hb
            replace by2 := cell_keep by2 hb
            replace bu0 := cell_keep bu0 hb
            replace bu1 := cell_keep bu1 hb
            replace bu2 := cell_keep bu2 hb
            replace bv0 := cell_keep bv0 hb
            replace bv1 := cell_keep bv1 hb
            replace bv2 := cell_keep bv2 hb
            clear hb
            go_wp2_with fail
            go_ret
            exact ⟨ret_bool (by simp), HB.out⟩


theorem own : ownKnob Try.prog.godebug = none := by kernel_rfl
theorem laid_out : laidOutB Try.prog = true := by kernel_rfl

set_option maxRecDepth 100000 in
theorem lifted (os : Os) (started : os.Started) (H : Type) (enc : TypeId × Value → H) :
    ReturnsInHanded {} Try.checked os 8 .any (Rows.opsOrderSpec.pre6 enc Try.prog Try.f8 Rows.opsOrderRow.domain false) (Rows.opsOrderSpec.post enc Try.prog Try.f8 false true false false) := by
  refine returnsInHanded_of_change (C := Try.checked) own started (by kernel_rfl) Try.func8
    (ChangeSpec.witness6 (enc := enc) (C := Try.checked) false ⟨#[], #[.int .i64 0, .int .i64 0, .int .i64 0], []⟩ 8 (by kernel_rfl) (by kernel_rfl) (by kernel_rfl) (by kernel_rfl)) ?_
  intro W base args ds gs before hval0 hW hcnd _
  have hval : ∀ (j : Nat) t v, Try.f8.params[j]? = some t → args[j]? = some v → Value.okWide Try.prog W .any base t v := hval0
  have hW' := hW
  obtain ⟨p, q, hA0, hV, rfl, hfz, hnd⟩ := hW
  have hA : DataW.TrodAll enc Try.prog W 0 (fun _ => true) true Try.f8.params.toList args.toList ds p := hA0
  rw [Try.params8] at hA hval
  obtain ⟨v0, vs0, d0, ds0, p0, q0, hargs, rfl, rfl, h0, r0⟩ := trodAll_cons hA
  obtain ⟨v1, vs1, d1, ds1, p1, q1, rfl, rfl, rfl, h1, r1⟩ := trodAll_cons r0
  obtain ⟨v2, vs2, d2, ds2, p2, q2, rfl, rfl, rfl, h2, r2⟩ := trodAll_cons r1
  obtain ⟨rfl, rfl, rfl⟩ := trodAll_nil r2
  obtain rfl : args = #[v0, v1, v2] := by cases args; simp_all
  obtain ⟨rfl, rfl⟩ := trodVars_none hV
  obtain ⟨a0, rfl, rfl, rfl, w0⟩ := open_int Try.underlying2 (hval 0 2 v0 rfl rfl) h0
  obtain ⟨a1, rfl, rfl, rfl, w1⟩ := open_int Try.underlying2 (hval 1 2 v1 rfl rfl) h1
  obtain ⟨a2, rfl, rfl, rfl, w2⟩ := open_int Try.underlying2 (hval 2 2 v2 rfl rfl) h2
  clear hA0 hval0
  refine (walk a0 a1 a2 w0 w1 w2 W).mono fun e W' ⟨he, hg⟩ => ?_
  subst he
  exact ⟨_, rfl, LawKit.post_law laid_out (by kernel_rfl) rfl Try.underlying4 rfl hW' ⟨rfl, rfl, rfl⟩ hg⟩

theorem over : Rows.opsOrderRow.holds Try.pinned (OpenSpec.ofChange Rows.opsOrderSpec) :=
  OpenClaim.holds_of_wide 8 Try.f8 rfl rfl rfl rfl rfl rfl rfl ⟨rfl, rfl, rfl, rfl, rfl⟩ rfl rfl rfl rfl rfl (by kernel_rfl) Try.func8 (by kernel_rfl)
    (of_decide_eq_true (by kernel_rfl)) (by unfold Func.isWrapper; first | (rw [if_pos (by decide +kernel)]; kernel_rfl) | (rw [if_neg (by decide +kernel)]; exact ⟨rfl, rfl⟩))
    (fun os started H enc _ => lifted os started H enc)

/-- THE STATEMENT -/
theorem proved : Rows.OpsOrderSaid := over
#print axioms proved
end Go.Proofs.Ytcoidmkaddnkdaa.opsOrder
