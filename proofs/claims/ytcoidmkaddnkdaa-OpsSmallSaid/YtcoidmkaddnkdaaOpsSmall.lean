/- THE LAW OpsSmall: whatever the arguments, the call returns true, and they read as they did. No condition. -/
import Derived.Test.YtcoidmkaddnkdaaRows
import Derived.Test.YtcoidmkaddnkdaaQ1
import Derived.Test.YtcoidmkaddnkdaaKit
namespace Go.Proofs.Ytcoidmkaddnkdaa.opsSmall
open Go.ChangeShapes Go.WideShapes Go.ChangeAt Go.RowKit AnteFlo AnteVal AnteOps
set_option linter.unusedVariables false

theorem mul_i32 {a b : Int} (ha : -2147483648 ≤ a ∧ a ≤ 2147483647) (hb : -2147483648 ≤ b ∧ b ≤ 2147483647) : a * b ≤ 4611686018427387904 ∧ -4611686018427387904 ≤ a * b := by
  have h : (a * b).natAbs ≤ 2147483648 * 2147483648 := by rw [Int.natAbs_mul]; exact Nat.mul_le_mul (by omega) (by omega)
  omega

theorem walk (a0 a1 : Int) (w0 : (Lit.int .i32 a0).wf = true) (w1 : (Lit.int .i32 a1).wf = true) (w : World) :
    Calls Try.prog 5 #[.int .i32 a0, .int .i32 a1] w fun e w' => e = .returned (.bool true) ∧ Below w.heap.size w w' := by
  have H0 := bounds_i32 w0
  have H1 := bounds_i32 w1
  have i0 : I64 a0 := by unfold I64; omega
  have i1 : I64 a1 := by unfold I64; omega
  have hp : a0 * a1 ≤ 4611686018427387904 ∧ -4611686018427387904 ≤ a0 * a1 := mul_i32 H0 H1
  have s1 := Lib.hid (add_fit i0 i1 (fits_of (by omega)))
  have s2 := Lib.hid (sub_fit i0 i1 (fits_of (by omega)))
  have s3 := Lib.hid (mul_fit i0 i1 (fits_of (by omega)))
  have c0 : wrap64 a0 = a0 := by unfold wrap64; omega
  have c1 : wrap64 a1 = a1 := by unfold wrap64; omega
  have c2 : wrap64 (a0 + a1) = a0 + a1 := by unfold wrap64; omega
  have c3 : wrap64 (a0 - a1) = a0 - a1 := by unfold wrap64; omega
  have c4 : wrap64 (a0 * a1) = a0 * a1 := by revert hp; generalize a0 * a1 = m; intro hp; unfold wrap64; omega
  clear H0 H1 i0 i1 hp w0 w1
  go_enter Try.func5, Try.ntmps5
  have HB : Hid (Below w.heap.size w w) := Below.refl _ _
  go_wp2_with fail
  refine (awake_any _).mono ?_; rintro e W1 ⟨rfl, hb⟩
  replace HB := Lib.hid (below_next HB.out hb)
  clear hb
  go_wp2_with fail
  refine (whole_any a0 _).mono ?_; rintro e W2 ⟨rfl, hb⟩
  replace HB := Lib.hid (below_next HB.out hb)
  clear hb
  go_wp2_with fail
  refine (whole_any a1 _).mono ?_; rintro e W3 ⟨rfl, hb⟩
  replace HB := Lib.hid (below_next HB.out hb)
  clear hb
  go_wp2_with fail
  refine (s1.out _).mono ?_; rintro e W4 ⟨rfl, hb⟩
  replace HB := Lib.hid (below_next HB.out hb)
  clear hb
  go_wp2_with fail
  have x0 : (W4.alloc (.cells #[.int .i64 1, .int .i64 (a0 + a1), .string ⟨#[]⟩] 23)).cell? ⟨W4.heap.size, 0, none⟩ = some (.int .i64 1) := by simp [go_sem]
  have x1 : (W4.alloc (.cells #[.int .i64 1, .int .i64 (a0 + a1), .string ⟨#[]⟩] 23)).cell? ⟨W4.heap.size, 1, none⟩ = some (.int .i64 (a0 + a1)) := by simp [go_sem]
  have x2 : (W4.alloc (.cells #[.int .i64 1, .int .i64 (a0 + a1), .string ⟨#[]⟩] 23)).cell? ⟨W4.heap.size, 2, none⟩ = some (.string ⟨#[]⟩) := by simp [go_sem]
  replace HB := Lib.hid (below_box HB.out (.cells #[.int .i64 1, .int .i64 (a0 + a1), .string ⟨#[]⟩] 23))
  generalize (W4.alloc (.cells #[.int .i64 1, .int .i64 (a0 + a1), .string ⟨#[]⟩] 23)) = W5 at *
  generalize W4.heap.size = px at *
  go_wp2_with fail
  refine (whole_any a0 _).mono ?_; rintro e W6 ⟨rfl, hb⟩
  replace HB := Lib.hid (below_next HB.out hb)
  replace x0 := cell_keep x0 hb
  replace x1 := cell_keep x1 hb
  replace x2 := cell_keep x2 hb
  clear hb
  go_wp2_with fail
  refine (whole_any a1 _).mono ?_; rintro e W7 ⟨rfl, hb⟩
  replace HB := Lib.hid (below_next HB.out hb)
  replace x0 := cell_keep x0 hb
  replace x1 := cell_keep x1 hb
  replace x2 := cell_keep x2 hb
  clear hb
  go_wp2_with fail
  refine (s2.out _).mono ?_; rintro e W8 ⟨rfl, hb⟩
  replace HB := Lib.hid (below_next HB.out hb)
  replace x0 := cell_keep x0 hb
  replace x1 := cell_keep x1 hb
  replace x2 := cell_keep x2 hb
  clear hb
  go_wp2_with fail
  have y0 : (W8.alloc (.cells #[.int .i64 1, .int .i64 (a0 - a1), .string ⟨#[]⟩] 23)).cell? ⟨W8.heap.size, 0, none⟩ = some (.int .i64 1) := by simp [go_sem]
  have y1 : (W8.alloc (.cells #[.int .i64 1, .int .i64 (a0 - a1), .string ⟨#[]⟩] 23)).cell? ⟨W8.heap.size, 1, none⟩ = some (.int .i64 (a0 - a1)) := by simp [go_sem]
  have y2 : (W8.alloc (.cells #[.int .i64 1, .int .i64 (a0 - a1), .string ⟨#[]⟩] 23)).cell? ⟨W8.heap.size, 2, none⟩ = some (.string ⟨#[]⟩) := by simp [go_sem]
  replace HB := Lib.hid (below_box HB.out (.cells #[.int .i64 1, .int .i64 (a0 - a1), .string ⟨#[]⟩] 23))
  replace x0 := cell_box x0 (.cells #[.int .i64 1, .int .i64 (a0 - a1), .string ⟨#[]⟩] 23)
  replace x1 := cell_box x1 (.cells #[.int .i64 1, .int .i64 (a0 - a1), .string ⟨#[]⟩] 23)
  replace x2 := cell_box x2 (.cells #[.int .i64 1, .int .i64 (a0 - a1), .string ⟨#[]⟩] 23)
  generalize (W8.alloc (.cells #[.int .i64 1, .int .i64 (a0 - a1), .string ⟨#[]⟩] 23)) = W9 at *
  generalize W8.heap.size = py at *
  go_wp2_with fail
  refine (whole_any a0 _).mono ?_; rintro e W10 ⟨rfl, hb⟩
  replace HB := Lib.hid (below_next HB.out hb)
  replace x0 := cell_keep x0 hb
  replace x1 := cell_keep x1 hb
  replace x2 := cell_keep x2 hb
  replace y0 := cell_keep y0 hb
  replace y1 := cell_keep y1 hb
  replace y2 := cell_keep y2 hb
  clear hb
  go_wp2_with fail
  refine (whole_any a1 _).mono ?_; rintro e W11 ⟨rfl, hb⟩
  replace HB := Lib.hid (below_next HB.out hb)
  replace x0 := cell_keep x0 hb
  replace x1 := cell_keep x1 hb
  replace x2 := cell_keep x2 hb
  replace y0 := cell_keep y0 hb
  replace y1 := cell_keep y1 hb
  replace y2 := cell_keep y2 hb
  clear hb
  go_wp2_with fail
  refine (s3.out _).mono ?_; rintro e W12 ⟨rfl, hb⟩
  replace HB := Lib.hid (below_next HB.out hb)
  replace x0 := cell_keep x0 hb
  replace x1 := cell_keep x1 hb
  replace x2 := cell_keep x2 hb
  replace y0 := cell_keep y0 hb
  replace y1 := cell_keep y1 hb
  replace y2 := cell_keep y2 hb
  clear hb
  have bx0 := cell_box x0 (.cells #[.int .i64 1, .int .i64 (a0 * a1), .string ⟨#[]⟩] 23)
  have bx1 := cell_box x1 (.cells #[.int .i64 1, .int .i64 (a0 * a1), .string ⟨#[]⟩] 23)
  have bx2 := cell_box x2 (.cells #[.int .i64 1, .int .i64 (a0 * a1), .string ⟨#[]⟩] 23)
  have by0 := cell_box y0 (.cells #[.int .i64 1, .int .i64 (a0 * a1), .string ⟨#[]⟩] 23)
  have by1 := cell_box y1 (.cells #[.int .i64 1, .int .i64 (a0 * a1), .string ⟨#[]⟩] 23)
  have by2 := cell_box y2 (.cells #[.int .i64 1, .int .i64 (a0 * a1), .string ⟨#[]⟩] 23)
  replace HB := Lib.hid (below_box HB.out (.cells #[.int .i64 1, .int .i64 (a0 * a1), .string ⟨#[]⟩] 23))
  go_wp2_with fail
  go_ret
  exact ⟨ret_bool (by simp), HB.out⟩


theorem own : ownKnob Try.prog.godebug = none := by kernel_rfl
theorem laid_out : laidOutB Try.prog = true := by kernel_rfl

set_option maxRecDepth 100000 in
theorem lifted (os : Os) (started : os.Started) (H : Type) (enc : TypeId × Value → H) :
    ReturnsInHanded {} Try.checked os 5 .any (Rows.opsSmallSpec.pre6 enc Try.prog Try.f5 Rows.opsSmallRow.domain false) (Rows.opsSmallSpec.post enc Try.prog Try.f5 false true false false) := by
  refine returnsInHanded_of_change (C := Try.checked) own started (by kernel_rfl) Try.func5
    (ChangeSpec.witness6 (enc := enc) (C := Try.checked) false ⟨#[], #[.int .i32 0, .int .i32 0], []⟩ 8 (by kernel_rfl) (by kernel_rfl) (by kernel_rfl) (by kernel_rfl)) ?_
  intro W base args ds gs before hval0 hW hcnd _
  have hval : ∀ (j : Nat) t v, Try.f5.params[j]? = some t → args[j]? = some v → Value.okWide Try.prog W .any base t v := hval0
  have hW' := hW
  obtain ⟨p, q, hA0, hV, rfl, hfz, hnd⟩ := hW
  have hA : DataW.TrodAll enc Try.prog W 0 (fun _ => true) true Try.f5.params.toList args.toList ds p := hA0
  rw [Try.params5] at hA hval
  obtain ⟨v0, vs0, d0, ds0, p0, q0, hargs, rfl, rfl, h0, r0⟩ := trodAll_cons hA
  obtain ⟨v1, vs1, d1, ds1, p1, q1, rfl, rfl, rfl, h1, r1⟩ := trodAll_cons r0
  obtain ⟨rfl, rfl, rfl⟩ := trodAll_nil r1
  obtain rfl : args = #[v0, v1] := by cases args; simp_all
  obtain ⟨rfl, rfl⟩ := trodVars_none hV
  obtain ⟨a0, rfl, rfl, rfl, w0⟩ := open_int Try.underlying21 (hval 0 21 v0 rfl rfl) h0
  obtain ⟨a1, rfl, rfl, rfl, w1⟩ := open_int Try.underlying21 (hval 1 21 v1 rfl rfl) h1
  clear hA0 hval0
  refine (walk a0 a1 w0 w1 W).mono fun e W' ⟨he, hg⟩ => ?_
  subst he
  exact ⟨_, rfl, LawKit.post_law laid_out (by kernel_rfl) rfl Try.underlying4 rfl hW' ⟨rfl, rfl, rfl⟩ hg⟩

theorem over : Rows.opsSmallRow.holds Try.pinned (OpenSpec.ofChange Rows.opsSmallSpec) :=
  OpenClaim.holds_of_wide 5 Try.f5 rfl rfl rfl rfl rfl rfl rfl ⟨rfl, rfl, rfl, rfl, rfl⟩ rfl rfl rfl rfl rfl (by kernel_rfl) Try.func5 (by kernel_rfl)
    (of_decide_eq_true (by kernel_rfl)) (by unfold Func.isWrapper; first | (rw [if_pos (by decide +kernel)]; kernel_rfl) | (rw [if_neg (by decide +kernel)]; exact ⟨rfl, rfl⟩))
    (fun os started H enc _ => lifted os started H enc)

/-- THE STATEMENT -/
theorem proved : Rows.OpsSmallSaid := over
#print axioms proved
end Go.Proofs.Ytcoidmkaddnkdaa.opsSmall
