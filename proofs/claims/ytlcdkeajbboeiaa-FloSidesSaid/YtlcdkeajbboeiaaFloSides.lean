/- THE LAW FloSides: whatever the arguments, the call returns true, and they read as they did. No condition. -/
import Derived.Test.YtlcdkeajbboeiaaRows
import Derived.Test.YtlcdkeajbboeiaaW4
import Derived.Test.YtlcdkeajbboeiaaKit
namespace Go.Proofs.Ytlcdkeajbboeiaa.floSides
open Go.ChangeShapes Go.WideShapes Go.ChangeAt Go.RowKit AnteFlo
set_option linter.unusedVariables false

theorem walk (a0 a1 : Int) (w0 : (Lit.int .i64 a0).wf = true) (w1 : (Lit.int .i64 a1).wf = true) (w : World) :
    Calls Try.prog 6 #[.int .i64 a0, .int .i64 a1] w fun e w' => e = .returned (.bool true) ∧ Below w.heap.size w w' := by
  have H0 := Lib.hid (bounds_i64 w0)
  have H1 := Lib.hid (bounds_i64 w1)
  clear w0 w1
  have q1 := code_of_back_least
  have HQ := Lib.hid q1
  clear q1
  have c1 : gAdd a1 a0 = gAdd a0 a1 := gAdd_comm _ _
  have c2 : gMul a1 a0 = gMul a0 a1 := gMul_comm _ _
  have c3 : gSub a0 a1 = gAdd a0 (gMul (gOf (-1)) a1) := sub_minus a0 a1
  obtain ⟨m, hm⟩ : ∃ m, gOf (-1) = m := ⟨_, rfl⟩
  obtain ⟨o, ho⟩ : ∃ o, gMul m a1 = o := ⟨_, rfl⟩
  have Ho : Hid (-9223372036854775808 ≤ o ∧ o ≤ 9223372036854775807) := by rw [← ho]; exact gMul_in ..
  have Hm : Hid (-9223372036854775808 ≤ m ∧ m ≤ 9223372036854775807) := by rw [← hm]; exact gOf_in ..
  rw [hm, ho] at c3
  have hcase : (right a1 = true ∧ (a1 == 9221120237041090561) = false ∧ (o == wrap64 (-1 - a1)) = true ∧ gMul m o = a1) ∨
      ((right a1 = false ∨ right a1 = true ∧ (a1 == 9221120237041090561) = true) ∧ o = 9221120237041090561 ∧ gAdd a0 a1 = 9221120237041090561) := by
    by_cases h : right a1 = false ∨ a1 = 9221120237041090561
    · right
      refine ⟨?_, ?_, ?_⟩
      · rcases h with h | h
        · exact .inl h
        · subst h; exact .inr ⟨rfl, by simp⟩
      · rw [← ho, ← hm]; exact minus_bad h
      · exact op_bad_right 0 a0 h
    · left
      have h1 : right a1 = true := by cases hr : right a1 <;> simp_all
      have h2 : a1 ≠ 9221120237041090561 := fun e => h (.inr e)
      have h3 := minus_good h1 h2
      have h4 := right_minus h1 h2
      have hb := H1.out
      refine ⟨h1, beq_eq_false_iff_ne.2 h2, ?_, ?_⟩
      · rw [beq_iff_eq, ← ho, ← hm, h3]; unfold wrap64; omega
      · rw [← ho, ← hm, h3, minus_good h4.1 h4.2]; omega
  have hd := drewN_drewN
  rcases hcase with ⟨r1, r2, r3, r4⟩ | ⟨r1, r2, r3⟩
  · skip
    go_enter Try.func6, Try.ntmps6
    go_wp2_with fail
    refine (awake_any _).mono ?_; rintro e w' ⟨rfl, rfl⟩
    go_wp2_with fail
    refine (back_any _ (by omega) _).mono ?_; rintro e w' ⟨rfl, rfl⟩
    go_wp2_with fail
    refine (code_any (back_lt _) _).mono ?_; rintro e w' ⟨rfl, rfl⟩
    rw [HQ.out]
    go_wp2_with fail
    refine (add_c H0.out H1.out _).mono ?_; rintro e w' ⟨rfl, k1, rfl⟩
    go_wp2_with fail
    refine (add_c H1.out H0.out _).mono ?_; rintro e w' ⟨rfl, k2, rfl⟩
    go_wp2_with fail
    refine (mul_c H0.out H1.out _).mono ?_; rintro e w' ⟨rfl, k3, rfl⟩
    go_wp2_with fail
    refine (mul_c H1.out H0.out _).mono ?_; rintro e w' ⟨rfl, k4, rfl⟩
    go_wp2_with fail
    refine (of_c _ _).mono ?_; rintro e w' ⟨rfl, rfl⟩
    go_wp2_with fail
    refine (mul_c Hm.out H1.out _).mono ?_; rintro e w' ⟨rfl, k5, rfl⟩
    go_wp2_with fail
    refine (sub_c H0.out H1.out _).mono ?_; rintro e w' ⟨rfl, k6, rfl⟩
    go_wp2_with fail
    refine (add_c H0.out Ho.out _).mono ?_; rintro e w' ⟨rfl, k7, rfl⟩
    go_wp2_with fail
    refine (right_any _ _).mono ?_; rintro e w' ⟨rfl, rfl⟩
    go_wp2_with fail
    refine (of_c _ _).mono ?_; rintro e w' ⟨rfl, rfl⟩
    go_wp2_with fail
    refine (mul_c Hm.out Ho.out _).mono ?_; rintro e w' ⟨rfl, k8, rfl⟩
    go_wp2_with fail
    go_ret
    exact ⟨rfl, below_drewN (Below.refl _ _) _⟩
  · have r4 : (o == 9221120237041090561) = true := by rw [beq_iff_eq]; exact r2
    clear r2
    rcases r1 with r1 | ⟨r1, r5⟩
    · skip
      go_enter Try.func6, Try.ntmps6
      go_wp2_with fail
      refine (awake_any _).mono ?_; rintro e w' ⟨rfl, rfl⟩
      go_wp2_with fail
      refine (back_any _ (by omega) _).mono ?_; rintro e w' ⟨rfl, rfl⟩
      go_wp2_with fail
      refine (code_any (back_lt _) _).mono ?_; rintro e w' ⟨rfl, rfl⟩
      rw [HQ.out]
      go_wp2_with fail
      refine (add_c H0.out H1.out _).mono ?_; rintro e w' ⟨rfl, k1, rfl⟩
      go_wp2_with fail
      refine (add_c H1.out H0.out _).mono ?_; rintro e w' ⟨rfl, k2, rfl⟩
      go_wp2_with fail
      refine (mul_c H0.out H1.out _).mono ?_; rintro e w' ⟨rfl, k3, rfl⟩
      go_wp2_with fail
      refine (mul_c H1.out H0.out _).mono ?_; rintro e w' ⟨rfl, k4, rfl⟩
      go_wp2_with fail
      refine (of_c _ _).mono ?_; rintro e w' ⟨rfl, rfl⟩
      go_wp2_with fail
      refine (mul_c Hm.out H1.out _).mono ?_; rintro e w' ⟨rfl, k5, rfl⟩
      go_wp2_with fail
      refine (sub_c H0.out H1.out _).mono ?_; rintro e w' ⟨rfl, k6, rfl⟩
      go_wp2_with fail
      refine (add_c H0.out Ho.out _).mono ?_; rintro e w' ⟨rfl, k7, rfl⟩
      go_wp2_with fail
      refine (right_any _ _).mono ?_; rintro e w' ⟨rfl, rfl⟩
      go_wp2_with fail
      refine (add_c H0.out H1.out _).mono ?_; rintro e w' ⟨rfl, k8, rfl⟩
      go_wp2_with fail
      go_ret
      exact ⟨rfl, below_drewN (Below.refl _ _) _⟩
    · skip
      go_enter Try.func6, Try.ntmps6
      go_wp2_with fail
      refine (awake_any _).mono ?_; rintro e w' ⟨rfl, rfl⟩
      go_wp2_with fail
      refine (back_any _ (by omega) _).mono ?_; rintro e w' ⟨rfl, rfl⟩
      go_wp2_with fail
      refine (code_any (back_lt _) _).mono ?_; rintro e w' ⟨rfl, rfl⟩
      rw [HQ.out]
      go_wp2_with fail
      refine (add_c H0.out H1.out _).mono ?_; rintro e w' ⟨rfl, k1, rfl⟩
      go_wp2_with fail
      refine (add_c H1.out H0.out _).mono ?_; rintro e w' ⟨rfl, k2, rfl⟩
      go_wp2_with fail
      refine (mul_c H0.out H1.out _).mono ?_; rintro e w' ⟨rfl, k3, rfl⟩
      go_wp2_with fail
      refine (mul_c H1.out H0.out _).mono ?_; rintro e w' ⟨rfl, k4, rfl⟩
      go_wp2_with fail
      refine (of_c _ _).mono ?_; rintro e w' ⟨rfl, rfl⟩
      go_wp2_with fail
      refine (mul_c Hm.out H1.out _).mono ?_; rintro e w' ⟨rfl, k5, rfl⟩
      go_wp2_with fail
      refine (sub_c H0.out H1.out _).mono ?_; rintro e w' ⟨rfl, k6, rfl⟩
      go_wp2_with fail
      refine (add_c H0.out Ho.out _).mono ?_; rintro e w' ⟨rfl, k7, rfl⟩
      go_wp2_with fail
      refine (right_any _ _).mono ?_; rintro e w' ⟨rfl, rfl⟩
      go_wp2_with fail
      refine (add_c H0.out H1.out _).mono ?_; rintro e w' ⟨rfl, k8, rfl⟩
      go_wp2_with fail
      go_ret
      exact ⟨rfl, below_drewN (Below.refl _ _) _⟩

theorem own : ownKnob Try.prog.godebug = none := by kernel_rfl
theorem laid_out : laidOutB Try.prog = true := by kernel_rfl

set_option maxRecDepth 100000 in
theorem lifted (os : Os) (started : os.Started) (H : Type) (enc : TypeId × Value → H) :
    ReturnsInHanded {} Try.checked os 6 .any (Rows.floSidesSpec.pre6 enc Try.prog Try.f6 Rows.floSidesRow.domain false) (Rows.floSidesSpec.post enc Try.prog Try.f6 false true false false) := by
  refine returnsInHanded_of_change (C := Try.checked) own started (by kernel_rfl) Try.func6
    (ChangeSpec.witness6 (enc := enc) (C := Try.checked) false ⟨#[], #[.int .i64 0, .int .i64 0], []⟩ 8 (by kernel_rfl) (by kernel_rfl) (by kernel_rfl) (by kernel_rfl)) ?_
  intro W base args ds gs before hval0 hW hcnd _
  have hval : ∀ (j : Nat) t v, Try.f6.params[j]? = some t → args[j]? = some v → Value.okWide Try.prog W .any base t v := hval0
  have hW' := hW
  obtain ⟨p, q, hA0, hV, rfl, hfz, hnd⟩ := hW
  have hA : DataW.TrodAll enc Try.prog W 0 (fun _ => true) true Try.f6.params.toList args.toList ds p := hA0
  rw [Try.params6] at hA hval
  obtain ⟨v0, vs0, d0, ds0, p0, q0, hargs, rfl, rfl, h0, r0⟩ := trodAll_cons hA
  obtain ⟨v1, vs1, d1, ds1, p1, q1, rfl, rfl, rfl, h1, r1⟩ := trodAll_cons r0
  obtain ⟨rfl, rfl, rfl⟩ := trodAll_nil r1
  obtain rfl : args = #[v0, v1] := by cases args; simp_all
  obtain ⟨rfl, rfl⟩ := trodVars_none hV
  obtain ⟨a0, rfl, rfl, rfl, w0⟩ := open_int Try.underlying2 (hval 0 2 v0 rfl rfl) h0
  obtain ⟨a1, rfl, rfl, rfl, w1⟩ := open_int Try.underlying2 (hval 1 2 v1 rfl rfl) h1
  clear hA0 hval0
  refine (walk a0 a1 w0 w1 W).mono fun e W' ⟨he, hg⟩ => ?_
  subst he
  exact ⟨_, rfl, LawKit.post_law laid_out (by kernel_rfl) rfl Try.underlying4 rfl hW' ⟨rfl, rfl, rfl⟩ hg⟩

theorem over : Rows.floSidesRow.holds Try.pinned (OpenSpec.ofChange Rows.floSidesSpec) :=
  OpenClaim.holds_of_wide 6 Try.f6 rfl rfl rfl rfl rfl rfl rfl ⟨rfl, rfl, rfl, rfl, rfl⟩ rfl rfl rfl rfl rfl (by kernel_rfl) Try.func6 (by kernel_rfl)
    (of_decide_eq_true (by kernel_rfl)) (by unfold Func.isWrapper; first | (rw [if_pos (by decide +kernel)]; kernel_rfl) | (rw [if_neg (by decide +kernel)]; exact ⟨rfl, rfl⟩))
    (fun os started H enc _ => lifted os started H enc)

/-- THE STATEMENT -/
theorem proved : Rows.FloSidesSaid := over
#print axioms proved
end Go.Proofs.Ytlcdkeajbboeiaa.floSides
