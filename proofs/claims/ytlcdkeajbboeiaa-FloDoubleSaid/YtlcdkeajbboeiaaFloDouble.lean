/- THE LAW FloDouble: whatever the arguments, the call returns true, and they read as they did. No condition. -/
import Derived.Test.YtlcdkeajbboeiaaRows
import Derived.Test.YtlcdkeajbboeiaaW4
import Derived.Test.YtlcdkeajbboeiaaKit
namespace Go.Proofs.Ytlcdkeajbboeiaa.floDouble
open Go.ChangeShapes Go.WideShapes Go.ChangeAt Go.RowKit AnteFlo
set_option linter.unusedVariables false

theorem walk (a0 : Int) (w0 : (Lit.int .i64 a0).wf = true) (w : World) :
    Calls Try.prog 7 #[.int .i64 a0] w fun e w' => e = .returned (.bool true) ∧ Below w.heap.size w w' := by
  have h0 := bounds_i64 w0
  clear w0
  obtain ⟨s, r, hr, hn⟩ : ∃ s : Bool, ∃ r : Nat, r < 9223372036854775808 ∧ a0 = if s then -1 - (r : Int) else r := by
    rcases Int.lt_or_le a0 0 with h | h
    · exact ⟨true, (-1 - a0).toNat, by omega, by simp; omega⟩
    · exact ⟨false, a0.toNat, by omega, by simp; omega⟩
  have hd := drewN_drewN
  have H0 := Lib.hid h0
  by_cases hin : 4503599627370496 ≤ r ∧ r < 9214364837600034816
  · obtain ⟨h1, h2, h3⟩ := double_is hn hin.1 hin.2
    have f1 : ((r : Int) < 4503599627370496) = False := eq_false (by omega)
    have f2 : (9214364837600034816 ≤ (r : Int)) = False := eq_false (by omega)
    obtain ⟨m, hm⟩ : ∃ m, gOf 2 = m := ⟨_, rfl⟩
    have Hm : Hid (-9223372036854775808 ≤ m ∧ m ≤ 9223372036854775807) := by rw [← hm]; exact gOf_in ..
    rw [hm] at h1 h2
    obtain ⟨d, hd'⟩ : ∃ d, (if s then a0 - 4503599627370496 else a0 + 4503599627370496) = d := ⟨_, rfl⟩
    rw [hd'] at h1 h2 h3
    have Hd : Hid (-9223372036854775808 ≤ d ∧ d ≤ 9223372036854775807) := by
      rw [← h3]; exact gAdd_in ..
    cases s
    · simp only [Bool.false_eq_true, if_false] at hn hd'
      have e1 : (a0 < 0) = False := eq_false (by omega)
      have e2 : (a0 < 4503599627370496) = False := eq_false (by omega)
      have e3 : (9214364837600034816 ≤ a0) = False := eq_false (by omega)
      have e4 : wrap64 (a0 + 4503599627370496) = d := by rw [← hd']; unfold wrap64; omega
      clear f1 f2 hn hin hr h0 hd'
      go_enter Try.func7, Try.ntmps7
      go_wp2_with fail
      refine (awake_any _).mono ?_; rintro e w' ⟨rfl, rfl⟩
      go_wp2_with fail
      refine (of_c _ _).mono ?_; rintro e w' ⟨rfl, rfl⟩
      go_wp2_with fail
      refine (mul_c H0.out Hm.out _).mono ?_; rintro e w' ⟨rfl, k1, rfl⟩
      go_wp2_with fail
      refine (div_c Hd.out Hm.out _).mono ?_; rintro e w' ⟨rfl, k2, rfl⟩
      go_wp2_with fail
      refine (add_c H0.out H0.out _).mono ?_; rintro e w' ⟨rfl, k3, rfl⟩
      go_wp2_with fail
      go_ret
      exact ⟨rfl, below_drewN (Below.refl _ _) _⟩
    · simp only [if_true] at hn hd'
      have e1 : (a0 < 0) = True := eq_true (by omega)
      have e2 : (-1 - a0 < 4503599627370496) = False := eq_false (by omega)
      have e3 : (9214364837600034816 ≤ -1 - a0) = False := eq_false (by omega)
      have e4 : wrap64 (a0 - 4503599627370496) = d := by rw [← hd']; unfold wrap64; omega
      have e6 : wrap64 (-1 - a0) = -1 - a0 := by unfold wrap64; omega
      clear f1 f2 hn hin hr h0 hd'
      go_enter Try.func7, Try.ntmps7
      go_wp2_with fail
      refine (awake_any _).mono ?_; rintro e w' ⟨rfl, rfl⟩
      go_wp2_with fail
      refine (of_c _ _).mono ?_; rintro e w' ⟨rfl, rfl⟩
      go_wp2_with fail
      refine (mul_c H0.out Hm.out _).mono ?_; rintro e w' ⟨rfl, k1, rfl⟩
      go_wp2_with fail
      refine (div_c Hd.out Hm.out _).mono ?_; rintro e w' ⟨rfl, k2, rfl⟩
      go_wp2_with fail
      refine (add_c H0.out H0.out _).mono ?_; rintro e w' ⟨rfl, k3, rfl⟩
      go_wp2_with fail
      go_ret
      exact ⟨rfl, below_drewN (Below.refl _ _) _⟩
  · cases s
    · simp only [Bool.false_eq_true, if_false] at hn
      have e1 : (a0 < 0) = False := eq_false (by omega)
      have e2 : (decide (a0 < 4503599627370496) = true ∨ decide (a0 < 4503599627370496) = false ∧ decide (9214364837600034816 ≤ a0) = true) := by simp; omega
      clear hn hin hr h0
      rcases e2 with e2 | ⟨e2, e3⟩
      all_goals
        go_enter Try.func7, Try.ntmps7
        go_wp2_with fail
        refine (awake_any _).mono ?_; rintro e w' ⟨rfl, rfl⟩
        go_wp2_with fail
        go_ret
        exact ⟨rfl, Below.refl _ _⟩
    · simp only [if_true] at hn
      have e1 : (a0 < 0) = True := eq_true (by omega)
      have e2 : (decide (-1 - a0 < 4503599627370496) = true ∨ decide (-1 - a0 < 4503599627370496) = false ∧ decide (9214364837600034816 ≤ -1 - a0) = true) := by simp; omega
      have e6 : wrap64 (-1 - a0) = -1 - a0 := by unfold wrap64; omega
      clear hn hin hr h0
      rcases e2 with e2 | ⟨e2, e3⟩
      all_goals
        go_enter Try.func7, Try.ntmps7
        go_wp2_with fail
        refine (awake_any _).mono ?_; rintro e w' ⟨rfl, rfl⟩
        go_wp2_with fail
        go_ret
        exact ⟨rfl, Below.refl _ _⟩

theorem own : ownKnob Try.prog.godebug = none := by kernel_rfl
theorem laid_out : laidOutB Try.prog = true := by kernel_rfl

set_option maxRecDepth 100000 in
theorem lifted (os : Os) (started : os.Started) (H : Type) (enc : TypeId × Value → H) :
    ReturnsInHanded {} Try.checked os 7 .any (Rows.floDoubleSpec.pre6 enc Try.prog Try.f7 Rows.floDoubleRow.domain false) (Rows.floDoubleSpec.post enc Try.prog Try.f7 false true false false) := by
  refine returnsInHanded_of_change (C := Try.checked) own started (by kernel_rfl) Try.func7
    (ChangeSpec.witness6 (enc := enc) (C := Try.checked) false ⟨#[], #[.int .i64 0], []⟩ 8 (by kernel_rfl) (by kernel_rfl) (by kernel_rfl) (by kernel_rfl)) ?_
  intro W base args ds gs before hval0 hW hcnd _
  have hval : ∀ (j : Nat) t v, Try.f7.params[j]? = some t → args[j]? = some v → Value.okWide Try.prog W .any base t v := hval0
  have hW' := hW
  obtain ⟨p, q, hA0, hV, rfl, hfz, hnd⟩ := hW
  have hA : DataW.TrodAll enc Try.prog W 0 (fun _ => true) true Try.f7.params.toList args.toList ds p := hA0
  rw [Try.params7] at hA hval
  obtain ⟨v0, vs0, d0, ds0, p0, q0, hargs, rfl, rfl, h0, r0⟩ := trodAll_cons hA
  obtain ⟨rfl, rfl, rfl⟩ := trodAll_nil r0
  obtain rfl : args = #[v0] := by cases args; simp_all
  obtain ⟨rfl, rfl⟩ := trodVars_none hV
  obtain ⟨a0, rfl, rfl, rfl, w0⟩ := open_int Try.underlying2 (hval 0 2 v0 rfl rfl) h0
  clear hA0 hval0
  refine (walk a0 w0 W).mono fun e W' ⟨he, hg⟩ => ?_
  subst he
  exact ⟨_, rfl, LawKit.post_law laid_out (by kernel_rfl) rfl Try.underlying4 rfl hW' ⟨rfl, rfl, rfl⟩ hg⟩

theorem over : Rows.floDoubleRow.holds Try.pinned (OpenSpec.ofChange Rows.floDoubleSpec) :=
  OpenClaim.holds_of_wide 7 Try.f7 rfl rfl rfl rfl rfl rfl rfl ⟨rfl, rfl, rfl, rfl, rfl⟩ rfl rfl rfl rfl rfl (by kernel_rfl) Try.func7 (by kernel_rfl)
    (of_decide_eq_true (by kernel_rfl)) (by unfold Func.isWrapper; first | (rw [if_pos (by decide +kernel)]; kernel_rfl) | (rw [if_neg (by decide +kernel)]; exact ⟨rfl, rfl⟩))
    (fun os started H enc _ => lifted os started H enc)

/-- THE STATEMENT -/
theorem proved : Rows.FloDoubleSaid := over
#print axioms proved
end Go.Proofs.Ytlcdkeajbboeiaa.floDouble
