/- THE LAW FloOrder: whatever the arguments, the call returns true, and they read as they did. No condition. -/
import Derived.Test.YtlcdkeajbboeiaaRows
import Derived.Test.YtlcdkeajbboeiaaW4
import Derived.Test.YtlcdkeajbboeiaaKit
namespace Go.Proofs.Ytlcdkeajbboeiaa.floOrder
open Go.ChangeShapes Go.WideShapes Go.ChangeAt Go.RowKit AnteFlo
set_option linter.unusedVariables false

theorem order_swap_eq {x y : Nat} (h : (D.order x y == some .eq) = (code x == code y)) : (FloatKind.f64.format.order x y == some .eq) = (code x == code y) := h

theorem zero_run (s : Bool) {r : Nat} (hr : r ≤ 9218868437227405312) : (FloatKind.f64.format.order (D.word s r) 0 == some .eq) = decide (r = 0) := order_zero_eq s hr

theorem code_lt_nan {b : Nat} (hb : b < 18446744073709551616) (h : isNan b = false) : code b < 9221120237041090561 := by
  rcases word_cases hb with h1 | ⟨s, r, hr, rfl⟩
  · rw [h] at h1; cases h1
  · rw [code_word s hr]; cases s <;> simp <;> omega

theorem walk (a0 a1 : Nat) (w0 : (Lit.float .f64 a0).wf = true) (w1 : (Lit.float .f64 a1).wf = true) (w : World) :
    Calls Try.prog 5 #[.float .f64 a0, .float .f64 a1] w fun e w' => e = .returned (.bool true) ∧ Below w.heap.size w w' := by
  have hb : a0 < 18446744073709551616 := by simpa [Lit.wf] using w0
  have hc : a1 < 18446744073709551616 := by simpa [Lit.wf] using w1
  have HB := Lib.hid hb
  have HC := Lib.hid hc
  have o0 := order_self hb
  have o1 := order_self hc
  have e0 : (FloatKind.f64.format.order a0 a0 == some .eq) = !(isNan a0) := by
    rw [← o0]; simp [bne]
  have e1 : (FloatKind.f64.format.order a1 a1 == some .eq) = !(isNan a1) := by
    rw [← o1]; simp [bne]
  clear w0 w1 hb hc
  cases n0 : isNan a0
  · cases n1 : isNan a1
    · -- two numbers
      obtain ⟨s, r, hr, rfl⟩ : ∃ s r, r ≤ 9218868437227405312 ∧ a0 = D.word s r := by
        rcases word_cases HB.out with h | h
        · rw [n0] at h; cases h
        · exact h
      obtain ⟨t, q, hq, rfl⟩ : ∃ s r, r ≤ 9218868437227405312 ∧ a1 = D.word s r := by
        rcases word_cases HC.out with h | h
        · rw [n1] at h; cases h
        · exact h
      rw [n0] at o0 e0
      rw [n1] at o1 e1
      clear n0 n1
      by_cases hz : r = 0 ∧ q = 0
      · obtain ⟨rfl, rfl⟩ := hz
        have z0 := zero_run s hr
        have z1 := zero_run t hq
        rw [decide_eq_true rfl] at z0 z1
        have g0 := div_run (x := 4607182418800017408) (y := D.word s 0) (r := D.word s 9218868437227405312) (by
          have := div_word_zero false s (r := 4607182418800017408) (by omega) (by omega)
          rw [word_false] at this; rw [this]; simp)
        have g1 := div_run (x := 4607182418800017408) (y := D.word t 0) (r := D.word t 9218868437227405312) (by
          have := div_word_zero false t (r := 4607182418800017408) (by omega) (by omega)
          rw [word_false] at this; rw [this]; simp)
        have c0 : code (D.word s 0) = if s then -1 else 0 := by rw [code_word s (by omega)]; cases s <;> rfl
        have c1 : code (D.word t 0) = if t then -1 else 0 := by rw [code_word t (by omega)]; cases t <;> rfl
        have l0 : (FloatKind.f64.format.order (D.word s 9218868437227405312) (D.word t 9218868437227405312) == some .lt) = (s && !t) := by
          change (D.order _ _ == some .lt) = _
          rw [order_word s t (by omega) (by omega)]; cases s <;> cases t <;> rfl
        have l1 : (FloatKind.f64.format.order (D.word s 9218868437227405312) (D.word t 9218868437227405312) == some .eq) = (s == t) := by
          change (D.order _ _ == some .eq) = _
          rw [order_word s t (by omega) (by omega)]; cases s <;> cases t <;> rfl
        clear hr hq
        generalize D.word s 0 = x at *
        generalize D.word t 0 = y at *
        generalize D.word s 9218868437227405312 = x' at *
        generalize D.word t 9218868437227405312 = y' at *
        cases s <;> cases t <;> simp only [if_true, Bool.false_eq_true, if_false] at c0 c1
        all_goals
          go_enter Try.func5, Try.ntmps5
          go_wp2_with fail
          refine (awake_any _).mono ?_; rintro e w' ⟨rfl, rfl⟩
          go_wp2_with fail
          refine (code_any HB.out _).mono ?_; rintro e w' ⟨rfl, rfl⟩
          go_wp2_with fail
          refine (code_any HC.out _).mono ?_; rintro e w' ⟨rfl, rfl⟩
          go_wp2_with fail
          go_ret
          exact ⟨rfl, Below.refl _ _⟩
      · have hoc := order_codes (s := s) (t := t) hr hq hz
        have l0 : (FloatKind.f64.format.order (D.word s r) (D.word t q) == some .lt) = decide (code (D.word s r) < code (D.word t q)) := by
          change (D.order _ _ == some .lt) = _
          rw [Bool.eq_iff_iff, decide_eq_true_iff]; exact hoc.1.symm
        have l1 : (FloatKind.f64.format.order (D.word s r) (D.word t q) == some .eq) = (code (D.word s r) == code (D.word t q)) := by
          change (D.order _ _ == some .eq) = _
          rw [Bool.eq_iff_iff, ← hoc.2]; exact beq_iff_eq.symm
        have z0 := zero_run s hr
        have z1 := zero_run t hq
        have hzz : decide (r = 0) = false ∨ decide (r = 0) = true ∧ decide (q = 0) = false := by
          by_cases h0 : r = 0
          · right; exact ⟨by simp [h0], by simp; omega⟩
          · left; simp [h0]
        clear hr hq hz hoc
        generalize D.word s r = x at *
        generalize D.word t q = y at *
        rcases hzz with hz | ⟨hz, hz2⟩
        · rw [hz] at z0
          clear hz
          go_enter Try.func5, Try.ntmps5
          go_wp2_with fail
          refine (awake_any _).mono ?_; rintro e w' ⟨rfl, rfl⟩
          go_wp2_with fail
          refine (code_any HB.out _).mono ?_; rintro e w' ⟨rfl, rfl⟩
          go_wp2_with fail
          refine (code_any HC.out _).mono ?_; rintro e w' ⟨rfl, rfl⟩
          go_wp2_with fail
          all_goals go_ret
          all_goals exact ⟨by first | rfl | (simp; done), Below.refl _ _⟩
        · rw [hz] at z0
          rw [hz2] at z1
          clear hz hz2
          go_enter Try.func5, Try.ntmps5
          go_wp2_with fail
          refine (awake_any _).mono ?_; rintro e w' ⟨rfl, rfl⟩
          go_wp2_with fail
          refine (code_any HB.out _).mono ?_; rintro e w' ⟨rfl, rfl⟩
          go_wp2_with fail
          refine (code_any HC.out _).mono ?_; rintro e w' ⟨rfl, rfl⟩
          go_wp2_with fail
          all_goals go_ret
          all_goals exact ⟨by first | rfl | (simp; done), Below.refl _ _⟩
    · -- a number, NaN
      rw [n0] at o0 e0
      rw [n1] at o1 e1
      have c1 := code_nan n1
      have c2 : (9221120237041090561 < code a0) = False := eq_false (by have := code_lt_nan HB.out n0; omega)
      have c3 : (code a0 == 9221120237041090561) = false := beq_eq_false_iff_ne.2 (by have := code_lt_nan HB.out n0; omega)
      clear n0 n1
      go_enter Try.func5, Try.ntmps5
      go_wp2_with fail
      refine (awake_any _).mono ?_; rintro e w' ⟨rfl, rfl⟩
      go_wp2_with fail
      refine (code_any HB.out _).mono ?_; rintro e w' ⟨rfl, rfl⟩
      go_wp2_with fail
      refine (code_any HC.out _).mono ?_; rintro e w' ⟨rfl, rfl⟩
      go_wp2_with fail
      go_ret
      exact ⟨rfl, Below.refl _ _⟩
  · cases n1 : isNan a1
    · rw [n0] at o0 e0
      rw [n1] at o1 e1
      have c1 := code_nan n0
      have c2 : (code a1 < 9221120237041090561) = True := eq_true (code_lt_nan HC.out n1)
      have c3 : (9221120237041090561 == code a1) = false := beq_eq_false_iff_ne.2 (by have := code_lt_nan HC.out n1; omega)
      clear n0 n1
      go_enter Try.func5, Try.ntmps5
      go_wp2_with fail
      refine (awake_any _).mono ?_; rintro e w' ⟨rfl, rfl⟩
      go_wp2_with fail
      refine (code_any HB.out _).mono ?_; rintro e w' ⟨rfl, rfl⟩
      go_wp2_with fail
      refine (code_any HC.out _).mono ?_; rintro e w' ⟨rfl, rfl⟩
      go_wp2_with fail
      go_ret
      exact ⟨rfl, Below.refl _ _⟩
    · rw [n0] at o0 e0
      rw [n1] at o1 e1
      have c0 := code_nan n0
      have c1 := code_nan n1
      clear n0 n1
      go_enter Try.func5, Try.ntmps5
      go_wp2_with fail
      refine (awake_any _).mono ?_; rintro e w' ⟨rfl, rfl⟩
      go_wp2_with fail
      refine (code_any HB.out _).mono ?_; rintro e w' ⟨rfl, rfl⟩
      go_wp2_with fail
      refine (code_any HC.out _).mono ?_; rintro e w' ⟨rfl, rfl⟩
      go_wp2_with fail
      go_ret
      exact ⟨rfl, Below.refl _ _⟩

theorem own : ownKnob Try.prog.godebug = none := by kernel_rfl
theorem laid_out : laidOutB Try.prog = true := by kernel_rfl

set_option maxRecDepth 100000 in
theorem lifted (os : Os) (started : os.Started) (H : Type) (enc : TypeId × Value → H) :
    ReturnsInHanded {} Try.checked os 5 .any (Rows.floOrderSpec.pre6 enc Try.prog Try.f5 Rows.floOrderRow.domain false) (Rows.floOrderSpec.post enc Try.prog Try.f5 false true false false) := by
  refine returnsInHanded_of_change (C := Try.checked) own started (by kernel_rfl) Try.func5
    (ChangeSpec.witness6 (enc := enc) (C := Try.checked) false ⟨#[], #[.float .f64 0, .float .f64 0], []⟩ 8 (by kernel_rfl) (by kernel_rfl) (by kernel_rfl) (by kernel_rfl)) ?_
  intro W base args ds gs before hval0 hW hcnd _
  have hval : ∀ (j : Nat) t v, Try.f5.params[j]? = some t → args[j]? = some v → Value.okWide Try.prog W .any base t v := hval0
  have hW' := hW
  obtain ⟨p, q, hA0, hV, rfl, hfz, hnd⟩ := hW
  have hA : DataW.TrodAll enc Try.prog W 0 (fun _ => true) true Try.f5.params.toList args.toList ds p := hA0
  rw [Try.params5] at hA hval
  obtain ⟨v0, vs0, d0, ds0, p0, q0, hargs, rfl, rfl, h0, r0⟩ := trodAll_cons hA
  obtain ⟨v1, vs1, d1, ds1, p1, q1, rfl, rfl, rfl, h1, r1⟩ := trodAll_cons r0
  obtain ⟨rfl, rfl, rfl⟩ := trodAll_nil r1
  obtain rfl : args = #[v0, v1] := by cases args; simp_all
  obtain ⟨rfl, rfl⟩ := trodVars_none hV
  obtain ⟨a0, rfl, rfl, rfl, w0⟩ := open_float Try.underlying22 (hval 0 22 v0 rfl rfl) h0
  obtain ⟨a1, rfl, rfl, rfl, w1⟩ := open_float Try.underlying22 (hval 1 22 v1 rfl rfl) h1
  clear hA0 hval0
  refine (walk a0 a1 w0 w1 W).mono fun e W' ⟨he, hg⟩ => ?_
  subst he
  exact ⟨_, rfl, LawKit.post_law laid_out (by kernel_rfl) rfl Try.underlying4 rfl hW' ⟨rfl, rfl, rfl⟩ hg⟩

theorem over : Rows.floOrderRow.holds Try.pinned (OpenSpec.ofChange Rows.floOrderSpec) :=
  OpenClaim.holds_of_wide 5 Try.f5 rfl rfl rfl rfl rfl rfl rfl ⟨rfl, rfl, rfl, rfl, rfl⟩ rfl rfl rfl rfl rfl (by kernel_rfl) Try.func5 (by kernel_rfl)
    (of_decide_eq_true (by kernel_rfl)) (by unfold Func.isWrapper; first | (rw [if_pos (by decide +kernel)]; kernel_rfl) | (rw [if_neg (by decide +kernel)]; exact ⟨rfl, rfl⟩))
    (fun os started H enc _ => lifted os started H enc)

/-- THE STATEMENT -/
theorem proved : Rows.FloOrderSaid := over
#print axioms proved
end Go.Proofs.Ytlcdkeajbboeiaa.floOrder
