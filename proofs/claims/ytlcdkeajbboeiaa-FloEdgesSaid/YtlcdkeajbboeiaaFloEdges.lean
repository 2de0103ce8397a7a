/- THE LAW FloEdges: whatever the arguments, the call returns true, and they read as they did. No condition. -/
import Derived.Test.YtlcdkeajbboeiaaRows
import Derived.Test.YtlcdkeajbboeiaaW4
import Derived.Test.YtlcdkeajbboeiaaKit
namespace Go.Proofs.Ytlcdkeajbboeiaa.floEdges
open Go.ChangeShapes Go.WideShapes Go.ChangeAt Go.RowKit AnteFlo
set_option linter.unusedVariables false

theorem walk (a0 : Int) (w0 : (Lit.int .i64 a0).wf = true) (w : World) :
    Calls Try.prog 9 #[.int .i64 a0] w fun e w' => e = .returned (.bool true) ∧ Below w.heap.size w w' := by
  have H0 := Lib.hid (bounds_i64 w0)
  clear w0
  have hd := drewN_drewN
  have g1 := gOf_zero
  have g2 := edge_inf
  rw [g1] at g2
  have g3 := edge_low
  have g4 := edge_nan
  have g5 := edge_sub
  have g6 := edge_mul
  have g7 := edge_div
  have g8 := edge_add
  have HI : Hid (-9223372036854775808 ≤ (9218868437227405312 : Int) ∧ (9218868437227405312 : Int) ≤ 9223372036854775807) := ⟨by omega, by omega⟩
  have HL : Hid (-9223372036854775808 ≤ (-9218868437227405313 : Int) ∧ (-9218868437227405313 : Int) ≤ 9223372036854775807) := ⟨by omega, by omega⟩
  have HZ : Hid (-9223372036854775808 ≤ (0 : Int) ∧ (0 : Int) ≤ 9223372036854775807) := ⟨by omega, by omega⟩
  obtain ⟨m, hm⟩ : ∃ m, gOf 1 = m := ⟨_, rfl⟩
  have Hm : Hid (-9223372036854775808 ≤ m ∧ m ≤ 9223372036854775807) := by rw [← hm]; exact gOf_in ..
  rw [hm] at g2
  go_enter Try.func9, Try.ntmps9
  go_wp2_with fail
  refine (awake_any _).mono ?_; rintro e w' ⟨rfl, rfl⟩
  go_wp2_with fail
  refine (of_c _ _).mono ?_; rintro e w' ⟨rfl, rfl⟩
  go_wp2_with fail
  refine (of_c _ _).mono ?_; rintro e w' ⟨rfl, rfl⟩
  go_wp2_with fail
  refine (div_c Hm.out HZ.out _).mono ?_; rintro e w' ⟨rfl, k1, rfl⟩
  go_wp2_with fail
  refine (of_c _ _).mono ?_; rintro e w' ⟨rfl, rfl⟩
  go_wp2_with fail
  refine (sub_c HZ.out HI.out _).mono ?_; rintro e w' ⟨rfl, k2, rfl⟩
  go_wp2_with fail
  refine (div_c HZ.out HZ.out _).mono ?_; rintro e w' ⟨rfl, k3, rfl⟩
  go_wp2_with fail
  refine (sub_c HI.out HI.out _).mono ?_; rintro e w' ⟨rfl, k4, rfl⟩
  go_wp2_with fail
  refine (mul_c HI.out HZ.out _).mono ?_; rintro e w' ⟨rfl, k5, rfl⟩
  go_wp2_with fail
  refine (div_c HI.out HI.out _).mono ?_; rintro e w' ⟨rfl, k6, rfl⟩
  go_wp2_with fail
  refine (add_c HI.out HL.out _).mono ?_; rintro e w' ⟨rfl, k7, rfl⟩
  go_wp2_with fail
  refine (right_any _ _).mono ?_; rintro e w' ⟨rfl, rfl⟩
  generalize k1 + k2 + k3 + k4 + k5 + k6 + k7 = K
  by_cases h : right a0 = false ∨ a0 = 9221120237041090561
  · obtain ⟨b1, b2⟩ := edge_bad h
    have hc : right a0 = false ∨ (right a0 = true ∧ (a0 == 9221120237041090561) = true) := by
      rcases h with h | h
      · exact .inl h
      · subst h; exact .inr ⟨rfl, by simp⟩
    clear h
    rcases hc with hc | ⟨hc, hc2⟩
    all_goals
      go_wp2_with fail
      refine (add_c H0.out HI.out _).mono ?_; rintro e w' ⟨rfl, j1, rfl⟩
      go_wp2_with fail
      refine (mul_c H0.out HZ.out _).mono ?_; rintro e w' ⟨rfl, j2, rfl⟩
      go_wp2_with fail
      go_ret
      exact ⟨rfl, below_drewN (Below.refl _ _) _⟩
  · have h1 : right a0 = true := by cases hr : right a0 <;> simp_all
    have h2 : a0 ≠ 9221120237041090561 := fun e => h (.inr e)
    obtain ⟨s, r, hr, hn, _⟩ := good h1 h2
    have hne : (a0 == 9221120237041090561) = false := beq_eq_false_iff_ne.2 h2
    clear h h2
    by_cases hi : a0 = 9218868437227405312
    · subst hi
      obtain ⟨b1, b2⟩ := edge_inf_inf
      rw [hm] at b2
      clear hn hr
      go_wp2_with fail
      refine (add_c HI.out HI.out _).mono ?_; rintro e w' ⟨rfl, j1, rfl⟩
      go_wp2_with fail
      refine (of_c _ _).mono ?_; rintro e w' ⟨rfl, rfl⟩
      go_wp2_with fail
      refine (div_c Hm.out HI.out _).mono ?_; rintro e w' ⟨rfl, j2, rfl⟩
      go_wp2_with fail
      go_ret
      exact ⟨rfl, below_drewN (Below.refl _ _) _⟩
    · by_cases hl : a0 = -9218868437227405313
      · subst hl
        obtain ⟨b1, b2⟩ := edge_low_low
        rw [hm] at b2
        clear hn hr hi
        go_wp2_with fail
        refine (add_c HL.out HL.out _).mono ?_; rintro e w' ⟨rfl, j1, rfl⟩
        go_wp2_with fail
        refine (of_c _ _).mono ?_; rintro e w' ⟨rfl, rfl⟩
        go_wp2_with fail
        refine (div_c Hm.out HL.out _).mono ?_; rintro e w' ⟨rfl, j2, rfl⟩
        go_wp2_with fail
        go_ret
        exact ⟨rfl, below_drewN (Below.refl _ _) _⟩
      · have hr2 : r < 9218868437227405312 := by
          rcases Nat.lt_or_ge r 9218868437227405312 with h | h
          · exact h
          · have : r = 9218868437227405312 := by omega
            subst this
            cases s
            · exact (hi (by simpa using hn)).elim
            · exact (hl (by simpa using hn)).elim
        obtain ⟨b1, b2, b3, b4⟩ := edge_finite hn hr2
        have f1 : (a0 == 9218868437227405312) = false := beq_eq_false_iff_ne.2 hi
        have f2 : (a0 == -9218868437227405313) = false := beq_eq_false_iff_ne.2 hl
        clear hi hl hr hr2
        have hsg : s = false ∧ 0 ≤ a0 ∨ s = true ∧ a0 ≤ -1 := by
          cases s
          · left; simp at hn; exact ⟨rfl, by omega⟩
          · right; simp at hn; exact ⟨rfl, by omega⟩
        clear hn
        have hsg2 : (s = false ∧ a0 = 0) ∨ (s = false ∧ 1 ≤ a0) ∨ (s = true ∧ a0 = -1) ∨ (s = true ∧ a0 ≤ -2) := by
          rcases hsg with ⟨h, _⟩ | ⟨h, _⟩
          · by_cases h0 : a0 = 0
            · exact .inl ⟨h, h0⟩
            · exact .inr (.inl ⟨h, by omega⟩)
          · by_cases h0 : a0 = -1
            · exact .inr (.inr (.inl ⟨h, h0⟩))
            · exact .inr (.inr (.inr ⟨h, by omega⟩))
        clear hsg
        rcases hsg2 with ⟨rfl, rfl⟩ | ⟨rfl, hs⟩ | ⟨rfl, rfl⟩ | ⟨rfl, hs⟩ <;> simp only [if_true, Bool.false_eq_true, if_false] at b3
        all_goals
          go_wp2_with fail
          refine (add_c H0.out HI.out _).mono ?_; rintro e w' ⟨rfl, j1, rfl⟩
          go_wp2_with fail
          refine (add_c H0.out HL.out _).mono ?_; rintro e w' ⟨rfl, j2, rfl⟩
          go_wp2_with fail
          refine (div_c H0.out HI.out _).mono ?_; rintro e w' ⟨rfl, j3, rfl⟩
          go_wp2_with fail
          refine (sub_c H0.out H0.out _).mono ?_; rintro e w' ⟨rfl, j4, rfl⟩
          go_wp2_with fail
          go_ret
          exact ⟨rfl, below_drewN (Below.refl _ _) _⟩

theorem own : ownKnob Try.prog.godebug = none := by kernel_rfl
theorem laid_out : laidOutB Try.prog = true := by kernel_rfl

set_option maxRecDepth 100000 in
theorem lifted (os : Os) (started : os.Started) (H : Type) (enc : TypeId × Value → H) :
    ReturnsInHanded {} Try.checked os 9 .any (Rows.floEdgesSpec.pre6 enc Try.prog Try.f9 Rows.floEdgesRow.domain false) (Rows.floEdgesSpec.post enc Try.prog Try.f9 false true false false) := by
  refine returnsInHanded_of_change (C := Try.checked) own started (by kernel_rfl) Try.func9
    (ChangeSpec.witness6 (enc := enc) (C := Try.checked) false ⟨#[], #[.int .i64 0], []⟩ 8 (by kernel_rfl) (by kernel_rfl) (by kernel_rfl) (by kernel_rfl)) ?_
  intro W base args ds gs before hval0 hW hcnd _
  have hval : ∀ (j : Nat) t v, Try.f9.params[j]? = some t → args[j]? = some v → Value.okWide Try.prog W .any base t v := hval0
  have hW' := hW
  obtain ⟨p, q, hA0, hV, rfl, hfz, hnd⟩ := hW
  have hA : DataW.TrodAll enc Try.prog W 0 (fun _ => true) true Try.f9.params.toList args.toList ds p := hA0
  rw [Try.params9] at hA hval
  obtain ⟨v0, vs0, d0, ds0, p0, q0, hargs, rfl, rfl, h0, r0⟩ := trodAll_cons hA
  obtain ⟨rfl, rfl, rfl⟩ := trodAll_nil r0
  obtain rfl : args = #[v0] := by cases args; simp_all
  obtain ⟨rfl, rfl⟩ := trodVars_none hV
  obtain ⟨a0, rfl, rfl, rfl, w0⟩ := open_int Try.underlying2 (hval 0 2 v0 rfl rfl) h0
  clear hA0 hval0
  refine (walk a0 w0 W).mono fun e W' ⟨he, hg⟩ => ?_
  subst he
  exact ⟨_, rfl, LawKit.post_law laid_out (by kernel_rfl) rfl Try.underlying4 rfl hW' ⟨rfl, rfl, rfl⟩ hg⟩

theorem over : Rows.floEdgesRow.holds Try.pinned (OpenSpec.ofChange Rows.floEdgesSpec) :=
  OpenClaim.holds_of_wide 9 Try.f9 rfl rfl rfl rfl rfl rfl rfl ⟨rfl, rfl, rfl, rfl, rfl⟩ rfl rfl rfl rfl rfl (by kernel_rfl) Try.func9 (by kernel_rfl)
    (of_decide_eq_true (by kernel_rfl)) (by unfold Func.isWrapper; first | (rw [if_pos (by decide +kernel)]; kernel_rfl) | (rw [if_neg (by decide +kernel)]; exact ⟨rfl, rfl⟩))
    (fun os started H enc _ => lifted os started H enc)

/-- THE STATEMENT -/
theorem proved : Rows.FloEdgesSaid := over
#print axioms proved
end Go.Proofs.Ytlcdkeajbboeiaa.floEdges
