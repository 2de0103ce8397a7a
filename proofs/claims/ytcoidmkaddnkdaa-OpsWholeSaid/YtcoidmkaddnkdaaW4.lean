/- THE WALKS OF THE REFERENCE'S WAY BACK, OF same, awake AND THE FOUR OPERATIONS. No condition. -/
import Derived.Test.YtcoidmkaddnkdaaW3
namespace Go.Proofs.Ytcoidmkaddnkdaa
open Go.RowKit AnteFlo

theorem mul_any (a b : Int) (ha : -9223372036854775808 ≤ a ∧ a ≤ 9223372036854775807) (hb : -9223372036854775808 ≤ b ∧ b ≤ 9223372036854775807) (w : World) :
    Calls Try.prog 18 #[.int .i64 a, .int .i64 b] w fun e w' => e = .returned (.int .i64 (ocode (fop 2 (back a) (back b)))) ∧ w' = fworld 2 (back a) (back b) w := by
  have hf := @run_fmul Try.prog
  go_enter Try.func18, Try.ntmps18
  go_wp2_with fail
  refine (back_any a ha _).mono ?_; rintro e w' ⟨rfl, rfl⟩
  go_wp2_with fail
  refine (back_any b hb _).mono ?_; rintro e w' ⟨rfl, rfl⟩
  go_wp2_with fail
  refine (code_any (fbits_lt _ _ _ _) _).mono ?_; rintro e w' ⟨rfl, rfl⟩
  go_wp2_with fail
  go_ret
  exact ⟨ret_int (fbits_code _ _ _ _), rfl⟩

theorem sub_any (a b : Int) (ha : -9223372036854775808 ≤ a ∧ a ≤ 9223372036854775807) (hb : -9223372036854775808 ≤ b ∧ b ≤ 9223372036854775807) (w : World) :
    Calls Try.prog 17 #[.int .i64 a, .int .i64 b] w fun e w' => e = .returned (.int .i64 (ocode (fop 1 (back a) (back b)))) ∧ w' = fworld 1 (back a) (back b) w := by
  have hf := @run_fsub Try.prog
  go_enter Try.func17, Try.ntmps17
  go_wp2_with fail
  refine (back_any a ha _).mono ?_; rintro e w' ⟨rfl, rfl⟩
  go_wp2_with fail
  refine (back_any b hb _).mono ?_; rintro e w' ⟨rfl, rfl⟩
  go_wp2_with fail
  refine (code_any (fbits_lt _ _ _ _) _).mono ?_; rintro e w' ⟨rfl, rfl⟩
  go_wp2_with fail
  go_ret
  exact ⟨ret_int (fbits_code _ _ _ _), rfl⟩

theorem ofInt_lt (n : Int) : ofInt n < 18446744073709551616 := Ieee.Format.write_lt D _

theorem add_c {a b : Int} (ha : -9223372036854775808 ≤ a ∧ a ≤ 9223372036854775807) (hb : -9223372036854775808 ≤ b ∧ b ≤ 9223372036854775807) (w : World) :
    Calls Try.prog 16 #[.int .i64 a, .int .i64 b] w fun e w' => e = .returned (.int .i64 (gAdd a b)) ∧ ∃ n, w' = w.drewN n :=
  (add_any a b ha hb w).mono fun _ _ ⟨h1, h2⟩ => ⟨h1, by rw [h2]; exact fworld_drewN ..⟩
theorem sub_c {a b : Int} (ha : -9223372036854775808 ≤ a ∧ a ≤ 9223372036854775807) (hb : -9223372036854775808 ≤ b ∧ b ≤ 9223372036854775807) (w : World) :
    Calls Try.prog 17 #[.int .i64 a, .int .i64 b] w fun e w' => e = .returned (.int .i64 (gSub a b)) ∧ ∃ n, w' = w.drewN n :=
  (sub_any a b ha hb w).mono fun _ _ ⟨h1, h2⟩ => ⟨h1, by rw [h2]; exact fworld_drewN ..⟩
theorem mul_c {a b : Int} (ha : -9223372036854775808 ≤ a ∧ a ≤ 9223372036854775807) (hb : -9223372036854775808 ≤ b ∧ b ≤ 9223372036854775807) (w : World) :
    Calls Try.prog 18 #[.int .i64 a, .int .i64 b] w fun e w' => e = .returned (.int .i64 (gMul a b)) ∧ ∃ n, w' = w.drewN n :=
  (mul_any a b ha hb w).mono fun _ _ ⟨h1, h2⟩ => ⟨h1, by rw [h2]; exact fworld_drewN ..⟩
theorem gAdd_in (a b : Int) : -9223372036854775808 ≤ gAdd a b ∧ gAdd a b ≤ 9223372036854775807 := ocode_range _
theorem gSub_in (a b : Int) : -9223372036854775808 ≤ gSub a b ∧ gSub a b ≤ 9223372036854775807 := ocode_range _
theorem gMul_in (a b : Int) : -9223372036854775808 ≤ gMul a b ∧ gMul a b ≤ 9223372036854775807 := ocode_range _
theorem gDiv_in (a b : Int) : -9223372036854775808 ≤ gDiv a b ∧ gDiv a b ≤ 9223372036854775807 := ocode_range _
theorem gOf_in (n : Int) : -9223372036854775808 ≤ gOf n ∧ gOf n ≤ 9223372036854775807 := code_range _

theorem drewN_drewN (w : World) (a b : Nat) : (w.drewN a).drewN b = w.drewN (a + b) := by
  unfold World.drewN; simp [Nat.add_assoc]

theorem refBack_any (n : Int) (hn : -9223372036854775808 ≤ n ∧ n ≤ 9223372036854775807) (w : World) :
    Calls Try.prog 25 #[.int .i64 n] w fun e w' => ∃ b, e = .returned (.float .f64 b) ∧ alike b (back n) ∧ b < 18446744073709551616 ∧ ∃ k, w' = w.drewN k := by
  rcases back_cases n with ⟨h, hb⟩ | ⟨s, r, hr, rfl, hb, h1, h2⟩
  · have hd := @run_fdiv Try.prog
    have hf : ∀ w : World, alike (fbits 3 0 0 w) (back n) := fun w => .inr ⟨fbits_none (by rw [fop3, show (0 : Nat) = D.word false 0 from (word_false 0).symm, div_zero_zero]) w, by rw [hb]; exact nan_is⟩
    have HF := Lib.hid hf
    clear hf
    have hc : right n = false ∨ (right n = true ∧ (n == 9221120237041090561) = true) := by
      rcases h with h | h
      · exact .inl h
      · subst h; exact .inr ⟨rfl, by simp⟩
    clear h hb
    rcases hc with hc | ⟨hc, hc2⟩
    · go_enter Try.func25, Try.ntmps25
      go_wp2_with fail
      refine (refRight_any _ _).mono ?_; rintro e w' ⟨rfl, rfl⟩
      go_wp2_with fail
      go_ret
      exact ⟨_, rfl, HF.out _, fbits_lt .., fworld_drewN ..⟩
    · go_enter Try.func25, Try.ntmps25
      go_wp2_with fail
      refine (refRight_any _ _).mono ?_; rintro e w' ⟨rfl, rfl⟩
      go_wp2_with fail
      go_ret
      exact ⟨_, rfl, HF.out _, fbits_lt .., fworld_drewN ..⟩
  · cases s
    · simp only [Bool.false_eq_true, if_false] at hb hn h1 h2 ⊢
      rw [hb]
      refine (refBack_pos hr w).mono ?_
      rintro e w' ⟨rfl, rfl⟩
      exact ⟨_, rfl, .inl (word_false r).symm, by omega, 0, rfl⟩
    · simp only [if_true] at hb hn h1 h2 ⊢
      rw [hb]
      have hne : ((-1 - (r : Int)) == 9221120237041090561) = false := beq_eq_false_iff_ne.2 h2
      by_cases h0 : r = 0
      · subst h0
        have g1 := div_run (x := 4607182418800017408) (y := 0) (r := 9218868437227405312) (by
          have := div_word_zero false false (r := 4607182418800017408) (by omega) (by omega)
          rw [word_false, word_false] at this; rw [this]; simp [word_false])
        have g2 := div_run (x := 13830554455654793216) (y := 9218868437227405312) (r := D.word true 0) (by
          have := div_word_inf true false (r := 4607182418800017408) (by omega)
          rw [word_false, word_true] at this; rw [this]; rfl)
        have hr1 : right (-1) = true := h1
        have HW : Hid (D.word true 0 < 18446744073709551616) := word_lt true (by omega)
        generalize D.word true 0 = y at *
        clear hb h1 h2 hn
        simp only [Int.natCast_zero, Int.sub_zero] at hne ⊢
        go_enter Try.func25, Try.ntmps25
        go_wp2_with fail
        refine (refRight_any _ _).mono ?_; rintro e w' ⟨rfl, rfl⟩
        go_wp2_with fail
        go_ret
        exact ⟨_, rfl, .inl rfl, HW.out, 0, rfl⟩
      · have g1 := sub_run (x := 0) (y := r) (r := D.word true r) (by
          have h := sub_word 0 false (q := r) (by omega)
          rw [word_false] at h
          rw [h]
          rcases Nat.lt_or_ge r 9218868437227405312 with hl | hl
          · have := add_exact false true true (r := 0) (q := r) (x := r) (by omega) hl hl (by simp [sval, val_zero]) (fun e => absurd e h0)
            rw [word_false] at this; exact this
          · obtain rfl : r = 9218868437227405312 := by omega
            have := add_word_inf false true (r := 0) (by omega)
            rw [word_false] at this; exact this)
        have HW : Hid (D.word true r < 18446744073709551616) := word_lt true (by omega)
        have hm1 : ((-1 - (r : Int)) == -1) = false := beq_eq_false_iff_ne.2 (by omega)
        have hlt : ((-1 - (r : Int)) < 0) = True := eq_true (by omega)
        have hback : (-1 - (-1 - (r : Int))) = (r : Int) := by omega
        have hb1 : (r : Int) ≤ 9223372036854775806 := by omega
        obtain ⟨n, hn'⟩ : ∃ n : Int, n = -1 - (r : Int) := ⟨_, rfl⟩
        rw [← hn'] at hne hm1 hlt hback h1 ⊢
        have HN := Lib.hid hn'
        generalize D.word true r = y at *
        clear hn' hb h2 hn h0
        go_enter Try.func25, Try.ntmps25
        go_wp2_with fail
        refine (refRight_any _ _).mono ?_; rintro e w' ⟨rfl, rfl⟩
        go_wp2_with fail
        refine (refBack_pos hr _).mono ?_; rintro e w' ⟨rfl, rfl⟩
        go_wp2_with fail
        go_ret
        exact ⟨_, rfl, .inl rfl, HW.out, 0, rfl⟩
end Go.Proofs.Ytcoidmkaddnkdaa
