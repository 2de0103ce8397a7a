/- THE WALKS OF THE REFERENCE'S WAY BACK, OF same, awake AND THE FOUR OPERATIONS. No condition. -/
import Derived.Test.YtlcdkeajbboeiaaW3
namespace Go.Proofs.Ytlcdkeajbboeiaa
open Go.RowKit AnteFlo

theorem mul_any (a b : Int) (ha : -9223372036854775808 ≤ a ∧ a ≤ 9223372036854775807) (hb : -9223372036854775808 ≤ b ∧ b ≤ 9223372036854775807) (w : World) :
    Calls Try.prog 19 #[.int .i64 a, .int .i64 b] w fun e w' => e = .returned (.int .i64 (ocode (fop 2 (back a) (back b)))) ∧ w' = fworld 2 (back a) (back b) w := by
  have hf := @run_fmul Try.prog
  go_enter Try.func19, Try.ntmps19
  go_wp2_with fail
  refine (back_any a ha _).mono ?_; rintro e w' ⟨rfl, rfl⟩
  go_wp2_with fail
  refine (back_any b hb _).mono ?_; rintro e w' ⟨rfl, rfl⟩
  go_wp2_with fail
  refine (code_any (fbits_lt _ _ _ _) _).mono ?_; rintro e w' ⟨rfl, rfl⟩
  go_wp2_with fail
  go_ret
  exact ⟨ret_int (fbits_code _ _ _ _), rfl⟩

theorem sub_any (a b : Int) (ha : -9223372036854775808 ≤ a ∧ a ≤ 9223372036854775807) (hb : -9223372036854775808 ≤ b ∧ b ≤ 9223372036854775807) (w : World) :
    Calls Try.prog 21 #[.int .i64 a, .int .i64 b] w fun e w' => e = .returned (.int .i64 (ocode (fop 1 (back a) (back b)))) ∧ w' = fworld 1 (back a) (back b) w := by
  have hf := @run_fsub Try.prog
  go_enter Try.func21, Try.ntmps21
  go_wp2_with fail
  refine (back_any a ha _).mono ?_; rintro e w' ⟨rfl, rfl⟩
  go_wp2_with fail
  refine (back_any b hb _).mono ?_; rintro e w' ⟨rfl, rfl⟩
  go_wp2_with fail
  refine (code_any (fbits_lt _ _ _ _) _).mono ?_; rintro e w' ⟨rfl, rfl⟩
  go_wp2_with fail
  go_ret
  exact ⟨ret_int (fbits_code _ _ _ _), rfl⟩

theorem div_any (a b : Int) (ha : -9223372036854775808 ≤ a ∧ a ≤ 9223372036854775807) (hb : -9223372036854775808 ≤ b ∧ b ≤ 9223372036854775807) (w : World) :
    Calls Try.prog 22 #[.int .i64 a, .int .i64 b] w fun e w' => e = .returned (.int .i64 (ocode (fop 3 (back a) (back b)))) ∧ w' = fworld 3 (back a) (back b) w := by
  have hf := @run_fdiv Try.prog
  go_enter Try.func22, Try.ntmps22
  go_wp2_with fail
  refine (back_any a ha _).mono ?_; rintro e w' ⟨rfl, rfl⟩
  go_wp2_with fail
  refine (back_any b hb _).mono ?_; rintro e w' ⟨rfl, rfl⟩
  go_wp2_with fail
  refine (code_any (fbits_lt _ _ _ _) _).mono ?_; rintro e w' ⟨rfl, rfl⟩
  go_wp2_with fail
  go_ret
  exact ⟨ret_int (fbits_code _ _ _ _), rfl⟩

theorem ofInt_lt (n : Int) : ofInt n < 18446744073709551616 := Ieee.Format.write_lt D _

theorem of_any (n : Int) (w : World) : Calls Try.prog 20 #[.int .i64 n] w fun e w' => e = .returned (.int .i64 (code (ofInt n))) ∧ w = w' := by
  have ho := float_of
  go_enter Try.func20, Try.ntmps20
  go_wp2_with fail
  refine (code_any (ofInt_lt n) _).mono ?_; rintro e w' ⟨rfl, rfl⟩
  go_wp2_with fail
  go_ret
  exact ⟨rfl, rfl⟩

theorem same_alike {a b : Nat} (ha : a < 18446744073709551616) (hb : b < 18446744073709551616) (h : alike a b) (w : World) : Calls Try.prog 15 #[.float .f64 a, .float .f64 b] w fun e w' => e = .returned (.bool true) ∧ w = w' := by
  have h1 := order_self ha
  have h2 := order_self hb
  rcases h with rfl | ⟨n1, n2⟩
  · rcases word_cases ha with hn | ⟨s, r, hr, rfl⟩
    · rw [hn] at h1
      clear h2 ha hb hn
      go_enter Try.func15, Try.ntmps15
      go_wp2_with fail
      go_ret
      exact ⟨rfl, rfl⟩
    · rw [isNan_word s (by omega), decide_eq_false (by omega)] at h1
      have h3 : (FloatKind.f64.format.order (D.word s r) (D.word s r) == some .eq) = true := by
        change (D.order (D.word s r) (D.word s r) == some .eq) = true
        rw [order_word s s hr hr]; simp [compare, compareOfLessAndEq]
      by_cases h0 : r = 0
      · subst h0
        have h4 : (FloatKind.f64.format.order (D.word s 0) 0 != some .eq) = false := by
          have h4 := order_zero_eq s (r := 0) (by omega)
          rw [decide_eq_true rfl] at h4
          change (!(D.order (D.word s 0) 0 == some .eq)) = false
          rw [h4]; rfl
        have h5 := div_run (x := 4607182418800017408) (y := D.word s 0) (r := D.word s 9218868437227405312) (by
          have := div_word_zero false s (r := 4607182418800017408) (by omega) (by omega)
          rw [word_false] at this; rw [this]; simp)
        have h6 : (FloatKind.f64.format.order (D.word s 9218868437227405312) (D.word s 9218868437227405312) == some .eq) = true := by
          change (D.order _ _ == some .eq) = true
          rw [order_word s s (by omega) (by omega)]; simp [compare, compareOfLessAndEq]
        generalize D.word s 0 = x at *
        generalize D.word s 9218868437227405312 = y at *
        clear h2 ha hb
        go_enter Try.func15, Try.ntmps15
        go_wp2_with fail
        go_ret
        exact ⟨rfl, rfl⟩
      · have h4 : (FloatKind.f64.format.order (D.word s r) 0 != some .eq) = true := by
          have h4 := order_zero_eq s hr
          rw [decide_eq_false h0] at h4
          change (!(D.order (D.word s r) 0 == some .eq)) = true
          rw [h4]; rfl
        generalize D.word s r = x at *
        clear h2 ha hb
        go_enter Try.func15, Try.ntmps15
        go_wp2_with fail
        go_ret
        exact ⟨rfl, rfl⟩
  · rw [n1] at h1
    rw [n2] at h2
    clear ha hb n1 n2
    go_enter Try.func15, Try.ntmps15
    go_wp2_with fail
    go_ret
    exact ⟨rfl, rfl⟩

theorem awake_any (w : World) : Calls Try.prog 10 #[] w fun e w' => e = .returned (.bool true) ∧ w = w' := by
  have c1 : code 4607182418800017408 = 4607182418800017408 := by unfold code; simp
  have c2 : right 0 = true := by unfold right; simp
  have c3 : code (ofInt 2) = 4611686018427387904 := by rw [ofInt_two, code_word _ (by omega)]; simp
  have c4 : back 4607182418800017408 = 4607182418800017408 := by
    have := back_code false (r := 4607182418800017408) (by omega)
    simpa [word_false] using this
  have c5 := eq_run (r := 4607182418800017408) (q := 4607182418800017408) (by omega) (by omega)
  rw [decide_eq_true rfl] at c5
  go_enter Try.func10, Try.ntmps10
  go_wp2_with fail
  refine (code_any (b := 4607182418800017408) (by omega) _).mono ?_; rintro e w' ⟨rfl, rfl⟩
  go_wp2_with fail
  refine (right_any _ _).mono ?_; rintro e w' ⟨rfl, rfl⟩
  go_wp2_with fail
  refine (of_any _ _).mono ?_; rintro e w' ⟨rfl, rfl⟩
  go_wp2_with fail
  refine (back_any _ (by omega) _).mono ?_; rintro e w' ⟨rfl, rfl⟩
  go_wp2_with fail
  go_ret
  exact ⟨rfl, rfl⟩

/-! ### The contracts as the laws take them: the world has at most drawn. -/
theorem add_c {a b : Int} (ha : -9223372036854775808 ≤ a ∧ a ≤ 9223372036854775807) (hb : -9223372036854775808 ≤ b ∧ b ≤ 9223372036854775807) (w : World) :
    Calls Try.prog 18 #[.int .i64 a, .int .i64 b] w fun e w' => e = .returned (.int .i64 (gAdd a b)) ∧ ∃ n, w' = w.drewN n :=
  (add_any a b ha hb w).mono fun _ _ ⟨h1, h2⟩ => ⟨h1, by rw [h2]; exact fworld_drewN ..⟩
theorem sub_c {a b : Int} (ha : -9223372036854775808 ≤ a ∧ a ≤ 9223372036854775807) (hb : -9223372036854775808 ≤ b ∧ b ≤ 9223372036854775807) (w : World) :
    Calls Try.prog 21 #[.int .i64 a, .int .i64 b] w fun e w' => e = .returned (.int .i64 (gSub a b)) ∧ ∃ n, w' = w.drewN n :=
  (sub_any a b ha hb w).mono fun _ _ ⟨h1, h2⟩ => ⟨h1, by rw [h2]; exact fworld_drewN ..⟩
theorem mul_c {a b : Int} (ha : -9223372036854775808 ≤ a ∧ a ≤ 9223372036854775807) (hb : -9223372036854775808 ≤ b ∧ b ≤ 9223372036854775807) (w : World) :
    Calls Try.prog 19 #[.int .i64 a, .int .i64 b] w fun e w' => e = .returned (.int .i64 (gMul a b)) ∧ ∃ n, w' = w.drewN n :=
  (mul_any a b ha hb w).mono fun _ _ ⟨h1, h2⟩ => ⟨h1, by rw [h2]; exact fworld_drewN ..⟩
theorem div_c {a b : Int} (ha : -9223372036854775808 ≤ a ∧ a ≤ 9223372036854775807) (hb : -9223372036854775808 ≤ b ∧ b ≤ 9223372036854775807) (w : World) :
    Calls Try.prog 22 #[.int .i64 a, .int .i64 b] w fun e w' => e = .returned (.int .i64 (gDiv a b)) ∧ ∃ n, w' = w.drewN n :=
  (div_any a b ha hb w).mono fun _ _ ⟨h1, h2⟩ => ⟨h1, by rw [h2]; exact fworld_drewN ..⟩
theorem of_c (n : Int) (w : World) : Calls Try.prog 20 #[.int .i64 n] w fun e w' => e = .returned (.int .i64 (gOf n)) ∧ w = w' := of_any n w

theorem gAdd_in (a b : Int) : -9223372036854775808 ≤ gAdd a b ∧ gAdd a b ≤ 9223372036854775807 := ocode_range _
theorem gSub_in (a b : Int) : -9223372036854775808 ≤ gSub a b ∧ gSub a b ≤ 9223372036854775807 := ocode_range _
theorem gMul_in (a b : Int) : -9223372036854775808 ≤ gMul a b ∧ gMul a b ≤ 9223372036854775807 := ocode_range _
theorem gDiv_in (a b : Int) : -9223372036854775808 ≤ gDiv a b ∧ gDiv a b ≤ 9223372036854775807 := ocode_range _
theorem gOf_in (n : Int) : -9223372036854775808 ≤ gOf n ∧ gOf n ≤ 9223372036854775807 := code_range _

theorem drewN_drewN (w : World) (a b : Nat) : (w.drewN a).drewN b = w.drewN (a + b) := by
  unfold World.drewN; simp [Nat.add_assoc]

theorem refBack_any (n : Int) (hn : -9223372036854775808 ≤ n ∧ n ≤ 9223372036854775807) (w : World) :
    Calls Try.prog 17 #[.int .i64 n] w fun e w' => ∃ b, e = .returned (.float .f64 b) ∧ alike b (back n) ∧ b < 18446744073709551616 ∧ ∃ k, w' = w.drewN k := by
  rcases back_cases n with ⟨h, hb⟩ | ⟨s, r, hr, rfl, hb, h1, h2⟩
  · have hd := @run_fdiv Try.prog
    have hf : ∀ w : World, alike (fbits 3 0 0 w) (back n) := fun w => .inr ⟨fbits_none (by rw [fop3, show (0 : Nat) = D.word false 0 from (word_false 0).symm, div_zero_zero]) w, by rw [hb]; exact nan_is⟩
    have HF := Lib.hid hf
    clear hf
    have hc : right n = false ∨ (right n = true ∧ (n == 9221120237041090561) = true) := by
      rcases h with h | h
      · exact .inl h
      · subst h; exact .inr ⟨rfl, by simp⟩
    clear h hb
    rcases hc with hc | ⟨hc, hc2⟩
    · go_enter Try.func17, Try.ntmps17
      go_wp2_with fail
      refine (refRight_any _ _).mono ?_; rintro e w' ⟨rfl, rfl⟩
      go_wp2_with fail
      go_ret
      exact ⟨_, rfl, HF.out _, fbits_lt .., fworld_drewN ..⟩
    · go_enter Try.func17, Try.ntmps17
      go_wp2_with fail
      refine (refRight_any _ _).mono ?_; rintro e w' ⟨rfl, rfl⟩
      go_wp2_with fail
      go_ret
      exact ⟨_, rfl, HF.out _, fbits_lt .., fworld_drewN ..⟩
  · cases s
    · simp only [Bool.false_eq_true, if_false] at hb hn h1 h2 ⊢
      rw [hb]
      refine (refBack_pos hr w).mono ?_
      rintro e w' ⟨rfl, rfl⟩
      exact ⟨_, rfl, .inl (word_false r).symm, by omega, 0, rfl⟩
    · simp only [if_true] at hb hn h1 h2 ⊢
      rw [hb]
      have hne : ((-1 - (r : Int)) == 9221120237041090561) = false := beq_eq_false_iff_ne.2 h2
      by_cases h0 : r = 0
      · subst h0
        have g1 := div_run (x := 4607182418800017408) (y := 0) (r := 9218868437227405312) (by
          have := div_word_zero false false (r := 4607182418800017408) (by omega) (by omega)
          rw [word_false, word_false] at this; rw [this]; simp [word_false])
        have g2 := div_run (x := 13830554455654793216) (y := 9218868437227405312) (r := D.word true 0) (by
          have := div_word_inf true false (r := 4607182418800017408) (by omega)
          rw [word_false, word_true] at this; rw [this]; rfl)
        have hr1 : right (-1) = true := h1
        have HW : Hid (D.word true 0 < 18446744073709551616) := word_lt true (by omega)
        generalize D.word true 0 = y at *
        clear hb h1 h2 hn
        simp only [Int.natCast_zero, Int.sub_zero] at hne ⊢
        go_enter Try.func17, Try.ntmps17
        go_wp2_with fail
        refine (refRight_any _ _).mono ?_; rintro e w' ⟨rfl, rfl⟩
        go_wp2_with fail
        go_ret
        exact ⟨_, rfl, .inl rfl, HW.out, 0, rfl⟩
      · have g1 := sub_run (x := 0) (y := r) (r := D.word true r) (by
          have h := sub_word 0 false (q := r) (by omega)
          rw [word_false] at h
          rw [h]
          rcases Nat.lt_or_ge r 9218868437227405312 with hl | hl
          · have := add_exact false true true (r := 0) (q := r) (x := r) (by omega) hl hl (by simp [sval, val_zero]) (fun e => absurd e h0)
            rw [word_false] at this; exact this
          · obtain rfl : r = 9218868437227405312 := by omega
            have := add_word_inf false true (r := 0) (by omega)
            rw [word_false] at this; exact this)
        have HW : Hid (D.word true r < 18446744073709551616) := word_lt true (by omega)
        have hm1 : ((-1 - (r : Int)) == -1) = false := beq_eq_false_iff_ne.2 (by omega)
        have hlt : ((-1 - (r : Int)) < 0) = True := eq_true (by omega)
        have hback : (-1 - (-1 - (r : Int))) = (r : Int) := by omega
        have hb1 : (r : Int) ≤ 9223372036854775806 := by omega
        obtain ⟨n, hn'⟩ : ∃ n : Int, n = -1 - (r : Int) := ⟨_, rfl⟩
        rw [← hn'] at hne hm1 hlt hback h1 ⊢
        have HN := Lib.hid hn'
        generalize D.word true r = y at *
        clear hn' hb h2 hn h0
        go_enter Try.func17, Try.ntmps17
        go_wp2_with fail
        refine (refRight_any _ _).mono ?_; rintro e w' ⟨rfl, rfl⟩
        go_wp2_with fail
        refine (refBack_pos hr _).mono ?_; rintro e w' ⟨rfl, rfl⟩
        go_wp2_with fail
        go_ret
        exact ⟨_, rfl, .inl rfl, HW.out, 0, rfl⟩
end Go.Proofs.Ytlcdkeajbboeiaa
