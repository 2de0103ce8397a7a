/- THE WALKS OF ops' SMALL FUNCTIONS: sums, differences and products that fit are told, the others panic. No condition. -/
import Derived.Test.YtcoidmkaddnkdaaV3
import Derived.Test.YtcoidmkaddnkdaaOps
import Derived.Test.YtcoidmkaddnkdaaShelf
namespace Go.Proofs.Ytcoidmkaddnkdaa
open Go.RowKit AnteFlo AnteVal AnteOps

/-- what a panic with the error 10 leaves -/
def over : Ending := .panicked [{ v := .iface 25 (.int .i64 10), recovered := false }]

theorem size_any {n : Int} (hn : -9223372036854775808 ≤ n ∧ n ≤ 9223372036854775807) (w : World) : Calls Try.prog 36 #[.int .i64 n] w fun e w' => e = .returned (.int .u64 (n.natAbs : Int)) ∧ w = w' := by
  have HN := Lib.hid hn
  clear hn
  go_enter Try.func36, Try.ntmps36
  go_wp2
  all_goals go_ret
  all_goals refine ⟨ret_int ?_, rfl⟩
  · have h : n < 0 := by assumption
    have := HN.out
    simp only [IntKind.wrap_u64]; omega
  · have h : 0 ≤ n := by assumption
    have := HN.out
    simp only [IntKind.wrap_u64]; omega

theorem wrap_w64 (n : Int) : wrap64 n = w64 n := by unfold wrap64 w64; omega

theorem sum_fits {a b : Int} (ha : -9223372036854775808 ≤ a ∧ a ≤ 9223372036854775807) (hb : -9223372036854775808 ≤ b ∧ b ≤ 9223372036854775807) (hf : fits (a + b) = true) (w : World) :
    Calls Try.prog 20 #[.int .i64 a, .int .i64 b] w fun e w' => e = .returned (.int .i64 (a + b)) ∧ w' = w := by
  have h := sum_over ha hb
  rw [hf, ← wrap_w64] at h
  have h2 : (bits .and .i64 (bits .xor .i64 a (wrap64 (a + b))) (bits .xor .i64 b (wrap64 (a + b))) < 0) = False := eq_false (by simpa using h)
  have he : Hid (wrap64 (a + b) = a + b) := by
    show wrap64 (a + b) = a + b
    unfold fits at hf; simp at hf
    unfold wrap64; omega
  clear h hf ha hb
  go_enter Try.func20, Try.ntmps20
  go_wp2
  go_ret
  exact ⟨ret_int he.out, rfl⟩

theorem sum_not {a b : Int} (ha : -9223372036854775808 ≤ a ∧ a ≤ 9223372036854775807) (hb : -9223372036854775808 ≤ b ∧ b ≤ 9223372036854775807) (hf : fits (a + b) = false) (w : World) :
    Calls Try.prog 20 #[.int .i64 a, .int .i64 b] w fun e w' => e = over ∧ w' = w := by
  have h := sum_over ha hb
  rw [hf, ← wrap_w64] at h
  have h2 : (bits .and .i64 (bits .xor .i64 a (wrap64 (a + b))) (bits .xor .i64 b (wrap64 (a + b))) < 0) = True := eq_true (by simpa using h)
  clear h hf ha hb
  go_enter Try.func20, Try.ntmps20
  go_wp2
  exact ⟨rfl, rfl, rfl⟩

theorem less_fits {a b : Int} (ha : -9223372036854775808 ≤ a ∧ a ≤ 9223372036854775807) (hb : -9223372036854775808 ≤ b ∧ b ≤ 9223372036854775807) (hf : fits (a - b) = true) (w : World) :
    Calls Try.prog 21 #[.int .i64 a, .int .i64 b] w fun e w' => e = .returned (.int .i64 (a - b)) ∧ w' = w := by
  have h := less_over ha hb
  rw [hf, ← wrap_w64] at h
  have h2 : (bits .and .i64 (bits .xor .i64 a b) (bits .xor .i64 a (wrap64 (a - b))) < 0) = False := eq_false (by simpa using h)
  have he : Hid (wrap64 (a - b) = a - b) := by
    show wrap64 (a - b) = a - b
    unfold fits at hf; simp at hf
    unfold wrap64; omega
  clear h hf ha hb
  go_enter Try.func21, Try.ntmps21
  go_wp2
  go_ret
  exact ⟨ret_int he.out, rfl⟩

theorem less_not {a b : Int} (ha : -9223372036854775808 ≤ a ∧ a ≤ 9223372036854775807) (hb : -9223372036854775808 ≤ b ∧ b ≤ 9223372036854775807) (hf : fits (a - b) = false) (w : World) :
    Calls Try.prog 21 #[.int .i64 a, .int .i64 b] w fun e w' => e = over ∧ w' = w := by
  have h := less_over ha hb
  rw [hf, ← wrap_w64] at h
  have h2 : (bits .and .i64 (bits .xor .i64 a b) (bits .xor .i64 a (wrap64 (a - b))) < 0) = True := eq_true (by simpa using h)
  clear h hf ha hb
  go_enter Try.func21, Try.ntmps21
  go_wp2
  exact ⟨rfl, rfl, rfl⟩

theorem times_fits {a b : Int} (ha : -9223372036854775808 ≤ a ∧ a ≤ 9223372036854775807) (hb : -9223372036854775808 ≤ b ∧ b ≤ 9223372036854775807) (hf : fits (a * b) = true) (w : World) :
    Calls Try.prog 22 #[.int .i64 a, .int .i64 b] w fun e w' => e = .returned (.int .i64 (a * b)) ∧ w' = w := by
  have h := mul_fits_iff a b
  have h1 := natAbs_le ha
  have h2 := natAbs_le hb
  have hM := Try.bits_Mul64 a.natAbs b.natAbs (by omega) (by omega)
  obtain ⟨hi, ehi⟩ : ∃ hi, a.natAbs * b.natAbs / 18446744073709551616 = hi := ⟨_, rfl⟩
  obtain ⟨lo, elo⟩ : ∃ lo, a.natAbs * b.natAbs % 18446744073709551616 = lo := ⟨_, rfl⟩
  rw [ehi, elo] at hM h
  have sA : ∀ w, Calls Try.prog 36 #[.int .i64 a] w fun e w' => e = .returned (.int .u64 (a.natAbs : Int)) ∧ w = w' := size_any ha
  have sB : ∀ w, Calls Try.prog 36 #[.int .i64 b] w fun e w' => e = .returned (.int .u64 (b.natAbs : Int)) ∧ w = w' := size_any hb
  clear ehi elo h1 h2
  generalize a.natAbs = na at *
  generalize b.natAbs = nb at *
  have HM := Lib.hid hM
  have SA := Lib.hid sA
  have SB := Lib.hid sB
  clear hM sA sB
  have he : Hid (wrap64 (a * b) = a * b) := by
    show wrap64 (a * b) = a * b
    unfold fits at hf; simp at hf
    unfold wrap64; omega
  rw [hf] at h
  unfold mostOf at h
  rcases Int.lt_or_le a 0 with sa | sa <;> rcases Int.lt_or_le b 0 with sb | sb
  · have da := decide_eq_true sa
    have db := decide_eq_true sb
    rw [da, db, if_neg (by simp)] at h
    clear sa sb
    have k0 : hi = 0 := by simp at h; exact h.1
    have k1 : ((9223372036854775807 : Int) < (lo : Int)) = False := eq_false (by simp at h; omega)
    subst k0
    clear h hf ha hb
    · go_enter Try.func22, Try.ntmps22
      go_wp2_with fail
      refine (SA.out _).mono ?_; rintro e w' ⟨rfl, rfl⟩
      go_wp2_with fail
      refine (SB.out _).mono ?_; rintro e w' ⟨rfl, rfl⟩
      go_wp2_with fail
      refine (HM.out _).mono ?_; rintro e w' ⟨rfl, rfl⟩
      go_wp2_with fail
      go_ret
      exact ⟨ret_int he.out, rfl⟩
  · have da := decide_eq_true sa
    have db := decide_eq_false (show ¬ b < 0 by omega)
    rw [da, db, if_pos (by decide)] at h
    clear sa sb
    have k0 : hi = 0 := by simp at h; exact h.1
    have k1 : ((9223372036854775808 : Int) < (lo : Int)) = False := eq_false (by simp at h; omega)
    subst k0
    clear h hf ha hb
    · go_enter Try.func22, Try.ntmps22
      go_wp2_with fail
      refine (SA.out _).mono ?_; rintro e w' ⟨rfl, rfl⟩
      go_wp2_with fail
      refine (SB.out _).mono ?_; rintro e w' ⟨rfl, rfl⟩
      go_wp2_with fail
      refine (HM.out _).mono ?_; rintro e w' ⟨rfl, rfl⟩
      go_wp2_with fail
      go_ret
      exact ⟨ret_int he.out, rfl⟩
  · have da := decide_eq_false (show ¬ a < 0 by omega)
    have db := decide_eq_true sb
    rw [da, db, if_pos (by decide)] at h
    clear sa sb
    have k0 : hi = 0 := by simp at h; exact h.1
    have k1 : ((9223372036854775808 : Int) < (lo : Int)) = False := eq_false (by simp at h; omega)
    subst k0
    clear h hf ha hb
    · go_enter Try.func22, Try.ntmps22
      go_wp2_with fail
      refine (SA.out _).mono ?_; rintro e w' ⟨rfl, rfl⟩
      go_wp2_with fail
      refine (SB.out _).mono ?_; rintro e w' ⟨rfl, rfl⟩
      go_wp2_with fail
      refine (HM.out _).mono ?_; rintro e w' ⟨rfl, rfl⟩
      go_wp2_with fail
      go_ret
      exact ⟨ret_int he.out, rfl⟩
  · have da := decide_eq_false (show ¬ a < 0 by omega)
    have db := decide_eq_false (show ¬ b < 0 by omega)
    rw [da, db, if_neg (by simp)] at h
    clear sa sb
    have k0 : hi = 0 := by simp at h; exact h.1
    have k1 : ((9223372036854775807 : Int) < (lo : Int)) = False := eq_false (by simp at h; omega)
    subst k0
    clear h hf ha hb
    · go_enter Try.func22, Try.ntmps22
      go_wp2_with fail
      refine (SA.out _).mono ?_; rintro e w' ⟨rfl, rfl⟩
      go_wp2_with fail
      refine (SB.out _).mono ?_; rintro e w' ⟨rfl, rfl⟩
      go_wp2_with fail
      refine (HM.out _).mono ?_; rintro e w' ⟨rfl, rfl⟩
      go_wp2_with fail
      go_ret
      exact ⟨ret_int he.out, rfl⟩

theorem times_not {a b : Int} (ha : -9223372036854775808 ≤ a ∧ a ≤ 9223372036854775807) (hb : -9223372036854775808 ≤ b ∧ b ≤ 9223372036854775807) (hf : fits (a * b) = false) (w : World) :
    Calls Try.prog 22 #[.int .i64 a, .int .i64 b] w fun e w' => e = over ∧ w' = w := by
  have h := mul_fits_iff a b
  have h1 := natAbs_le ha
  have h2 := natAbs_le hb
  have hM := Try.bits_Mul64 a.natAbs b.natAbs (by omega) (by omega)
  obtain ⟨hi, ehi⟩ : ∃ hi, a.natAbs * b.natAbs / 18446744073709551616 = hi := ⟨_, rfl⟩
  obtain ⟨lo, elo⟩ : ∃ lo, a.natAbs * b.natAbs % 18446744073709551616 = lo := ⟨_, rfl⟩
  rw [ehi, elo] at hM h
  have sA : ∀ w, Calls Try.prog 36 #[.int .i64 a] w fun e w' => e = .returned (.int .u64 (a.natAbs : Int)) ∧ w = w' := size_any ha
  have sB : ∀ w, Calls Try.prog 36 #[.int .i64 b] w fun e w' => e = .returned (.int .u64 (b.natAbs : Int)) ∧ w = w' := size_any hb
  clear ehi elo h1 h2
  generalize a.natAbs = na at *
  generalize b.natAbs = nb at *
  have HM := Lib.hid hM
  have SA := Lib.hid sA
  have SB := Lib.hid sB
  clear hM sA sB
  skip
  rw [hf] at h
  unfold mostOf at h
  rcases Int.lt_or_le a 0 with sa | sa <;> rcases Int.lt_or_le b 0 with sb | sb
  · have da := decide_eq_true sa
    have db := decide_eq_true sb
    rw [da, db, if_neg (by simp)] at h
    clear sa sb
    have k : (((hi : Int) != 0) = true) ∨ (((hi : Int) != 0) = false ∧ ((9223372036854775807 : Int) < (lo : Int)) = True) := by
      by_cases k0 : hi = 0
      · right; subst k0; exact ⟨rfl, eq_true (by simp at h; omega)⟩
      · left; simp; omega
    clear h hf ha hb
    rcases k with k | ⟨k, k1⟩
    all_goals
      go_enter Try.func22, Try.ntmps22
      go_wp2_with fail
      refine (SA.out _).mono ?_; rintro e w' ⟨rfl, rfl⟩
      go_wp2_with fail
      refine (SB.out _).mono ?_; rintro e w' ⟨rfl, rfl⟩
      go_wp2_with fail
      refine (HM.out _).mono ?_; rintro e w' ⟨rfl, rfl⟩
      go_wp2_with fail
      exact ⟨rfl, rfl, rfl⟩
  · have da := decide_eq_true sa
    have db := decide_eq_false (show ¬ b < 0 by omega)
    rw [da, db, if_pos (by decide)] at h
    clear sa sb
    have k : (((hi : Int) != 0) = true) ∨ (((hi : Int) != 0) = false ∧ ((9223372036854775808 : Int) < (lo : Int)) = True) := by
      by_cases k0 : hi = 0
      · right; subst k0; exact ⟨rfl, eq_true (by simp at h; omega)⟩
      · left; simp; omega
    clear h hf ha hb
    rcases k with k | ⟨k, k1⟩
    all_goals
      go_enter Try.func22, Try.ntmps22
      go_wp2_with fail
      refine (SA.out _).mono ?_; rintro e w' ⟨rfl, rfl⟩
      go_wp2_with fail
      refine (SB.out _).mono ?_; rintro e w' ⟨rfl, rfl⟩
      go_wp2_with fail
      refine (HM.out _).mono ?_; rintro e w' ⟨rfl, rfl⟩
      go_wp2_with fail
      exact ⟨rfl, rfl, rfl⟩
  · have da := decide_eq_false (show ¬ a < 0 by omega)
    have db := decide_eq_true sb
    rw [da, db, if_pos (by decide)] at h
    clear sa sb
    have k : (((hi : Int) != 0) = true) ∨ (((hi : Int) != 0) = false ∧ ((9223372036854775808 : Int) < (lo : Int)) = True) := by
      by_cases k0 : hi = 0
      · right; subst k0; exact ⟨rfl, eq_true (by simp at h; omega)⟩
      · left; simp; omega
    clear h hf ha hb
    rcases k with k | ⟨k, k1⟩
    all_goals
      go_enter Try.func22, Try.ntmps22
      go_wp2_with fail
      refine (SA.out _).mono ?_; rintro e w' ⟨rfl, rfl⟩
      go_wp2_with fail
      refine (SB.out _).mono ?_; rintro e w' ⟨rfl, rfl⟩
      go_wp2_with fail
      refine (HM.out _).mono ?_; rintro e w' ⟨rfl, rfl⟩
      go_wp2_with fail
      exact ⟨rfl, rfl, rfl⟩
  · have da := decide_eq_false (show ¬ a < 0 by omega)
    have db := decide_eq_false (show ¬ b < 0 by omega)
    rw [da, db, if_neg (by simp)] at h
    clear sa sb
    have k : (((hi : Int) != 0) = true) ∨ (((hi : Int) != 0) = false ∧ ((9223372036854775807 : Int) < (lo : Int)) = True) := by
      by_cases k0 : hi = 0
      · right; subst k0; exact ⟨rfl, eq_true (by simp at h; omega)⟩
      · left; simp; omega
    clear h hf ha hb
    rcases k with k | ⟨k, k1⟩
    all_goals
      go_enter Try.func22, Try.ntmps22
      go_wp2_with fail
      refine (SA.out _).mono ?_; rintro e w' ⟨rfl, rfl⟩
      go_wp2_with fail
      refine (SB.out _).mono ?_; rintro e w' ⟨rfl, rfl⟩
      go_wp2_with fail
      refine (HM.out _).mono ?_; rintro e w' ⟨rfl, rfl⟩
      go_wp2_with fail
      exact ⟨rfl, rfl, rfl⟩
end Go.Proofs.Ytcoidmkaddnkdaa
