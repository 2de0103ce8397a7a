/- THE WALKS OF THE DOCUMENT's SUM AND PRODUCT. No condition. -/
import Derived.Test.YtcoidmkaddnkdaaO5
namespace Go.Proofs.Ytcoidmkaddnkdaa
open Go.RowKit AnteFlo AnteVal AnteOps

theorem fits_of {n : Int} (h : -9223372036854775808 ≤ n ∧ n ≤ 9223372036854775807) : fits n = true := by unfold fits; simp; exact h
theorem fits_not {n : Int} (h : n < -9223372036854775808 ∨ 9223372036854775807 < n) : fits n = false := by
  cases e : fits n
  · rfl
  · unfold fits at e; simp at e; omega
theorem fits_iff {n : Int} (h : fits n = true) : -9223372036854775808 ≤ n ∧ n ≤ 9223372036854775807 := by unfold fits at h; simpa using h

theorem ret_ib {a b : Int} {c d : Bool} (h : a = b) (h2 : c = d) : Ending.returned (.tuple #[.int .i64 a, .bool c]) = .returned (.tuple #[.int .i64 b, .bool d]) := by rw [h, h2]

set_option linter.unusedVariables false in
theorem refAdd_fits {a b : Int} (ha : -9223372036854775808 ≤ a ∧ a ≤ 9223372036854775807) (hb : -9223372036854775808 ≤ b ∧ b ≤ 9223372036854775807) (hf : fits (a + b) = true) (w : World) :
    Calls Try.prog 27 #[.int .i64 a, .int .i64 b] w fun e w' => e = .returned (.tuple #[.int .i64 (a + b), .bool true]) ∧ w' = w := by
  have hf := fits_iff hf
  obtain ⟨m1, e1⟩ : ∃ m, wrap64 (9223372036854775807 - b) = m := ⟨_, rfl⟩
  obtain ⟨m2, e2⟩ : ∃ m, wrap64 (-9223372036854775808 - b) = m := ⟨_, rfl⟩
  have f1 : 0 < b → m1 = 9223372036854775807 - b := by intro h; rw [← e1]; unfold wrap64; omega
  have f2 : b < 0 → m2 = -9223372036854775808 - b := by intro h; rw [← e2]; unfold wrap64; omega
  have he : Hid (wrap64 (a + b) = a + b) := by
    show wrap64 (a + b) = a + b
    unfold wrap64; omega
  rcases Int.lt_trichotomy b 0 with h | h | h
  · have c1 : (0 < b) = False := eq_false (by omega)
    have c2 : (b < 0) = True := eq_true h
    have c3 : (a < m2) = False := eq_false (by rw [f2 h]; omega)
    clear h f1 f2 ha hb hf
    go_enter Try.func27, Try.ntmps27
    go_wp2
    go_ret2
    exact ⟨ret_ib he.out rfl, rfl⟩
  · have c1 : (0 < b) = False := eq_false (by omega)
    have c2 : (b < 0) = False := eq_false (by omega)
    clear h f1 f2 ha hb hf
    go_enter Try.func27, Try.ntmps27
    go_wp2
    go_ret2
    exact ⟨ret_ib he.out rfl, rfl⟩
  · have c1 : (0 < b) = True := eq_true h
    have c2 : (b < 0) = False := eq_false (by omega)
    have c3 : (m1 < a) = False := eq_false (by rw [f1 h]; omega)
    clear h f1 f2 ha hb hf
    go_enter Try.func27, Try.ntmps27
    go_wp2
    go_ret2
    exact ⟨ret_ib he.out rfl, rfl⟩

theorem refAdd_not {a b : Int} (ha : -9223372036854775808 ≤ a ∧ a ≤ 9223372036854775807) (hb : -9223372036854775808 ≤ b ∧ b ≤ 9223372036854775807) (hf : fits (a + b) = false) (w : World) :
    Calls Try.prog 27 #[.int .i64 a, .int .i64 b] w fun e w' => e = .returned (.tuple #[.int .i64 0, .bool false]) ∧ w' = w := by
  have hf : a + b < -9223372036854775808 ∨ 9223372036854775807 < a + b := by
    rcases Classical.em (a + b < -9223372036854775808 ∨ 9223372036854775807 < a + b) with h | h
    · exact h
    · rw [fits_of (by omega)] at hf; cases hf
  obtain ⟨m1, e1⟩ : ∃ m, wrap64 (9223372036854775807 - b) = m := ⟨_, rfl⟩
  obtain ⟨m2, e2⟩ : ∃ m, wrap64 (-9223372036854775808 - b) = m := ⟨_, rfl⟩
  have f1 : 0 < b → m1 = 9223372036854775807 - b := by intro h; rw [← e1]; unfold wrap64; omega
  have f2 : b < 0 → m2 = -9223372036854775808 - b := by intro h; rw [← e2]; unfold wrap64; omega
  rcases Int.lt_trichotomy b 0 with h | h | h
  · have c1 : (0 < b) = False := eq_false (by omega)
    have c2 : (b < 0) = True := eq_true h
    have c3 : (a < m2) = True := eq_true (by rw [f2 h]; omega)
    clear h f1 f2 ha hb hf
    go_enter Try.func27, Try.ntmps27
    go_wp2
    go_ret2
    exact ⟨rfl, rfl⟩
  · omega
  · have c1 : (0 < b) = True := eq_true h
    have c2 : (b < 0) = False := eq_false (by omega)
    have c3 : (m1 < a) = True := eq_true (by rw [f1 h]; omega)
    clear h f1 f2 ha hb hf
    go_enter Try.func27, Try.ntmps27
    go_wp2
    go_ret2
    exact ⟨rfl, rfl⟩

/-! ### The product, by sums of doubles -/
def I64 (n : Int) : Prop := -9223372036854775808 ≤ n ∧ n ≤ 9223372036854775807
/-- what is left to be put together -/
structure Pr (P t u c : Int) : Prop where
  sign : (0 ≤ u ∧ 0 ≤ t) ∨ (u ≤ 0 ∧ t ≤ 0)
  sum : t + u * c = P
  pos : 0 < c

theorem pr_odd_not {P t u c : Int} (h : Pr P t u c) (hf : fits (t + u) = false) (ht : I64 t) (hu : I64 u) : fits P = false := by
  obtain ⟨hs, he, hc⟩ := h
  have hn : t + u < -9223372036854775808 ∨ 9223372036854775807 < t + u := by
    rcases Classical.em (t + u < -9223372036854775808 ∨ 9223372036854775807 < t + u) with h | h
    · exact h
    · rw [fits_of (by omega)] at hf; cases hf
  have e : u * c = u + u * (c - 1) := by rw [Int.mul_sub]; omega
  apply fits_not
  rcases hs with ⟨h1, h2⟩ | ⟨h1, h2⟩
  · have := Int.mul_nonneg h1 (show 0 ≤ c - 1 by omega)
    unfold I64 at *; omega
  · have := Int.mul_nonpos_of_nonpos_of_nonneg h1 (show 0 ≤ c - 1 by omega)
    unfold I64 at *; omega

theorem pr_half {u c : Int} : (u + u) * (c / 2) + u * (c % 2) = u * c := by
  have e : c = 2 * (c / 2) + c % 2 := by omega
  calc (u + u) * (c / 2) + u * (c % 2) = u * (2 * (c / 2) + c % 2) := by
        rw [Int.mul_add, ← Int.mul_assoc, Int.add_mul, Int.mul_comm u 2, Int.mul_assoc 2 u, Int.two_mul]
    _ = u * c := by rw [← e]

theorem pr_odd {P t u c : Int} (h : Pr P t u c) (hc : c % 2 = 1) : (c / 2 = 0 ∧ t + u = P) ∨ Pr P (t + u) (u + u) (c / 2) := by
  obtain ⟨hs, he, hp⟩ := h
  have e := @pr_half u c
  rw [hc, Int.mul_one] at e
  rcases Classical.em (c / 2 = 0) with h | h
  · left; rw [h, Int.mul_zero] at e; exact ⟨h, by omega⟩
  · right; exact ⟨by omega, by omega, by omega⟩

theorem pr_even {P t u c : Int} (h : Pr P t u c) (hc : c % 2 = 0) : Pr P t (u + u) (c / 2) := by
  obtain ⟨hs, he, hp⟩ := h
  have e := @pr_half u c
  rw [hc, Int.mul_zero] at e
  exact ⟨by omega, by omega, by omega⟩

theorem pr_big {P t u c : Int} (h : Pr P t u c) (hf : fits u = false) (ht : I64 t) : fits P = false := by
  obtain ⟨hs, he, hc⟩ := h
  have hn : u < -9223372036854775808 ∨ 9223372036854775807 < u := by
    rcases Classical.em (u < -9223372036854775808 ∨ 9223372036854775807 < u) with h | h
    · exact h
    · rw [fits_of (by omega)] at hf; cases hf
  have e : u * c = u + u * (c - 1) := by rw [Int.mul_sub]; omega
  apply fits_not
  rcases hs with ⟨h1, h2⟩ | ⟨h1, h2⟩
  · have := Int.mul_nonneg h1 (show 0 ≤ c - 1 by omega)
    unfold I64 at *; omega
  · have := Int.mul_nonpos_of_nonpos_of_nonneg h1 (show 0 ≤ c - 1 by omega)
    unfold I64 at *; omega

def Inv (P c t u : Int) (g : Bool) : Prop := (c = 0 ∧ t = P ∧ I64 P) ∨ (I64 c ∧ g = true ∧ I64 t ∧ I64 u ∧ Pr P t u c)

end Go.Proofs.Ytcoidmkaddnkdaa
