/- PLAIN LAWS ON int64: which sums, differences and products fit; no Go and no program in sight. No condition. -/
import Derived.Laws.BitsLemmas
import Derived.Laws.Entries
namespace AnteOps
open Go

theorem wrap_toInt (v : BitVec 64) : IntKind.i64.wrap (v.toNat : Int) = v.toInt := by
  rw [IntKind.wrap_i64, BitVec.toInt_eq_toNat_cond]
  have := v.isLt
  split <;> omega

theorem xor_i64 (x y : Int) : bits .xor .i64 x y = (BitVec.ofInt 64 x ^^^ BitVec.ofInt 64 y).toInt := wrap_toInt _
theorem and_i64 (x y : Int) : bits .and .i64 x y = (BitVec.ofInt 64 x &&& BitVec.ofInt 64 y).toInt := wrap_toInt _

theorem msb_ofInt {x : Int} (h : -9223372036854775808 ≤ x ∧ x ≤ 9223372036854775807) : (BitVec.ofInt 64 x).msb = decide (x < 0) := by
  rw [BitVec.msb_eq_toInt, BitVec.toInt_ofInt]
  have : x.bmod (2 ^ 64) = x := by
    rw [Int.bmod_eq_of_le] <;> omega
  rw [this]

theorem neg_toInt (v : BitVec 64) : decide (v.toInt < 0) = v.msb := by rw [BitVec.msb_eq_toInt]

/-- the sign of '(a ^ n) & (b ^ n)' -/
theorem sign_of {a b n d : Int} (ha : -9223372036854775808 ≤ a ∧ a ≤ 9223372036854775807) (hb : -9223372036854775808 ≤ b ∧ b ≤ 9223372036854775807)
    (hn : -9223372036854775808 ≤ n ∧ n ≤ 9223372036854775807) (hd : -9223372036854775808 ≤ d ∧ d ≤ 9223372036854775807) :
    decide (bits .and .i64 (bits .xor .i64 a n) (bits .xor .i64 b d) < 0) = ((decide (a < 0) ^^ decide (n < 0)) && (decide (b < 0) ^^ decide (d < 0))) := by
  rw [and_i64, xor_i64, xor_i64, neg_toInt, BitVec.ofInt_toInt, BitVec.ofInt_toInt, BitVec.msb_and, BitVec.msb_xor, BitVec.msb_xor, msb_ofInt ha, msb_ofInt hb, msb_ofInt hn, msb_ofInt hd]

/-- does a number fit? -/
def fits (n : Int) : Bool := decide (-9223372036854775808 ≤ n) && decide (n ≤ 9223372036854775807)
def w64 (n : Int) : Int := (n + 9223372036854775808) % 18446744073709551616 - 9223372036854775808

theorem sum_over {a b : Int} (ha : -9223372036854775808 ≤ a ∧ a ≤ 9223372036854775807) (hb : -9223372036854775808 ≤ b ∧ b ≤ 9223372036854775807) :
    decide (bits .and .i64 (bits .xor .i64 a (w64 (a + b))) (bits .xor .i64 b (w64 (a + b))) < 0) = !(fits (a + b)) := by
  have hn : -9223372036854775808 ≤ w64 (a + b) ∧ w64 (a + b) ≤ 9223372036854775807 := by unfold w64; omega
  rw [sign_of ha hb hn hn]
  unfold fits
  by_cases h : -9223372036854775808 ≤ a + b ∧ a + b ≤ 9223372036854775807
  · have e : w64 (a + b) = a + b := by unfold w64; omega
    rw [e, decide_eq_true h.1, decide_eq_true h.2]
    by_cases h1 : a < 0 <;> by_cases h2 : b < 0 <;> by_cases h3 : a + b < 0 <;> simp [h1, h2, h3] <;> omega
  · have h' : (decide (-9223372036854775808 ≤ a + b) && decide (a + b ≤ 9223372036854775807)) = false := by simp; omega
    rw [h']
    by_cases h1 : a < 0 <;> by_cases h2 : b < 0 <;> by_cases h3 : w64 (a + b) < 0 <;> simp [h1, h2, h3] <;> unfold w64 at h3 <;> omega

theorem less_over {a b : Int} (ha : -9223372036854775808 ≤ a ∧ a ≤ 9223372036854775807) (hb : -9223372036854775808 ≤ b ∧ b ≤ 9223372036854775807) :
    decide (bits .and .i64 (bits .xor .i64 a b) (bits .xor .i64 a (w64 (a - b))) < 0) = !(fits (a - b)) := by
  have hn : -9223372036854775808 ≤ w64 (a - b) ∧ w64 (a - b) ≤ 9223372036854775807 := by unfold w64; omega
  rw [sign_of ha ha hb hn]
  unfold fits
  by_cases h : -9223372036854775808 ≤ a - b ∧ a - b ≤ 9223372036854775807
  · have e : w64 (a - b) = a - b := by unfold w64; omega
    rw [e, decide_eq_true h.1, decide_eq_true h.2]
    by_cases h1 : a < 0 <;> by_cases h2 : b < 0 <;> by_cases h3 : a - b < 0 <;> simp [h1, h2, h3] <;> omega
  · have h' : (decide (-9223372036854775808 ≤ a - b) && decide (a - b ≤ 9223372036854775807)) = false := by simp; omega
    rw [h']
    by_cases h1 : a < 0 <;> by_cases h2 : b < 0 <;> by_cases h3 : w64 (a - b) < 0 <;> simp [h1, h2, h3] <;> unfold w64 at h3 <;> omega

/-! ### products -/
theorem natAbs_le {a : Int} (ha : -9223372036854775808 ≤ a ∧ a ≤ 9223372036854775807) : a.natAbs ≤ 9223372036854775808 := by omega

/-- the most that a product may be -/
def mostOf (a b : Int) : Nat := if (decide (a < 0) != decide (b < 0)) = true then 9223372036854775808 else 9223372036854775807

theorem mul_fits_iff (a b : Int) : fits (a * b) = (decide (a.natAbs * b.natAbs / 18446744073709551616 = 0) && decide (a.natAbs * b.natAbs % 18446744073709551616 ≤ mostOf a b)) := by
  have hab : (a * b).natAbs = a.natAbs * b.natAbs := Int.natAbs_mul a b
  generalize hp : a.natAbs * b.natAbs = p at *
  have hs1 : (decide (a < 0) != decide (b < 0)) = true → a * b ≤ 0 := by
    intro h
    by_cases h1 : a < 0 <;> by_cases h2 : b < 0 <;> simp [h1, h2] at h
    · exact Int.mul_nonpos_of_nonpos_of_nonneg (by omega) (by omega)
    · exact Int.mul_nonpos_of_nonneg_of_nonpos (by omega) (by omega)
  have hs2 : (decide (a < 0) != decide (b < 0)) = false → 0 ≤ a * b := by
    intro h
    by_cases h1 : a < 0 <;> by_cases h2 : b < 0 <;> simp [h1, h2] at h
    · exact Int.mul_nonneg_of_nonpos_of_nonpos (by omega) (by omega)
    · exact Int.mul_nonneg (by omega) (by omega)
  unfold fits mostOf
  generalize a * b = m at *
  cases hd : (decide (a < 0) != decide (b < 0))
  · have := hs2 hd
    rw [if_neg (by simp)]
    rw [Bool.eq_iff_iff]; simp; omega
  · have := hs1 hd
    rw [if_pos rfl]
    rw [Bool.eq_iff_iff]; simp; omega
end AnteOps
