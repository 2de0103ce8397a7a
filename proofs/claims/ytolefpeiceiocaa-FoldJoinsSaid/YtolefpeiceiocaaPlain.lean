/- PLAIN LAWS ON float64, AS Ieee HAS THEM: words, rungs, codes; no Go and no program in sight. No condition. -/
import Ieee.Arith
import Derived.Laws.FloatBits
namespace AnteFlo
open Ieee

abbrev D := Ieee.double

theorem sw : D.signWeight = 9223372036854775808 := by rfl
theorem bn : D.binade = 4503599627370496 := by rfl
theorem ir : D.infRung = 9218868437227405312 := by rfl
theorem lp : D.leastPlace = -1074 := by rfl

/-- the significand of a rung -/
def mag (r : Nat) : Nat := if r < 4503599627370496 then r else 4503599627370496 + r % 4503599627370496
/-- the place of a rung's last digit, above the least -/
def expo (r : Nat) : Nat := r / 4503599627370496 - 1
/-- a rung's number, in units of the least one -/
def val (r : Nat) : Nat := mag r * 2 ^ expo r

theorem rung_eq (r : Nat) : expo r * 4503599627370496 + mag r = r := by
  unfold mag expo; split <;> omega

theorem mag_lt (r : Nat) : mag r < 9007199254740992 := by
  unfold mag; split <;> omega

theorem mag_ge {r : Nat} (h : expo r ≠ 0) : 4503599627370496 ≤ mag r := by
  unfold expo at h; unfold mag; split <;> omega

theorem mag_pos {r : Nat} (h : 0 < r) : 0 < mag r := by
  unfold mag; split <;> omega

theorem val_pos {r : Nat} (h : 0 < r) : 0 < val r := Nat.mul_pos (mag_pos h) (Nat.two_pow_pos _)

theorem val_zero : val 0 = 0 := by rfl

theorem read_word (s : Bool) {r : Nat} (h : r < 9218868437227405312) :
    D.read (D.word s r) = .number s (mag r) (-1074 + (expo r : Nat)) := by
  unfold Format.read Format.word
  simp only [sw, bn, ir, lp]
  cases s
  · simp only [Bool.false_eq_true, if_false]
    rw [show r / 9223372036854775808 % 2 = 0 by omega, show r % 9223372036854775808 = r by omega]
    unfold mag expo
    split
    · rw [show r / 4503599627370496 - 1 = 0 by omega]; simp
    · simp
  · simp only [if_true]
    rw [show (9223372036854775808 + r) / 9223372036854775808 % 2 = 1 by omega, show (9223372036854775808 + r) % 9223372036854775808 = r by omega]
    unfold mag expo
    split
    · rw [show r / 4503599627370496 - 1 = 0 by omega]; simp
    · simp

theorem read_inf (s : Bool) : D.read (D.word s 9218868437227405312) = .infinity s := by
  unfold Format.read Format.word
  simp only [sw, bn, ir]
  cases s
  · simp
  · simp

theorem read_nan (s : Bool) {r : Nat} (h : 9218868437227405312 < r) (h2 : r < 9223372036854775808) :
    D.read (D.word s r) = .nan s (r - 9218868437227405312) := by
  unfold Format.read Format.word
  simp only [sw, bn, ir, lp]
  cases s
  · simp only [Bool.false_eq_true, if_false]
    rw [show r / 9223372036854775808 % 2 = 0 by omega, show r % 9223372036854775808 = r by omega]
    rw [if_neg (by omega), if_neg (by omega), if_neg (by omega)]; simp
  · simp only [if_true]
    rw [show (9223372036854775808 + r) / 9223372036854775808 % 2 = 1 by omega, show (9223372036854775808 + r) % 9223372036854775808 = r by omega]
    rw [if_neg (by omega), if_neg (by omega), if_neg (by omega)]; simp

theorem val_lt {r q : Nat} (h : r < q) : val r < val q := by
  have hr := rung_eq r
  have hq := rung_eq q
  have he : expo r ≤ expo q := by unfold expo; omega
  by_cases hee : expo r = expo q
  · unfold val; rw [hee]
    exact Nat.mul_lt_mul_of_pos_right (by rw [hee] at hr; omega) (Nat.two_pow_pos _)
  · have h1 := mag_lt r
    have h2 := mag_ge (r := q) (by omega)
    have h3 : val r < 9007199254740992 * 2 ^ expo r := Nat.mul_lt_mul_of_pos_right h1 (Nat.two_pow_pos _)
    have h4 : 4503599627370496 * 2 ^ (expo r + 1) ≤ 4503599627370496 * 2 ^ expo q :=
      Nat.mul_le_mul_left _ (Nat.pow_le_pow_right (by omega) (by omega))
    have h5 : 4503599627370496 * 2 ^ expo q ≤ val q := Nat.mul_le_mul_right _ h2
    rw [Nat.pow_succ] at h4
    omega

/-- a word, taken apart -/
theorem word_of {b : Nat} (h : b < 18446744073709551616) :
    D.word (decide (9223372036854775808 ≤ b)) (b % 9223372036854775808) = b := by
  unfold Format.word
  simp only [sw]
  split <;> rename_i hc <;> simp at hc <;> omega

theorem word_true (r : Nat) : D.word true r = 9223372036854775808 + r := by
  unfold Format.word; simp only [sw, if_true]

theorem word_false (r : Nat) : D.word false r = r := by
  unfold Format.word; simp

/-- a word's two parts -/
theorem cases_word {b : Nat} (h : b < 18446744073709551616) : ∃ s r, r < 9223372036854775808 ∧ b = D.word s r :=
  ⟨_, _, by omega, (word_of h).symm⟩

/-- a rung with a sign -/
def sv (s : Bool) (r : Nat) : Int := if s then -(r : Int) else r

theorem compare_scale {a b : Int} {k : Nat} (hk : 0 < k) : compare (a * k) (b * k) = compare a b := by
  have hk' : (0 : Int) < k := by omega
  simp only [compare, compareOfLessAndEq]
  have h1 : (a * k < b * k) = (a < b) := by
    rw [eq_iff_iff]; exact Int.mul_lt_mul_right hk'
  have h2 : (a * k = b * k) = (a = b) := by
    rw [eq_iff_iff]; exact ⟨fun h => Int.eq_of_mul_eq_mul_right (by omega) h, fun h => by rw [h]⟩
  simp only [h1, h2]

theorem compare_sv (s t : Bool) (r q : Nat) :
    compare (if s then -(val r : Int) else (val r : Int)) (if t then -(val q : Int) else (val q : Int)) = compare (sv s r) (sv t q) := by
  have h1 : r < q → val r < val q := val_lt
  have h2 : q < r → val q < val r := val_lt
  have h3 : r = q → val r = val q := fun h => by rw [h]
  have p1 : 0 < r → 0 < val r := val_pos
  have p2 : 0 < q → 0 < val q := val_pos
  have z1 : r = 0 → val r = 0 := fun h => by rw [h, val_zero]
  have z2 : q = 0 → val q = 0 := fun h => by rw [h, val_zero]
  generalize val r = x at *
  generalize val q = y at *
  unfold sv
  simp only [compare, compareOfLessAndEq]
  cases s <;> cases t <;> simp only [if_true, Bool.false_eq_true, if_false] <;>
    (repeat' split) <;> first | rfl | omega

theorem signed_val (s : Bool) (r : Nat) (b : Nat) (h : b ≤ expo r) :
    signed s (mag r) (expo r - b) * ((2 ^ b : Nat) : Int) = if s then -(val r : Int) else (val r : Int) := by
  have e : (mag r <<< (expo r - b)) * 2 ^ b = val r := by
    rw [Nat.shiftLeft_eq, Nat.mul_assoc, ← Nat.pow_add, Nat.sub_add_cancel h]; rfl
  unfold signed
  cases s
  · simp only [Bool.false_eq_true, if_false]; rw [← Int.natCast_mul, e]
  · simp only [if_true]; rw [Int.neg_mul, ← Int.natCast_mul, e]

/-- TWO WORDS, NONE OF THEM NaN, LIE TO EACH OTHER AS THEIR RUNGS DO, WITH THEIR SIGNS. -/
theorem order_word (s t : Bool) {r q : Nat} (hr : r ≤ 9218868437227405312) (hq : q ≤ 9218868437227405312) :
    D.order (D.word s r) (D.word t q) = some (compare (sv s r) (sv t q)) := by
  unfold Format.order
  rcases Nat.lt_or_ge r 9218868437227405312 with h1 | h1
  · rcases Nat.lt_or_ge q 9218868437227405312 with h2 | h2
    · rw [read_word s h1, read_word t h2]
      simp only [Datum.order]
      obtain ⟨b, hb⟩ : ∃ b : Nat, b = min (expo r) (expo q) := ⟨_, rfl⟩
      have hmin : min (-1074 + (expo r : Int)) (-1074 + (expo q : Int)) = -1074 + (b : Int) := by omega
      rw [hmin, show (-1074 + (expo r : Int) - (-1074 + (b : Int))).toNat = expo r - b by omega,
        show (-1074 + (expo q : Int) - (-1074 + (b : Int))).toNat = expo q - b by omega,
        ← compare_scale (Nat.two_pow_pos b), signed_val s r b (by omega), signed_val t q b (by omega), compare_sv]
    · obtain rfl : q = 9218868437227405312 := by omega
      rw [read_word s h1, read_inf t]
      simp only [Datum.order]
      unfold sv
      cases t <;> cases s <;> simp only [compare, compareOfLessAndEq, if_true, Bool.false_eq_true, if_false] <;>
        (repeat' split) <;> first | rfl | omega
  · obtain rfl : r = 9218868437227405312 := by omega
    rcases Nat.lt_or_ge q 9218868437227405312 with h2 | h2
    · rw [read_inf s, read_word t h2]
      simp only [Datum.order]
      unfold sv
      cases t <;> cases s <;> simp only [compare, compareOfLessAndEq, if_true, Bool.false_eq_true, if_false] <;>
        (repeat' split) <;> first | rfl | omega
    · obtain rfl : q = 9218868437227405312 := by omega
      rw [read_inf s, read_inf t]
      cases t <;> cases s <;> rfl

theorem order_nan_left (s t : Bool) {r q : Nat} (hr : 9218868437227405312 < r) (hr2 : r < 9223372036854775808) : D.order (D.word s r) (D.word t q) = none := by
  unfold Format.order; rw [read_nan s hr hr2]; rfl

theorem sum_comm (x y : Datum) : x.sum y = y.sum x := by
  cases x <;> cases y <;> simp only [Datum.sum]
  · rename_i s m i t n j
    rw [Int.min_comm j i, Bool.and_comm t s, Int.add_comm]
  · rename_i s t
    by_cases h : s = t
    · subst h; rfl
    · rw [if_neg h, if_neg (fun e => h e.symm)]

theorem product_comm (x y : Datum) : x.product y = y.product x := by
  cases x <;> cases y <;> simp only [Datum.product]
  · rename_i s m i t n j
    rw [Nat.mul_comm m n, Int.add_comm i j, Bool.xor_comm s t]
  all_goals (rw [Bool.xor_comm])

theorem add_comm (x y : Nat) : D.add x y = D.add y x := by unfold Format.add; rw [sum_comm]
theorem mul_comm (x y : Nat) : D.mul x y = D.mul y x := by unfold Format.mul; rw [product_comm]

/-- the nearest of a whole number -/
def ofInt (n : Int) : Nat := D.write (.number (decide (n < 0)) n.natAbs 0)

/-- a word's code -/
def code (b : Nat) : Int :=
  if 9218868437227405312 < b % 9223372036854775808 then 9221120237041090561
  else if b < 9223372036854775808 then (b : Int) else -1 - ((b % 9223372036854775808 : Nat) : Int)

/-- is a number a code? -/
def right (n : Int) : Bool := n == 9221120237041090561 || (decide (-9218868437227405313 ≤ n) && decide (n ≤ 9218868437227405312))

/-- a code's word; of NaN, and of what is no code, one NaN -/
def back (n : Int) : Nat :=
  if n = 9221120237041090561 ∨ n < -9218868437227405313 ∨ 9218868437227405312 < n then 9221120237041090561
  else if n < 0 then D.word true (-1 - n).toNat else n.toNat

def isNan (b : Nat) : Bool := decide (9218868437227405312 < b % 9223372036854775808)

theorem word_mod (s : Bool) {r : Nat} (hr : r < 9223372036854775808) : D.word s r % 9223372036854775808 = r := by
  cases s
  · rw [word_false]; omega
  · rw [word_true]; omega

theorem isNan_word (s : Bool) {r : Nat} (hr : r < 9223372036854775808) : isNan (D.word s r) = decide (9218868437227405312 < r) := by
  unfold isNan; rw [word_mod s hr]

theorem code_nan {b : Nat} (h : isNan b = true) : code b = 9221120237041090561 := by
  unfold isNan at h; unfold code; rw [if_pos (by simpa using h)]

/-- the words of a NaN, or one that has a sign and a rung up to infinity's -/
theorem word_cases {b : Nat} (hb : b < 18446744073709551616) : isNan b = true ∨ ∃ s r, r ≤ 9218868437227405312 ∧ b = D.word s r := by
  obtain ⟨s, r, hr, rfl⟩ := cases_word hb
  rcases Nat.lt_or_ge 9218868437227405312 r with h1 | h1
  · left; rw [isNan_word s hr]; simpa using h1
  · exact .inr ⟨s, r, h1, rfl⟩

theorem nan_word {b : Nat} (hb : b < 18446744073709551616) (h : isNan b = true) : ∃ s r, 9218868437227405312 < r ∧ r < 9223372036854775808 ∧ b = D.word s r := by
  obtain ⟨s, r, hr, rfl⟩ := cases_word hb
  rw [isNan_word s hr] at h
  exact ⟨s, r, by simpa using h, hr, rfl⟩

theorem right_cases {n : Int} (h : right n = true) : n = 9221120237041090561 ∨ ∃ s : Bool, ∃ r : Nat, r ≤ 9218868437227405312 ∧ n = if s then -1 - (r : Int) else r := by
  unfold right at h
  simp at h
  rcases h with h | ⟨h1, h2⟩
  · exact .inl h
  · right
    rcases Int.lt_or_le n 0 with h0 | h0
    · exact ⟨true, (-1 - n).toNat, by omega, by simp; omega⟩
    · exact ⟨false, n.toNat, by omega, by simp; omega⟩

theorem back_code (s : Bool) {r : Nat} (hr : r ≤ 9218868437227405312) : back (if s then -1 - (r : Int) else r) = D.word s r := by
  unfold back
  cases s
  · simp only [Bool.false_eq_true, if_false]
    rw [if_neg (by omega), if_neg (by omega), word_false]; omega
  · simp only [if_true]
    rw [if_neg (by omega), if_pos (by omega)]; congr 1; omega

theorem back_nan : back 9221120237041090561 = 9221120237041090561 := by unfold back; rw [if_pos (.inl rfl)]
theorem back_wrong {n : Int} (h : right n = false) : back n = 9221120237041090561 := by
  unfold right at h; simp at h
  unfold back; rw [if_pos (by omega)]

def alike (b c : Nat) : Prop := b = c ∨ (isNan b = true ∧ isNan c = true)

theorem alike.refl (b : Nat) : alike b b := .inl rfl
theorem alike.symm {b c : Nat} (h : alike b c) : alike c b := by
  rcases h with h | ⟨h1, h2⟩
  · exact .inl h.symm
  · exact .inr ⟨h2, h1⟩
theorem alike.code {b c : Nat} (h : alike b c) : code b = code c := by
  rcases h with h | ⟨h1, h2⟩
  · rw [h]
  · rw [code_nan h1, code_nan h2]

/-- the four operations, and that NaN is NaN in each -/
def fop (op : Nat) (x y : Nat) : Option Nat := if op = 0 then D.add x y else if op = 1 then D.sub x y else if op = 2 then D.mul x y else D.div x y

/-- the code of what an operation gives -/
def ocode : Option Nat → Int
  | some r => code r
  | none => 9221120237041090561

theorem ocode_getD {o : Option Nat} {b : Nat} (h : isNan b = true) : code (o.getD b) = ocode o := by
  cases o
  · exact code_nan h
  · rfl

def rest (m i : Nat) : Nat := m * 2 ^ i % 9007199254740992

def gAdd (a b : Int) : Int := ocode (fop 0 (back a) (back b))
def gDiv (a b : Int) : Int := ocode (fop 3 (back a) (back b))
def gOf (n : Int) : Int := code (ofInt n)

theorem code_range (b : Nat) : -9223372036854775808 ≤ code b ∧ code b ≤ 9223372036854775807 := by
  unfold code; split
  · omega
  · split <;> omega
theorem ocode_none : ocode none = 9221120237041090561 := rfl
theorem ocode_range (o : Option Nat) : -9223372036854775808 ≤ ocode o ∧ ocode o ≤ 9223372036854775807 := by
  cases o
  · rw [ocode_none]; omega
  · exact code_range _

end AnteFlo
