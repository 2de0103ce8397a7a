/- PLAIN LAWS ON float64, AS Ieee HAS THEM: words, rungs, codes; no Go and no program in sight. No condition. -/
import Ieee.Arith
import Derived.Laws.FloatBits
import Derived.WalkKit
import Derived.WalkLawsBesides
import Derived.Deep.Draws
namespace AnteFlo
open Ieee

abbrev D := Ieee.double

theorem sw : D.signWeight = 9223372036854775808 := by rfl
theorem bn : D.binade = 4503599627370496 := by rfl
theorem ir : D.infRung = 9218868437227405312 := by rfl
theorem lp : D.leastPlace = -1074 := by rfl
theorem fb : D.fractionBits = 52 := by rfl

/-- the significand of a rung -/
def mag (r : Nat) : Nat := if r < 4503599627370496 then r else 4503599627370496 + r % 4503599627370496
/-- the place of a rung's last digit, above the least -/
def expo (r : Nat) : Nat := r / 4503599627370496 - 1
/-- a rung's number, in units of the least one -/
def val (r : Nat) : Nat := mag r * 2 ^ expo r

theorem rung_eq (r : Nat) : expo r * 4503599627370496 + mag r = r := by
  unfold mag expo; split <;> omega

theorem mag_lt (r : Nat) : mag r < 9007199254740992 := by
  unfold mag; split <;> omega

theorem mag_ge {r : Nat} (h : expo r ≠ 0) : 4503599627370496 ≤ mag r := by
  unfold expo at h; unfold mag; split <;> omega

theorem mag_ge' {r : Nat} (h : 4503599627370496 ≤ r) : 4503599627370496 ≤ mag r := by
  unfold mag; split <;> omega

theorem mag_pos {r : Nat} (h : 0 < r) : 0 < mag r := by
  unfold mag; split <;> omega

theorem val_pos {r : Nat} (h : 0 < r) : 0 < val r := Nat.mul_pos (mag_pos h) (Nat.two_pow_pos _)

theorem val_zero : val 0 = 0 := by rfl

theorem read_word (s : Bool) {r : Nat} (h : r < 9218868437227405312) :
    D.read (D.word s r) = .number s (mag r) (-1074 + (expo r : Nat)) := by
  unfold Format.read Format.word
  simp only [sw, bn, ir, lp]
  cases s
  · simp only [Bool.false_eq_true, if_false]
    rw [show r / 9223372036854775808 % 2 = 0 by omega, show r % 9223372036854775808 = r by omega]
    unfold mag expo
    split
    · rw [show r / 4503599627370496 - 1 = 0 by omega]; simp
    · simp
  · simp only [if_true]
    rw [show (9223372036854775808 + r) / 9223372036854775808 % 2 = 1 by omega, show (9223372036854775808 + r) % 9223372036854775808 = r by omega]
    unfold mag expo
    split
    · rw [show r / 4503599627370496 - 1 = 0 by omega]; simp
    · simp

theorem read_inf (s : Bool) : D.read (D.word s 9218868437227405312) = .infinity s := by
  unfold Format.read Format.word
  simp only [sw, bn, ir]
  cases s
  · simp
  · simp

theorem read_nan (s : Bool) {r : Nat} (h : 9218868437227405312 < r) (h2 : r < 9223372036854775808) :
    D.read (D.word s r) = .nan s (r - 9218868437227405312) := by
  unfold Format.read Format.word
  simp only [sw, bn, ir, lp]
  cases s
  · simp only [Bool.false_eq_true, if_false]
    rw [show r / 9223372036854775808 % 2 = 0 by omega, show r % 9223372036854775808 = r by omega]
    rw [if_neg (by omega), if_neg (by omega), if_neg (by omega)]; simp
  · simp only [if_true]
    rw [show (9223372036854775808 + r) / 9223372036854775808 % 2 = 1 by omega, show (9223372036854775808 + r) % 9223372036854775808 = r by omega]
    rw [if_neg (by omega), if_neg (by omega), if_neg (by omega)]; simp

theorem log2_mul_pow {m : Nat} (h : m ≠ 0) (k : Nat) : (m * 2 ^ k).log2 = m.log2 + k := by
  induction k with
  | zero => simp
  | succ k ih =>
    have : m * 2 ^ (k + 1) = 2 * (m * 2 ^ k) := by rw [Nat.pow_succ]; simp [Nat.mul_comm, Nat.mul_left_comm]
    rw [this, Nat.log2_two_mul (by have := Nat.two_pow_pos k; exact Nat.mul_ne_zero h (by omega)), ih]; omega

theorem cut_zero (neg : Bool) (n : Nat) : Toward.even.cut neg n 0 = n := by
  unfold Toward.cut; simp; omega

theorem cut_exact (neg : Bool) (q d : Nat) : Toward.even.cut neg (q * 2 ^ d) d = q := by
  unfold Toward.cut
  by_cases hq : q = 0
  · subst hq; simp
  · have hm : min d ((q * 2 ^ d).log2 + 2) = d := by rw [log2_mul_pow hq]; omega
    simp only [hm, Nat.one_shiftLeft]
    rw [Nat.mul_div_cancel _ (Nat.two_pow_pos d), Nat.mul_mod_left]
    have := Nat.two_pow_pos d
    have h1 : ¬ (2 ^ d < 2 * 0) := by omega
    have h2 : (2 ^ d == 2 * 0) = false := by simp
    simp

theorem log2_mag {r : Nat} (h : 4503599627370496 ≤ mag r) : (mag r).log2 = 52 := by
  have h1 := mag_lt r
  have hne : mag r ≠ 0 := by omega
  have a : (mag r).log2 < 53 := (Nat.log2_lt hne).2 h1
  have b : ¬ (mag r).log2 < 52 := fun hlt => by
    have := (Nat.log2_lt hne).1 hlt; omega
  omega

theorem log2_small {m : Nat} (h0 : m ≠ 0) (h : m < 4503599627370496) : m.log2 < 52 := (Nat.log2_lt h0).2 h

/-- WHAT A RUNG STANDS FOR IS ROUNDED TO THAT RUNG. -/
theorem nearest_exact (neg : Bool) {m : Nat} {place : Int} {r : Nat} (hr : r < 9218868437227405312)
    (h : m * 2 ^ (place + 1074).toNat = val r * 2 ^ (-(place + 1074)).toNat) : D.nearest neg m place = D.word neg r := by
  unfold Format.nearest
  simp only [lp, fb, bn, ir]
  by_cases hm : m = 0
  · subst hm
    have : val r = 0 := by
      have hp := Nat.two_pow_pos (-(place + 1074)).toNat
      rcases Nat.eq_zero_or_pos (val r) with h0 | h0
      · exact h0
      · have := Nat.mul_pos h0 hp; omega
    have h0 : r = 0 := by
      rcases Nat.eq_zero_or_pos r with h0 | h0
      · exact h0
      · have := val_pos h0; omega
    subst h0; simp
  · rw [if_neg hm]
    have hk : ∃ a b : Nat, (place + 1074).toNat = a ∧ (-(place + 1074)).toNat = b ∧ place = a - b - 1074 ∧ (a = 0 ∨ b = 0) := ⟨_, _, rfl, rfl, by omega, by omega⟩
    obtain ⟨a, b, ha, hb, hpl, hab⟩ := hk
    rw [ha, hb] at h
    have hrp : 0 < r := by
      rcases Nat.eq_zero_or_pos r with h0 | h0
      · subst h0; rw [val_zero] at h; have := Nat.mul_ne_zero hm (Nat.pos_iff_ne_zero.1 (Nat.two_pow_pos a)); omega
      · exact h0
    have hmr := mag_pos hrp
    have hlog : m.log2 + a = (mag r).log2 + expo r + b := by
      rw [← log2_mul_pow hm, h]; unfold val
      rw [Nat.mul_assoc, ← Nat.pow_add, log2_mul_pow (by omega)]; omega
    -- the place of the last digit kept is the rung's own
    have hlast : max (place + (m.log2 : Int) - ((52 : Nat) : Int)) (-1074) = (expo r : Int) - 1074 := by
      by_cases he : expo r = 0
      · by_cases hs : mag r < 4503599627370496
        · have := log2_small (by omega) hs; omega
        · have := log2_mag (r := r) (by omega); omega
      · have := log2_mag (mag_ge he); omega
    rw [hlast]
    have hkept : Toward.even.cut neg (m <<< (place - ((expo r : Int) - 1074)).toNat) ((expo r : Int) - 1074 - place).toNat = mag r := by
      by_cases hc : (expo r : Int) ≤ (a : Int) - b
      · have hb0 : b = 0 := by omega
        subst hb0
        rw [show ((expo r : Int) - 1074 - place).toNat = 0 by omega, cut_zero, Nat.shiftLeft_eq, show (place - ((expo r : Int) - 1074)).toNat = a - expo r by omega]
        have h' : m * 2 ^ a = mag r * 2 ^ expo r := by simpa [val] using h
        rw [show a = (a - expo r) + expo r by omega, Nat.pow_add, ← Nat.mul_assoc] at h'
        exact Nat.eq_of_mul_eq_mul_right (Nat.two_pow_pos _) h'
      · rw [show (place - ((expo r : Int) - 1074)).toNat = 0 by omega]
        obtain ⟨d, hd⟩ : ∃ d : Nat, ((expo r : Int) - 1074 - place).toNat = d := ⟨_, rfl⟩
        rw [hd, Nat.shiftLeft_zero]
        have h' : m = mag r * 2 ^ d := by
          unfold val at h
          rw [Nat.mul_assoc, ← Nat.pow_add, show expo r + b = d + a by omega, Nat.pow_add, ← Nat.mul_assoc] at h
          exact Nat.eq_of_mul_eq_mul_right (Nat.two_pow_pos _) h
        rw [h', cut_exact]
    rw [hkept, show ((expo r : Int) - 1074 - -1074).toNat = expo r by omega, rung_eq, Nat.min_eq_left (by omega)]

theorem val_lt {r q : Nat} (h : r < q) : val r < val q := by
  have hr := rung_eq r
  have hq := rung_eq q
  have he : expo r ≤ expo q := by unfold expo; omega
  by_cases hee : expo r = expo q
  · unfold val; rw [hee]
    exact Nat.mul_lt_mul_of_pos_right (by rw [hee] at hr; omega) (Nat.two_pow_pos _)
  · have h1 := mag_lt r
    have h2 := mag_ge (r := q) (by omega)
    have h3 : val r < 9007199254740992 * 2 ^ expo r := Nat.mul_lt_mul_of_pos_right h1 (Nat.two_pow_pos _)
    have h4 : 4503599627370496 * 2 ^ (expo r + 1) ≤ 4503599627370496 * 2 ^ expo q :=
      Nat.mul_le_mul_left _ (Nat.pow_le_pow_right (by omega) (by omega))
    have h5 : 4503599627370496 * 2 ^ expo q ≤ val q := Nat.mul_le_mul_right _ h2
    rw [Nat.pow_succ] at h4
    omega

theorem val_le {r q : Nat} (h : r ≤ q) : val r ≤ val q := by
  rcases Nat.lt_or_ge r q with h1 | h1
  · exact Nat.le_of_lt (val_lt h1)
  · have : r = q := by omega
    subst this; exact Nat.le_refl _

theorem val_inj {r q : Nat} (h : val r = val q) : r = q := by
  rcases Nat.lt_trichotomy r q with h1 | h1 | h1
  · have := val_lt h1; omega
  · exact h1
  · have := val_lt h1; omega

theorem lt_of_val {r q : Nat} (h : val r < val q) : r < q := by
  rcases Nat.lt_or_ge r q with h1 | h1
  · exact h1
  · have := val_le h1; omega

theorem val_small {r : Nat} (h : r < 9007199254740992) : val r = r := by
  have he : expo r = 0 := by unfold expo; omega
  have := rung_eq r
  unfold val; rw [he] at this ⊢; omega

/-- what so few digits make, at so high a place, is a rung's -/
theorem rep {m k : Nat} (hm : m < 9007199254740992) (hk : k ≤ 2045) : ∃ r, r < 9218868437227405312 ∧ val r = m * 2 ^ k := by
  by_cases h0 : m = 0
  · subst h0; exact ⟨0, by omega, by rw [val_zero]; omega⟩
  · have hp : m.log2 < 53 := (Nat.log2_lt h0).2 hm
    by_cases hc : 52 ≤ m.log2 + k
    · obtain ⟨g, hg⟩ : ∃ g, g = m * 2 ^ (52 - m.log2) := ⟨_, rfl⟩
      have hgl : g.log2 = 52 := by rw [hg, log2_mul_pow h0]; omega
      have hg0 : g ≠ 0 := by
        have : 0 < g := by rw [hg]; exact Nat.mul_pos (by omega) (Nat.two_pow_pos _)
        omega
      have g1 : g < 9007199254740992 := (Nat.log2_lt hg0 (k := 53)).1 (by omega)
      have g2 : 4503599627370496 ≤ g := by
        rcases Nat.lt_or_ge g 4503599627370496 with h | h
        · have := (Nat.log2_lt hg0 (k := 52)).2 h; omega
        · exact h
      refine ⟨(m.log2 + k - 52) * 4503599627370496 + g, by omega, ?_⟩
      have hm' : mag ((m.log2 + k - 52) * 4503599627370496 + g) = g := by unfold mag; split <;> omega
      have he' : expo ((m.log2 + k - 52) * 4503599627370496 + g) = m.log2 + k - 52 := by unfold expo; omega
      unfold val
      rw [hm', he', hg, Nat.mul_assoc, ← Nat.pow_add, show 52 - m.log2 + (m.log2 + k - 52) = k by omega]
    · have hlt : m * 2 ^ k < 4503599627370496 := by
        have hne : m * 2 ^ k ≠ 0 := Nat.mul_ne_zero h0 (Nat.pos_iff_ne_zero.1 (Nat.two_pow_pos k))
        exact (Nat.log2_lt hne (k := 52)).1 (by rw [log2_mul_pow h0]; omega)
      exact ⟨m * 2 ^ k, by omega, val_small (by omega)⟩

/-- a word, taken apart -/
theorem word_of {b : Nat} (h : b < 18446744073709551616) :
    D.word (decide (9223372036854775808 ≤ b)) (b % 9223372036854775808) = b := by
  unfold Format.word
  simp only [sw]
  split <;> rename_i hc <;> simp at hc <;> omega

theorem word_lt (s : Bool) {r : Nat} (h : r < 9223372036854775808) : D.word s r < 18446744073709551616 := by
  unfold Format.word; simp only [sw]; split <;> omega

theorem word_true (r : Nat) : D.word true r = 9223372036854775808 + r := by
  unfold Format.word; simp only [sw, if_true]

theorem word_false (r : Nat) : D.word false r = r := by
  unfold Format.word; simp

/-- a word's two parts -/
theorem cases_word {b : Nat} (h : b < 18446744073709551616) : ∃ s r, r < 9223372036854775808 ∧ b = D.word s r :=
  ⟨_, _, by omega, (word_of h).symm⟩

/-- a rung with a sign -/
def sv (s : Bool) (r : Nat) : Int := if s then -(r : Int) else r

theorem compare_scale {a b : Int} {k : Nat} (hk : 0 < k) : compare (a * k) (b * k) = compare a b := by
  have hk' : (0 : Int) < k := by omega
  simp only [compare, compareOfLessAndEq]
  have h1 : (a * k < b * k) = (a < b) := by
    rw [eq_iff_iff]; exact Int.mul_lt_mul_right hk'
  have h2 : (a * k = b * k) = (a = b) := by
    rw [eq_iff_iff]; exact ⟨fun h => Int.eq_of_mul_eq_mul_right (by omega) h, fun h => by rw [h]⟩
  simp only [h1, h2]

theorem compare_sv (s t : Bool) (r q : Nat) :
    compare (if s then -(val r : Int) else (val r : Int)) (if t then -(val q : Int) else (val q : Int)) = compare (sv s r) (sv t q) := by
  have h1 : r < q → val r < val q := val_lt
  have h2 : q < r → val q < val r := val_lt
  have h3 : r = q → val r = val q := fun h => by rw [h]
  have p1 : 0 < r → 0 < val r := val_pos
  have p2 : 0 < q → 0 < val q := val_pos
  have z1 : r = 0 → val r = 0 := fun h => by rw [h, val_zero]
  have z2 : q = 0 → val q = 0 := fun h => by rw [h, val_zero]
  generalize val r = x at *
  generalize val q = y at *
  unfold sv
  simp only [compare, compareOfLessAndEq]
  cases s <;> cases t <;> simp only [if_true, Bool.false_eq_true, if_false] <;>
    (repeat' split) <;> first | rfl | omega

theorem signed_val (s : Bool) (r : Nat) (b : Nat) (h : b ≤ expo r) :
    signed s (mag r) (expo r - b) * ((2 ^ b : Nat) : Int) = if s then -(val r : Int) else (val r : Int) := by
  have e : (mag r <<< (expo r - b)) * 2 ^ b = val r := by
    rw [Nat.shiftLeft_eq, Nat.mul_assoc, ← Nat.pow_add, Nat.sub_add_cancel h]; rfl
  unfold signed
  cases s
  · simp only [Bool.false_eq_true, if_false]; rw [← Int.natCast_mul, e]
  · simp only [if_true]; rw [Int.neg_mul, ← Int.natCast_mul, e]

/-- TWO WORDS, NONE OF THEM NaN, LIE TO EACH OTHER AS THEIR RUNGS DO, WITH THEIR SIGNS. -/
theorem order_word (s t : Bool) {r q : Nat} (hr : r ≤ 9218868437227405312) (hq : q ≤ 9218868437227405312) :
    D.order (D.word s r) (D.word t q) = some (compare (sv s r) (sv t q)) := by
  unfold Format.order
  rcases Nat.lt_or_ge r 9218868437227405312 with h1 | h1
  · rcases Nat.lt_or_ge q 9218868437227405312 with h2 | h2
    · rw [read_word s h1, read_word t h2]
      simp only [Datum.order]
      obtain ⟨b, hb⟩ : ∃ b : Nat, b = min (expo r) (expo q) := ⟨_, rfl⟩
      have hmin : min (-1074 + (expo r : Int)) (-1074 + (expo q : Int)) = -1074 + (b : Int) := by omega
      rw [hmin, show (-1074 + (expo r : Int) - (-1074 + (b : Int))).toNat = expo r - b by omega,
        show (-1074 + (expo q : Int) - (-1074 + (b : Int))).toNat = expo q - b by omega,
        ← compare_scale (Nat.two_pow_pos b), signed_val s r b (by omega), signed_val t q b (by omega), compare_sv]
    · obtain rfl : q = 9218868437227405312 := by omega
      rw [read_word s h1, read_inf t]
      simp only [Datum.order]
      unfold sv
      cases t <;> cases s <;> simp only [compare, compareOfLessAndEq, if_true, Bool.false_eq_true, if_false] <;>
        (repeat' split) <;> first | rfl | omega
  · obtain rfl : r = 9218868437227405312 := by omega
    rcases Nat.lt_or_ge q 9218868437227405312 with h2 | h2
    · rw [read_inf s, read_word t h2]
      simp only [Datum.order]
      unfold sv
      cases t <;> cases s <;> simp only [compare, compareOfLessAndEq, if_true, Bool.false_eq_true, if_false] <;>
        (repeat' split) <;> first | rfl | omega
    · obtain rfl : q = 9218868437227405312 := by omega
      rw [read_inf s, read_inf t]
      cases t <;> cases s <;> rfl

theorem order_nan_left (s t : Bool) {r q : Nat} (hr : 9218868437227405312 < r) (hr2 : r < 9223372036854775808) : D.order (D.word s r) (D.word t q) = none := by
  unfold Format.order; rw [read_nan s hr hr2]; rfl

theorem write_inf (s : Bool) : D.write (.infinity s) = D.word s 9218868437227405312 := by
  simp only [Format.write, ir]

theorem write_exact (s : Bool) {m : Nat} {place : Int} {r : Nat} (hr : r < 9218868437227405312)
    (h : m * 2 ^ (place + 1074).toNat = val r * 2 ^ (-(place + 1074)).toNat) : D.write (.number s m place) = D.word s r :=
  nearest_exact s hr h

theorem sum_comm (x y : Datum) : x.sum y = y.sum x := by
  cases x <;> cases y <;> simp only [Datum.sum]
  · rename_i s m i t n j
    rw [Int.min_comm j i, Bool.and_comm t s, Int.add_comm]
  · rename_i s t
    by_cases h : s = t
    · subst h; rfl
    · rw [if_neg h, if_neg (fun e => h e.symm)]

theorem product_comm (x y : Datum) : x.product y = y.product x := by
  cases x <;> cases y <;> simp only [Datum.product]
  · rename_i s m i t n j
    rw [Nat.mul_comm m n, Int.add_comm i j, Bool.xor_comm s t]
  all_goals (rw [Bool.xor_comm])

theorem add_comm (x y : Nat) : D.add x y = D.add y x := by unfold Format.add; rw [sum_comm]
theorem mul_comm (x y : Nat) : D.mul x y = D.mul y x := by unfold Format.mul; rw [product_comm]

theorem read_opposite (s : Bool) {r : Nat} (hr : r < 9223372036854775808) : D.read (D.word (!s) r) = (D.read (D.word s r)).opposite := by
  rcases Nat.lt_trichotomy r 9218868437227405312 with h | h | h
  · rw [read_word _ h, read_word _ h]; rfl
  · subst h; rw [read_inf, read_inf]; rfl
  · rw [read_nan _ h hr, read_nan _ h hr]; rfl

/-- WHAT IS TAKEN AWAY IS ADDED WITH THE OTHER SIGN. -/
theorem sub_word (x : Nat) (t : Bool) {q : Nat} (hq : q < 9223372036854775808) : D.sub x (D.word t q) = D.add x (D.word (!t) q) := by
  unfold Format.sub Format.add; rw [read_opposite t hq]

theorem op_nan_left (s : Bool) {r : Nat} (y : Nat) (hr : 9218868437227405312 < r) (hr2 : r < 9223372036854775808) :
    D.add (D.word s r) y = none ∧ D.sub (D.word s r) y = none ∧ D.mul (D.word s r) y = none ∧ D.div (D.word s r) y = none := by
  unfold Format.add Format.sub Format.mul Format.div
  rw [read_nan s hr hr2]
  cases D.read y <;> exact ⟨rfl, rfl, rfl, rfl⟩

theorem op_nan_right (t : Bool) {q : Nat} (x : Nat) (hq : 9218868437227405312 < q) (hq2 : q < 9223372036854775808) :
    D.add x (D.word t q) = none ∧ D.sub x (D.word t q) = none ∧ D.mul x (D.word t q) = none ∧ D.div x (D.word t q) = none := by
  unfold Format.add Format.sub Format.mul Format.div
  rw [read_nan t hq hq2]
  cases D.read x <;> exact ⟨rfl, rfl, rfl, rfl⟩

theorem mag_two : mag 4611686018427387904 = 4503599627370496 := by unfold mag; simp
theorem expo_two : expo 4611686018427387904 = 1023 := by unfold expo; simp

theorem read_two (s : Bool) : D.read (D.word s 4611686018427387904) = .number s 4503599627370496 (-51) := by
  rw [read_word s (by omega), mag_two, expo_two]; rfl
theorem read_zero (s : Bool) : D.read (D.word s 0) = .number s 0 (-1074) := by
  rw [read_word s (by omega)]; rfl

theorem val_unfold (r : Nat) : val r = mag r * 2 ^ expo r := rfl

theorem scale_eq {m v : Nat} {place : Int} {c : Nat} {k : Nat} (hk : (k : Int) = place + 1074 + c) (h : m * 2 ^ k = v * 2 ^ c) :
    m * 2 ^ (place + 1074).toNat = v * 2 ^ (-(place + 1074)).toNat := by
  rcases Int.le_total 0 (place + 1074) with h0 | h0
  · obtain ⟨a, ha⟩ : ∃ a : Nat, (place + 1074).toNat = a := ⟨_, rfl⟩
    rw [ha, show (-(place + 1074)).toNat = 0 by omega, Nat.pow_zero, Nat.mul_one]
    rw [show k = a + c by omega, Nat.pow_add, ← Nat.mul_assoc] at h
    exact Nat.eq_of_mul_eq_mul_right (Nat.two_pow_pos c) h
  · obtain ⟨b, hb⟩ : ∃ b : Nat, (-(place + 1074)).toNat = b := ⟨_, rfl⟩
    rw [hb, show (place + 1074).toNat = 0 by omega, Nat.pow_zero, Nat.mul_one]
    rw [show c = b + k by omega, Nat.pow_add, ← Nat.mul_assoc] at h
    exact Nat.eq_of_mul_eq_mul_right (Nat.two_pow_pos k) h

/-- twice, exactly -/
theorem mul_two (s : Bool) {r q : Nat} (hr : r < 9218868437227405312) (hq : q < 9218868437227405312) (h : val q = 2 * val r) :
    D.mul (D.word s r) (D.word false 4611686018427387904) = some (D.word s q) := by
  unfold Format.mul
  rw [read_word s hr, read_two]
  simp only [Datum.product, Option.map_some, Bool.xor_false]
  rw [write_exact s hq (scale_eq (c := 52) (k := expo r + 1) (by omega) ?_)]
  rw [h, val_unfold, Nat.pow_succ, show (4503599627370496 : Nat) = 2 ^ 52 by rfl]
  simp only [Nat.mul_comm, Nat.mul_left_comm, Nat.mul_assoc]

/-- a sum of two numbers, in units of the least one -/
theorem sum_number (s t : Bool) {r q : Nat} :
    Datum.sum (.number s (mag r) (-1074 + (expo r : Nat))) (.number t (mag q) (-1074 + (expo q : Nat))) =
      (let b := min (expo r) (expo q)
       let total := signed s (mag r) (expo r - b) + signed t (mag q) (expo q - b)
       some (.number (if total = 0 then s && t else decide (total < 0)) total.natAbs (-1074 + (b : Nat)))) := by
  simp only [Datum.sum]
  obtain ⟨b, hb⟩ : ∃ b : Nat, b = min (expo r) (expo q) := ⟨_, rfl⟩
  have hmin : min (-1074 + (expo r : Int)) (-1074 + (expo q : Int)) = -1074 + (b : Int) := by omega
  rw [hmin, show (-1074 + (expo r : Int) - (-1074 + (b : Int))).toNat = expo r - b by omega,
        show (-1074 + (expo q : Int) - (-1074 + (b : Int))).toNat = expo q - b by omega, ← hb]

/-- a rung's number with its sign -/
def sval (s : Bool) (r : Nat) : Int := if s then -(val r : Int) else val r

/-- A SUM THAT IS A RUNG's NUMBER IS EXACT. -/
theorem add_exact (s t u : Bool) {r q x : Nat} (hr : r < 9218868437227405312) (hq : q < 9218868437227405312) (hx : x < 9218868437227405312)
    (h : sval s r + sval t q = sval u x) (hu : x = 0 → u = (s && t)) :
    D.add (D.word s r) (D.word t q) = some (D.word u x) := by
  unfold Format.add
  rw [read_word s hr, read_word t hq, sum_number]
  obtain ⟨b, hb⟩ : ∃ b : Nat, b = min (expo r) (expo q) := ⟨_, rfl⟩
  simp only [← hb]
  obtain ⟨T, hT⟩ : ∃ T, T = signed s (mag r) (expo r - b) + signed t (mag q) (expo q - b) := ⟨_, rfl⟩
  rw [← hT]
  have e : T * ((2 ^ b : Nat) : Int) = sval u x := by
    rw [hT, Int.add_mul, signed_val s r b (by omega), signed_val t q b (by omega)]; exact h
  have hpb := Nat.two_pow_pos b
  have hab : T.natAbs * 2 ^ b = val x := by
    have := congrArg Int.natAbs e
    rw [Int.natAbs_mul, Int.natAbs_natCast] at this
    rw [this]; unfold sval; split <;> omega
  have hsign : (if T = 0 then s && t else decide (T < 0)) = u := by
    by_cases hz : T = 0
    · rw [if_pos hz]
      rw [hz] at hab
      have : val x = 0 := by simpa using hab.symm
      have hx0 : x = 0 := by
        rcases Nat.eq_zero_or_pos x with h0 | h0
        · exact h0
        · have := val_pos h0; omega
      rw [hu hx0]
    · rw [if_neg hz]
      have hx0 : 0 < val x := by
        rw [← hab]; exact Nat.mul_pos (by omega) hpb
      cases u
      · simp only [sval, Bool.false_eq_true, if_false] at e
        have : 0 < T := by
          rcases Int.lt_or_le 0 T with h1 | h1
          · exact h1
          · have : T * ((2 ^ b : Nat) : Int) ≤ 0 := Int.mul_nonpos_of_nonpos_of_nonneg h1 (by omega)
            omega
        simp; omega
      · simp only [sval, if_true] at e
        have : T < 0 := by
          rcases Int.lt_or_le T 0 with h1 | h1
          · exact h1
          · have : 0 ≤ T * ((2 ^ b : Nat) : Int) := Int.mul_nonneg h1 (by omega)
            omega
        simp; omega
  rw [hsign]
  simp only [Option.map_some]
  rw [write_exact u hx (scale_eq (c := 0) (k := b) (by omega) (by rw [hab]; simp))]

theorem log2_mag_le (r : Nat) : (mag r).log2 ≤ 52 := by
  by_cases h : mag r = 0
  · rw [h]; decide
  · have := (Nat.log2_lt h (k := 53)).2 (mag_lt r); omega

theorem log2_52 : (4503599627370496 : Nat).log2 = 52 := by
  have := log2_mul_pow (m := 1) (by omega) 52
  rw [show (1 * 2 ^ 52 : Nat) = 4503599627370496 by rfl] at this
  rw [this]; decide

theorem quotient_two (s : Bool) {m : Nat} (i : Int) (hm : m.log2 ≤ 52) :
    Datum.quotient 54 (.number s m i) (.number false 4503599627370496 (-51)) = some (.number s (m * 2 ^ (55 - m.log2)) (i - 56 + m.log2)) := by
  simp only [Datum.quotient, log2_52, Bool.xor_false]
  rw [if_neg (by omega), Nat.shiftLeft_eq]
  have e : m * 2 ^ (54 + 52 - m.log2) = (m * 2 ^ (54 - m.log2)) * 4503599627370496 := by
    rw [show (4503599627370496 : Nat) = 2 ^ 52 by rfl, Nat.mul_assoc, ← Nat.pow_add]; congr 2; omega
  rw [e, Nat.mul_div_cancel _ (by omega), Nat.mul_mod_left]
  congr 2
  · rw [show 55 - m.log2 = (54 - m.log2) + 1 by omega, Nat.pow_succ]
    simp only [bne_self_eq_false, Bool.toNat_false, Nat.add_zero]
    simp only [Nat.mul_comm, Nat.mul_left_comm]
  · omega

/-- half, exactly -/
theorem div_two (s : Bool) {r q : Nat} (hr : r < 9218868437227405312) (hq : q < 9218868437227405312) (h : val r = 2 * val q) :
    D.div (D.word s r) (D.word false 4611686018427387904) = some (D.word s q) := by
  have hl := log2_mag_le r
  unfold Format.div
  rw [fb, read_word s hr, read_two, quotient_two s _ hl]
  simp only [Option.map_some]
  rw [write_exact s hq (scale_eq (c := 56 - (mag r).log2) (k := expo r) (by omega) ?_)]
  rw [Nat.mul_right_comm, ← val_unfold, h, show 56 - (mag r).log2 = (55 - (mag r).log2) + 1 by omega, Nat.pow_succ]
  simp only [Nat.mul_comm, Nat.mul_assoc]

theorem cut_half (neg : Bool) {m : Nat} (d : Nat) (hm : m ≠ 0) : Toward.even.cut neg (m * 2 ^ d) (d + 1) = m / 2 + (if m % 4 = 3 then 1 else 0) := by
  unfold Toward.cut
  have hmin : min (d + 1) ((m * 2 ^ d).log2 + 2) = d + 1 := by rw [log2_mul_pow hm]; omega
  simp only [hmin, Nat.one_shiftLeft]
  have hp := Nat.two_pow_pos d
  rw [Nat.pow_succ, Nat.mul_comm (2 ^ d) 2, Nat.mul_div_mul_right _ _ hp, Nat.mul_mod_mul_right]
  congr 1
  generalize 2 ^ d = p at *
  rcases Nat.mod_two_eq_zero_or_one m with h | h
  · have h3 : ¬ m % 4 = 3 := by omega
    rw [h, if_neg h3]
    simp
    omega
  · rw [h]
    by_cases h3 : m % 4 = 3
    · rw [if_pos h3]
      have : m / 2 % 2 = 1 := by omega
      simp [this]
    · rw [if_neg h3]
      have : m / 2 % 2 = 0 := by omega
      simp [this]

/-- half of a number of the least place -/
theorem div_two_small (s : Bool) {r : Nat} (hr : r < 9007199254740992) (h0 : r ≠ 0) :
    D.div (D.word s r) (D.word false 4611686018427387904) = some (D.word s (r / 2 + if r % 4 = 3 then 1 else 0)) := by
  have hv := val_small hr
  have he : expo r = 0 := by unfold expo; omega
  have hm : mag r = r := by have := rung_eq r; rw [he] at this; omega
  have hl := log2_mag_le r
  have hl' : r.log2 ≤ 52 := by rw [hm] at hl; exact hl
  unfold Format.div
  rw [fb, read_word s (by omega), read_two, hm, he, quotient_two s _ hl']
  simp only [Option.map_some, Format.write]
  unfold Format.nearest
  simp only [lp, fb, bn, ir]
  have hne : r * 2 ^ (55 - r.log2) ≠ 0 := Nat.mul_ne_zero h0 (Nat.pos_iff_ne_zero.1 (Nat.two_pow_pos _))
  rw [if_neg hne, log2_mul_pow h0]
  have hlast : max (-1074 + ((0 : Nat) : Int) - 56 + (r.log2 : Int) + ((r.log2 + (55 - r.log2) : Nat) : Int) - ((52 : Nat) : Int)) (-1074) = -1074 := by omega
  rw [hlast, show (-1074 + ((0 : Nat) : Int) - 56 + (r.log2 : Int) - -1074).toNat = 0 by omega, Nat.shiftLeft_zero,
    show (-1074 - (-1074 + ((0 : Nat) : Int) - 56 + (r.log2 : Int))).toNat = (55 - r.log2) + 1 by omega, cut_half s _ h0]
  have : (if r % 4 = 3 then 1 else 0) ≤ 1 := by split <;> omega
  rw [show ((-1074 : Int) - -1074).toNat = 0 by omega, Nat.zero_mul, Nat.zero_add, Nat.min_eq_left (by omega)]

theorem div_word_inf (s t : Bool) {r : Nat} (hr : r < 9218868437227405312) : D.div (D.word s r) (D.word t 9218868437227405312) = some (D.word (s ^^ t) 0) := by
  unfold Format.div
  rw [read_word s hr, read_inf]
  simp only [Datum.quotient, Option.map_some]
  rw [write_exact (s ^^ t) (r := 0) (by omega) (by rw [val_zero, Nat.zero_mul, Nat.zero_mul])]

theorem div_word_zero (s t : Bool) {r : Nat} (hr : r < 9218868437227405312) (h0 : r ≠ 0) : D.div (D.word s r) (D.word t 0) = some (D.word (s ^^ t) 9218868437227405312) := by
  unfold Format.div
  rw [read_word s hr, read_zero]
  have := mag_pos (r := r) (by omega)
  simp only [Datum.quotient]
  rw [if_pos trivial, if_neg (by omega)]
  simp [write_inf]

theorem div_inf_word (s t : Bool) {r : Nat} (hr : r < 9218868437227405312) : D.div (D.word s 9218868437227405312) (D.word t r) = some (D.word (s ^^ t) 9218868437227405312) := by
  unfold Format.div
  rw [read_word t hr, read_inf]
  simp only [Datum.quotient, Option.map_some, write_inf]

theorem div_zero_zero (s t : Bool) : D.div (D.word s 0) (D.word t 0) = none := by
  unfold Format.div
  rw [read_zero, read_zero]; rfl

theorem add_word_inf (s t : Bool) {r : Nat} (hr : r < 9218868437227405312) : D.add (D.word s r) (D.word t 9218868437227405312) = some (D.word t 9218868437227405312) := by
  unfold Format.add
  rw [read_word s hr, read_inf]
  simp [Datum.sum, write_inf]

/-- a power of two, kept whole -/
def pw (k : Nat) : Nat := if k = 0 then 1 else pw (k - 1) * 2
  termination_by k
  decreasing_by omega
theorem pw_eq (k : Nat) : pw k = 2 ^ k := by
  induction k with
  | zero => unfold pw; rfl
  | succ k ih => unfold pw; rw [if_neg (by omega), Nat.add_sub_cancel, ih, Nat.pow_succ]
theorem pw_add (a b : Nat) : pw (a + b) = pw a * pw b := by rw [pw_eq, pw_eq, pw_eq, Nat.pow_add]
theorem pw_pos (k : Nat) : 0 < pw k := by rw [pw_eq]; exact Nat.two_pow_pos k
theorem pw_one : pw 1 = 2 := by rw [pw_eq]
theorem pw_52 : pw 52 = 4503599627370496 := by rw [pw_eq]

/-- the nearest of a whole number -/
def ofInt (n : Int) : Nat := D.write (.number (decide (n < 0)) n.natAbs 0)

theorem ofInt_exact {n : Int} {r : Nat} (hr : r < 9218868437227405312) (h : val r = n.natAbs * pw 1074) : ofInt n = D.word (decide (n < 0)) r := by
  unfold ofInt
  refine write_exact _ hr (scale_eq (c := 0) (k := 1074) (by omega) ?_)
  rw [h, Nat.pow_zero, Nat.mul_one, pw_eq]

theorem ofInt_pos {n : Int} {r : Nat} (h0 : 0 ≤ n) (hr : r < 9218868437227405312) (h : val r = n.natAbs * pw 1074) : ofInt n = D.word false r := by
  rw [ofInt_exact hr h, decide_eq_false (by omega)]

theorem val_two_pow (k : Nat) : val (k * 4503599627370496 + 4503599627370496) = 4503599627370496 * pw k := by
  have h1 : mag (k * 4503599627370496 + 4503599627370496) = 4503599627370496 := by unfold mag; rw [if_neg (by omega)]; omega
  have h2 : expo (k * 4503599627370496 + 4503599627370496) = k := by unfold expo; omega
  rw [val_unfold, h1, h2, pw_eq]

theorem val_one : val 4607182418800017408 = 1 * pw 1074 := by
  have := val_two_pow 1022
  rw [show 1022 * 4503599627370496 + 4503599627370496 = 4607182418800017408 by omega] at this
  rw [this, ← pw_52, ← pw_add, Nat.one_mul]

theorem val_two : val 4611686018427387904 = 2 * pw 1074 := by
  have := val_two_pow 1023
  rw [show 1023 * 4503599627370496 + 4503599627370496 = 4611686018427387904 by omega] at this
  rw [this, ← pw_52, ← pw_add, show 52 + 1023 = 1 + 1074 by omega, pw_add, pw_one]

/-- a word's code -/
def code (b : Nat) : Int :=
  if 9218868437227405312 < b % 9223372036854775808 then 9221120237041090561
  else if b < 9223372036854775808 then (b : Int) else -1 - ((b % 9223372036854775808 : Nat) : Int)

/-- is a number a code? -/
def right (n : Int) : Bool := n == 9221120237041090561 || (decide (-9218868437227405313 ≤ n) && decide (n ≤ 9218868437227405312))

/-- a code's word; of NaN, and of what is no code, one NaN -/
def back (n : Int) : Nat :=
  if n = 9221120237041090561 ∨ n < -9218868437227405313 ∨ 9218868437227405312 < n then 9221120237041090561
  else if n < 0 then D.word true (-1 - n).toNat else n.toNat

def isNan (b : Nat) : Bool := decide (9218868437227405312 < b % 9223372036854775808)

theorem word_mod (s : Bool) {r : Nat} (hr : r < 9223372036854775808) : D.word s r % 9223372036854775808 = r := by
  cases s
  · rw [word_false]; omega
  · rw [word_true]; omega

theorem isNan_word (s : Bool) {r : Nat} (hr : r < 9223372036854775808) : isNan (D.word s r) = decide (9218868437227405312 < r) := by
  unfold isNan; rw [word_mod s hr]

theorem code_word (s : Bool) {r : Nat} (hr : r ≤ 9218868437227405312) : code (D.word s r) = if s then -1 - (r : Int) else r := by
  unfold code
  rw [word_mod s (by omega), if_neg (by omega)]
  cases s
  · rw [word_false, if_pos (by omega)]; rfl
  · rw [word_true, if_neg (by omega)]; rfl

theorem code_nan {b : Nat} (h : isNan b = true) : code b = 9221120237041090561 := by
  unfold isNan at h; unfold code; rw [if_pos (by simpa using h)]

/-- the words of a NaN, or one that has a sign and a rung up to infinity's -/
theorem word_cases {b : Nat} (hb : b < 18446744073709551616) : isNan b = true ∨ ∃ s r, r ≤ 9218868437227405312 ∧ b = D.word s r := by
  obtain ⟨s, r, hr, rfl⟩ := cases_word hb
  rcases Nat.lt_or_ge 9218868437227405312 r with h1 | h1
  · left; rw [isNan_word s hr]; simpa using h1
  · exact .inr ⟨s, r, h1, rfl⟩

theorem nan_word {b : Nat} (hb : b < 18446744073709551616) (h : isNan b = true) : ∃ s r, 9218868437227405312 < r ∧ r < 9223372036854775808 ∧ b = D.word s r := by
  obtain ⟨s, r, hr, rfl⟩ := cases_word hb
  rw [isNan_word s hr] at h
  exact ⟨s, r, by simpa using h, hr, rfl⟩

theorem right_cases {n : Int} (h : right n = true) : n = 9221120237041090561 ∨ ∃ s : Bool, ∃ r : Nat, r ≤ 9218868437227405312 ∧ n = if s then -1 - (r : Int) else r := by
  unfold right at h
  simp at h
  rcases h with h | ⟨h1, h2⟩
  · exact .inl h
  · right
    rcases Int.lt_or_le n 0 with h0 | h0
    · exact ⟨true, (-1 - n).toNat, by omega, by simp; omega⟩
    · exact ⟨false, n.toNat, by omega, by simp; omega⟩

theorem back_code (s : Bool) {r : Nat} (hr : r ≤ 9218868437227405312) : back (if s then -1 - (r : Int) else r) = D.word s r := by
  unfold back
  cases s
  · simp only [Bool.false_eq_true, if_false]
    rw [if_neg (by omega), if_neg (by omega), word_false]; omega
  · simp only [if_true]
    rw [if_neg (by omega), if_pos (by omega)]; congr 1; omega

theorem back_nan : back 9221120237041090561 = 9221120237041090561 := by unfold back; rw [if_pos (.inl rfl)]
theorem back_wrong {n : Int} (h : right n = false) : back n = 9221120237041090561 := by
  unfold right at h; simp at h
  unfold back; rw [if_pos (by omega)]

theorem nan_is : isNan 9221120237041090561 = true := by unfold isNan; simp

theorem back_lt (n : Int) : back n < 18446744073709551616 := by
  unfold back; split
  · omega
  · split
    · exact word_lt _ (by omega)
    · omega

/-- what back tells -/
theorem back_cases (n : Int) : ((right n = false ∨ n = 9221120237041090561) ∧ back n = 9221120237041090561) ∨
    ∃ s : Bool, ∃ r : Nat, r ≤ 9218868437227405312 ∧ n = (if s then -1 - (r : Int) else r) ∧ back n = D.word s r ∧ right n = true ∧ n ≠ 9221120237041090561 := by
  cases hr : right n
  · exact .inl ⟨.inl rfl, back_wrong hr⟩
  · rcases right_cases hr with rfl | ⟨s, r, h, rfl⟩
    · exact .inl ⟨.inr rfl, back_nan⟩
    · refine .inr ⟨s, r, h, rfl, back_code s h, rfl, ?_⟩
      split <;> omega

theorem code_back {n : Int} (h : right n = true) : code (back n) = n := by
  rcases right_cases h with rfl | ⟨s, r, hr, rfl⟩
  · rw [back_nan]; exact code_nan nan_is
  · rw [back_code s hr, code_word s hr]

theorem isNan_back {n : Int} : isNan (back n) = (!(right n) || n == 9221120237041090561) := by
  rcases back_cases n with ⟨h, hb⟩ | ⟨s, r, hr, rfl, hb, h1, h2⟩
  · rw [hb, nan_is]
    rcases h with h | h
    · rw [h]; rfl
    · subst h; simp
  · rw [hb, isNan_word s (by omega), h1, decide_eq_false (by omega), beq_false_of_ne h2]; rfl

def alike (b c : Nat) : Prop := b = c ∨ (isNan b = true ∧ isNan c = true)

theorem alike.refl (b : Nat) : alike b b := .inl rfl
theorem alike.symm {b c : Nat} (h : alike b c) : alike c b := by
  rcases h with h | ⟨h1, h2⟩
  · exact .inl h.symm
  · exact .inr ⟨h2, h1⟩
theorem alike.code {b c : Nat} (h : alike b c) : code b = code c := by
  rcases h with h | ⟨h1, h2⟩
  · rw [h]
  · rw [code_nan h1, code_nan h2]

/-- the four operations, and that NaN is NaN in each -/
def fop (op : Nat) (x y : Nat) : Option Nat := if op = 0 then D.add x y else if op = 1 then D.sub x y else if op = 2 then D.mul x y else D.div x y

theorem fop_nan_left (op : Nat) {x : Nat} (y : Nat) (hx : x < 18446744073709551616) (h : isNan x = true) : fop op x y = none := by
  obtain ⟨s, r, h1, h2, rfl⟩ := nan_word hx h
  have := op_nan_left s y h1 h2
  unfold fop; split <;> (try split) <;> (try split) <;> simp [this]

theorem fop_nan_right (op : Nat) (x : Nat) {y : Nat} (hy : y < 18446744073709551616) (h : isNan y = true) : fop op x y = none := by
  obtain ⟨s, r, h1, h2, rfl⟩ := nan_word hy h
  have := op_nan_right s x h1 h2
  unfold fop; split <;> (try split) <;> (try split) <;> simp [this]

theorem fop_alike (op : Nat) {x y u v : Nat} (hx : x < 18446744073709551616) (hy : y < 18446744073709551616) (hu : u < 18446744073709551616) (hv : v < 18446744073709551616)
    (h1 : alike x u) (h2 : alike y v) : fop op x y = fop op u v := by
  rcases h1 with rfl | ⟨a, b⟩
  · rcases h2 with rfl | ⟨c, d⟩
    · rfl
    · rw [fop_nan_right op x hy c, fop_nan_right op x hv d]
  · rw [fop_nan_left op y hx a, fop_nan_left op v hu b]

/-- the code of what an operation gives -/
def ocode : Option Nat → Int
  | some r => code r
  | none => 9221120237041090561

theorem ocode_getD {o : Option Nat} {b : Nat} (h : isNan b = true) : code (o.getD b) = ocode o := by
  cases o
  · exact code_nan h
  · rfl

theorem rep_pw {m k : Nat} (hm : m < 9007199254740992) (hk : k ≤ 2045) : ∃ r, r < 9218868437227405312 ∧ val r = m * pw k := by
  obtain ⟨r, h1, h2⟩ := rep hm hk
  exact ⟨r, h1, by rw [h2, pw_eq]⟩

theorem order_nat {r q : Nat} (hr : r ≤ 9218868437227405312) (hq : q ≤ 9218868437227405312) : D.order r q = some (compare (r : Int) (q : Int)) := by
  have := order_word false false hr hq
  rw [word_false, word_false] at this
  rw [this]; rfl

theorem cmp_ge {r q : Nat} (hr : r ≤ 9218868437227405312) (hq : q ≤ 9218868437227405312) : (D.order r q == some .gt || D.order r q == some .eq) = decide (q ≤ r) := by
  rw [order_nat hr hq]
  by_cases h : q ≤ r
  · rw [decide_eq_true h]
    simp only [compare, compareOfLessAndEq]
    rw [if_neg (by omega)]
    split <;> rfl
  · rw [decide_eq_false h]
    simp only [compare, compareOfLessAndEq]
    rw [if_pos (by omega)]; rfl

theorem cmp_lt {r q : Nat} (hr : r ≤ 9218868437227405312) (hq : q ≤ 9218868437227405312) : (D.order r q == some .lt) = decide (r < q) := by
  rw [order_nat hr hq]
  simp only [compare, compareOfLessAndEq]
  by_cases h : r < q
  · rw [decide_eq_true h, if_pos (by omega)]; rfl
  · rw [decide_eq_false h, if_neg (by omega)]
    split <;> rfl

theorem cmp_eq {r q : Nat} (hr : r ≤ 9218868437227405312) (hq : q ≤ 9218868437227405312) : (D.order r q == some .eq) = decide (r = q) := by
  rw [order_nat hr hq]
  simp only [compare, compareOfLessAndEq]
  by_cases h : r = q
  · rw [decide_eq_true h, if_neg (by omega), if_pos (by omega)]; rfl
  · rw [decide_eq_false h]
    split
    · rfl
    · rw [if_neg (by omega)]; rfl

theorem val_up {r : Nat} (h : 4503599627370496 ≤ r) : val (r + 4503599627370496) = 2 * val r := by
  have h1 : mag (r + 4503599627370496) = mag r := by unfold mag; split <;> split <;> omega
  have h2 : expo (r + 4503599627370496) = expo r + 1 := by unfold expo; omega
  rw [val_unfold, val_unfold, h1, h2, Nat.pow_succ]
  simp only [Nat.mul_comm, Nat.mul_left_comm]

/-- the rung of twice -/
def dbl (r : Nat) : Nat := if r < 4503599627370496 then 2 * r else r + 4503599627370496
theorem val_dbl (r : Nat) : val (dbl r) = 2 * val r := by
  unfold dbl; split
  · rw [val_small (by omega), val_small (by omega)]
  · exact val_up (by omega)

theorem half_ne {r : Nat} (h0 : r ≠ 0) (hr : r < 9218868437227405312) : ∃ q, q ≤ 9218868437227405312 ∧ q ≠ r ∧ D.div r 4611686018427387904 = some q := by
  by_cases h : r < 9007199254740992
  · have := div_two_small false h h0
    rw [word_false, word_false, word_false] at this
    refine ⟨_, ?_, ?_, this⟩
    · split <;> omega
    · split <;> omega
  · have hv := val_up (r := r - 4503599627370496) (by omega)
    rw [Nat.sub_add_cancel (by omega)] at hv
    have := div_two false hr (q := r - 4503599627370496) (by omega) hv
    rw [word_false, word_false, word_false] at this
    exact ⟨_, by omega, by omega, this⟩

theorem half_inf : D.div 9218868437227405312 4611686018427387904 = some 9218868437227405312 := by
  have := div_inf_word false false (r := 4611686018427387904) (by omega)
  rw [word_false, word_false] at this
  exact this

theorem half_nat {r : Nat} (h : 9007199254740992 ≤ r) (hr : r < 9218868437227405312) : D.div r 4611686018427387904 = some (r - 4503599627370496) := by
  have hv := val_up (r := r - 4503599627370496) (by omega)
  rw [Nat.sub_add_cancel (by omega)] at hv
  have := div_two false hr (q := r - 4503599627370496) (by omega) hv
  rw [word_false, word_false, word_false] at this
  exact this

theorem dbl_nat {r : Nat} (hr : r < 4607182418800017408) : D.mul r 4611686018427387904 = some (dbl r) := by
  have hd : dbl r < 9218868437227405312 := by unfold dbl; split <;> omega
  have := mul_two false (r := r) (q := dbl r) (by omega) hd (val_dbl r)
  rw [word_false, word_false, word_false] at this
  exact this

/-- behind the doubling and the halving: one digit ahead of the point -/
theorem phase_one {r0 r : Nat} {e : Nat} (h1 : r + (e - 1023) * 4503599627370496 = r0) (he : 1023 ≤ e) (h2 : 4607182418800017408 ≤ r) (h3 : r < 4611686018427387904) :
    e = expo r0 + 1 ∧ val r = mag r0 * pw 1022 := by
  have e1 : expo r0 = e - 1 := by unfold expo; omega
  have e2 : mag r = mag r0 := by unfold mag; rw [if_neg (by omega), if_neg (by omega)]; omega
  have e3 : expo r = 1022 := by unfold expo; omega
  exact ⟨by omega, by rw [val_unfold, e2, e3, pw_eq]⟩

theorem pw_lt {a b : Nat} (h : pw a < pw b) : a < b := by
  rw [pw_eq, pw_eq] at h
  exact (Nat.pow_lt_pow_iff_right (by omega)).1 h

theorem phase_two_up {r0 r : Nat} {e : Nat} (he : 1 ≤ e) (he2 : e ≤ 1023) (h1 : val r = val r0 * pw (1023 - e)) (h2 : 4607182418800017408 ≤ r) (h3 : r < 4611686018427387904) :
    e = expo r0 + 1 ∧ val r = mag r0 * pw 1022 := by
  have e3 : expo r = 1022 := by unfold expo; omega
  have m1 : 4503599627370496 ≤ mag r := mag_ge' (by omega)
  have m2 := mag_lt r
  have m3 := mag_lt r0
  have hv : mag r * pw 1022 = mag r0 * pw (expo r0 + (1023 - e)) := by
    have : val r = mag r * pw 1022 := by rw [val_unfold, e3, pw_eq]
    rw [← this, h1, val_unfold, pw_add, pw_eq (expo r0), Nat.mul_assoc]
  have low : 1022 ≤ expo r0 + (1023 - e) := by
    have a1 : 4503599627370496 * pw 1022 ≤ mag r * pw 1022 := Nat.mul_le_mul_right _ m1
    have a2 : mag r0 * pw (expo r0 + (1023 - e)) < 9007199254740992 * pw (expo r0 + (1023 - e)) := Nat.mul_lt_mul_of_pos_right m3 (pw_pos _)
    have a3 : pw (52 + 1022) < pw (53 + (expo r0 + (1023 - e))) := by
      rw [pw_add, pw_add 53, pw_52, show pw 53 = 9007199254740992 by rw [pw_eq]]; omega
    have := pw_lt a3; omega
  have high : expo r0 + (1023 - e) ≤ 1022 := by
    by_cases hx : expo r0 = 0
    · omega
    · have m4 := mag_ge hx
      have a1 : 4503599627370496 * pw (expo r0 + (1023 - e)) ≤ mag r0 * pw (expo r0 + (1023 - e)) := Nat.mul_le_mul_right _ m4
      have a2 : mag r * pw 1022 < 9007199254740992 * pw 1022 := Nat.mul_lt_mul_of_pos_right m2 (pw_pos _)
      have a3 : pw (52 + (expo r0 + (1023 - e))) < pw (53 + 1022) := by
        rw [pw_add, pw_add 53, pw_52, show pw 53 = 9007199254740992 by rw [pw_eq]]; omega
      have := pw_lt a3; omega
  have hx : expo r0 + (1023 - e) = 1022 := by omega
  refine ⟨by omega, ?_⟩
  rw [hx] at hv
  rw [← hv, val_unfold, e3, pw_eq]

theorem phase_two_end {r0 r : Nat} (h1 : val r = val r0 * pw 1022) (h3 : r < 4607182418800017408) :
    1 = expo r0 + 1 ∧ val r = mag r0 * pw 1022 := by
  have hr : val r < 1 * pw 1074 := by rw [← val_one]; exact val_lt h3
  have : val r0 < 4503599627370496 := by
    rw [h1, Nat.one_mul, show 1074 = 52 + 1022 by omega, pw_add, pw_52] at hr
    exact Nat.lt_of_mul_lt_mul_right hr
  have hr0 : r0 < 9007199254740992 := by
    rcases Nat.lt_or_ge r0 9007199254740992 with h | h
    · exact h
    · have := val_le (r := 9007199254740991) (q := r0) (by omega)
      rw [val_small (by omega)] at this; omega
  have e1 : expo r0 = 0 := by unfold expo; omega
  have hm : mag r0 = r0 := by have := rung_eq r0; rw [e1] at this; omega
  rw [val_small hr0] at h1
  exact ⟨by omega, by rw [h1, hm]⟩

/-- digit by digit -/
def digits (m i : Nat) : Nat := m * 2 ^ i / 9007199254740992
def rest (m i : Nat) : Nat := m * 2 ^ i % 9007199254740992

theorem digits_zero {m : Nat} (h : m < 9007199254740992) : digits m 0 = 0 := by unfold digits; omega
theorem rest_zero {m : Nat} (h : m < 9007199254740992) : rest m 0 = m := by unfold rest; omega
theorem digits_succ (m i : Nat) : digits m (i + 1) = 2 * digits m i + (if 4503599627370496 ≤ rest m i then 1 else 0) := by
  unfold digits rest; rw [Nat.pow_succ, ← Nat.mul_assoc]; split <;> omega
theorem rest_succ (m i : Nat) : rest m (i + 1) = 2 * (if 4503599627370496 ≤ rest m i then rest m i - 4503599627370496 else rest m i) := by
  unfold rest; rw [Nat.pow_succ, ← Nat.mul_assoc]; split <;> omega
theorem rest_lt (m i : Nat) : rest m i < 9007199254740992 := by unfold rest; exact Nat.mod_lt _ (by omega)
theorem digits_end (m : Nat) : digits m 53 = m := by
  unfold digits; exact Nat.mul_div_cancel m (by omega)
theorem digits_le {m i : Nat} (hm : m < 9007199254740992) (hi : i ≤ 53) : digits m i ≤ 9007199254740991 := by
  have h : digits m i ≤ digits m 53 := by
    unfold digits
    exact Nat.div_le_div_right (Nat.mul_le_mul_left _ (Nat.pow_le_pow_right (by omega) hi))
  rw [digits_end] at h; omega

theorem one_le_iff {r x : Nat} (h : val r = x * pw 1022) : 4607182418800017408 ≤ r ↔ 4503599627370496 ≤ x := by
  have h1 : val 4607182418800017408 = 4503599627370496 * pw 1022 := by
    rw [val_one, show 1074 = 52 + 1022 by omega, pw_add, pw_52, Nat.one_mul]
  constructor
  · intro hr
    have := val_le hr
    rw [h1, h] at this
    exact Nat.le_of_mul_le_mul_right this (pw_pos _)
  · intro hx
    rcases Nat.lt_or_ge r 4607182418800017408 with hlt | hge
    · have := val_lt hlt
      rw [h1, h] at this
      have h2 := Nat.mul_le_mul_right (pw 1022) hx
      omega
    · exact hge

/-- one less, and twice -/
theorem less_one {r x : Nat} (hr : r < 9218868437227405312) (h : val r = x * pw 1022) (hx : 4503599627370496 ≤ x) (hx2 : x < 9007199254740992) :
    ∃ q, q < 4607182418800017408 ∧ val q = (x - 4503599627370496) * pw 1022 ∧ D.sub r 4607182418800017408 = some q := by
  obtain ⟨q, hq, hv⟩ := rep_pw (m := x - 4503599627370496) (k := 1022) (by omega) (by omega)
  refine ⟨q, ?_, hv, ?_⟩
  · rcases Nat.lt_or_ge q 4607182418800017408 with h1 | h1
    · exact h1
    · have := (one_le_iff hv).1 h1; omega
  · have hs := sub_word r false (q := 4607182418800017408) (by omega)
    rw [word_false] at hs
    rw [hs]
    have ha := add_exact false true false (r := r) (q := 4607182418800017408) (x := q) hr (by omega) hq ?_ (fun _ => rfl)
    · rw [word_false, word_false] at ha; exact ha
    · have h1 : val 4607182418800017408 = 4503599627370496 * pw 1022 := by
        rw [val_one, show 1074 = 52 + 1022 by omega, pw_add, pw_52, Nat.one_mul]
      simp only [sval, Bool.false_eq_true, if_false, if_true]
      rw [h, hv, h1, Nat.sub_mul]
      have := Nat.mul_le_mul_right (pw 1022) hx
      omega

theorem twice {r x : Nat} (hr : r < 4607182418800017408) (h : val r = x * pw 1022) :
    ∃ q, q < 9218868437227405312 ∧ val q = (2 * x) * pw 1022 ∧ D.mul r 4611686018427387904 = some q :=
  ⟨dbl r, by unfold dbl; split <;> omega, by rw [val_dbl, h, Nat.mul_assoc], dbl_nat hr⟩

theorem bits_end (r : Nat) : mag r < 4503599627370496 ∧ mag r = r ∨ 4503599627370496 ≤ mag r ∧ (expo r + 1) * 4503599627370496 + mag r - 4503599627370496 = r := by
  have := rung_eq r
  by_cases h : expo r = 0
  · rw [h] at this ⊢
    rcases Nat.lt_or_ge (mag r) 4503599627370496 with h1 | h1
    · left; omega
    · right; omega
  · have := mag_ge h
    right; omega

/-- where the document's way back stands -/
def Bk (m e0 r k : Nat) : Prop := r < 9218868437227405312 ∧ val r = m * pw (e0 + 1074 - k)

theorem bk_up {m e0 r k : Nat} (hm : m < 9007199254740992) (h : Bk m e0 r k) (hk : 1075 < k) (he : e0 ≤ 2046) (hk2 : k ≤ e0) :
    ∃ q, Bk m e0 q (k - 1) ∧ D.mul r 4611686018427387904 = some q := by
  obtain ⟨q, hq, hv⟩ := rep_pw (m := m) (k := e0 + 1074 - (k - 1)) hm (by omega)
  refine ⟨q, ⟨hq, hv⟩, ?_⟩
  have := mul_two false h.1 hq (by rw [hv, h.2, show e0 + 1074 - (k - 1) = (e0 + 1074 - k) + 1 by omega, pw_add _ 1, pw_one]; simp only [Nat.mul_comm, Nat.mul_left_comm])
  rw [word_false, word_false, word_false] at this
  exact this

theorem bk_down {m e0 r k : Nat} (hm : m < 9007199254740992) (h : Bk m e0 r k) (hk : k < 1075) (he : e0 ≤ k) (he1 : 1 ≤ e0) :
    ∃ q, Bk m e0 q (k + 1) ∧ D.div r 4611686018427387904 = some q := by
  obtain ⟨q, hq, hv⟩ := rep_pw (m := m) (k := e0 + 1074 - (k + 1)) hm (by omega)
  refine ⟨q, ⟨hq, hv⟩, ?_⟩
  have := div_two false h.1 hq (by rw [hv, h.2, show e0 + 1074 - k = (e0 + 1074 - (k + 1)) + 1 by omega, pw_add _ 1, pw_one]; simp only [Nat.mul_comm, Nat.mul_left_comm])
  rw [word_false, word_false, word_false] at this
  exact this

/-- a whole number with so few digits is exact -/
theorem ofInt_small {m : Nat} (hm : m < 9007199254740992) : ∃ q, q < 9218868437227405312 ∧ val q = m * pw 1074 ∧ ofInt (m : Int) = q := by
  obtain ⟨q, hq, hv⟩ := rep_pw (m := m) (k := 1074) hm (by omega)
  refine ⟨q, hq, hv, ?_⟩
  rw [ofInt_pos (by omega) hq (by rw [hv, Int.natAbs_natCast]), word_false]

theorem bk_start {m e0 : Nat} (hm : m < 9007199254740992) : ∃ q, Bk m e0 q e0 ∧ ofInt (m : Int) = q := by
  obtain ⟨q, h1, h2, h3⟩ := ofInt_small hm
  exact ⟨q, ⟨h1, by rw [h2, show e0 + 1074 - e0 = 1074 by omega]⟩, h3⟩

theorem bk_end {n r e0 : Nat} (he : e0 = expo n + 1) (h : Bk (mag n) e0 r 1075) : r = n := by
  refine val_inj ?_; rw [h.2, val_unfold n, pw_eq, show e0 + 1074 - 1075 = expo n by omega]

theorem mag_split (n : Nat) : (n / 4503599627370496 = 0 → mag n = n % 4503599627370496 ∧ expo n + 1 = 1) ∧
    (0 < n / 4503599627370496 → mag n = n % 4503599627370496 + 4503599627370496 ∧ expo n + 1 = n / 4503599627370496) := by
  constructor <;> intro h <;> constructor
  · unfold mag; split <;> omega
  · unfold expo; omega
  · unfold mag; split <;> omega
  · unfold expo; omega

theorem order_zero (s : Bool) {r : Nat} (hr : r ≤ 9218868437227405312) : D.order (D.word s r) 0 = some (compare (sv s r) 0) := by
  have := order_word s false hr (q := 0) (by omega)
  rw [word_false] at this; rw [this]; rfl

theorem order_zero_eq (s : Bool) {r : Nat} (hr : r ≤ 9218868437227405312) : (D.order (D.word s r) 0 == some .eq) = decide (r = 0) := by
  rw [order_zero s hr]
  unfold sv
  rcases Nat.eq_zero_or_pos r with h0 | h0
  · subst h0; cases s <;> rfl
  · rw [decide_eq_false (by omega)]
    simp only [compare, compareOfLessAndEq]
    cases s
    · simp only [Bool.false_eq_true, if_false]; rw [if_neg (by omega), if_neg (by omega)]; rfl
    · simp only [if_true]; rw [if_pos (by omega)]; rfl

theorem order_zero_lt (s : Bool) {r : Nat} (hr : r ≤ 9218868437227405312) : (D.order (D.word s r) 0 == some .lt) = (s && decide (r ≠ 0)) := by
  rw [order_zero s hr]
  unfold sv
  rcases Nat.eq_zero_or_pos r with h0 | h0
  · subst h0; cases s <;> rfl
  · rw [decide_eq_true (by omega)]
    simp only [compare, compareOfLessAndEq]
    cases s
    · simp only [Bool.false_eq_true, if_false]; rw [if_neg (by omega), if_neg (by omega)]; rfl
    · simp only [if_true]; rw [if_pos (by omega)]; rfl

/-- where the doubling stands -/
def Ph2 (r0 r k : Nat) : Prop := (k = expo r0 + 1 ∧ val r = mag r0 * pw 1022 ∧ 4607182418800017408 ≤ r) ∨ (k ≤ 1023 ∧ val r = val r0 * pw (1023 - k))

theorem ph2_start {r0 r k : Nat} (hk : r + (k - 1023) * 4503599627370496 = r0) (hk0 : 1023 ≤ k) (hk2 : k = 1023 ∨ 4607182418800017408 ≤ r) (hr2 : r < 4611686018427387904) : Ph2 r0 r k := by
  by_cases h4 : 4607182418800017408 ≤ r
  · have := phase_one hk hk0 h4 hr2
    exact .inl ⟨this.1, this.2, h4⟩
  · obtain rfl : k = 1023 := by omega
    obtain rfl : r = r0 := by omega
    refine .inr ⟨by omega, ?_⟩
    have : pw 0 = 1 := by rw [pw_eq]
    rw [show 1023 - 1023 = 0 by omega, this, Nat.mul_one]

theorem ph2_step {r0 r k : Nat} (h : Ph2 r0 r k) (hr : r < 4607182418800017408) (hk : 1 < k) : Ph2 r0 (dbl r) (k - 1) ∧ dbl r < 4611686018427387904 := by
  refine ⟨?_, by unfold dbl; split <;> omega⟩
  rcases h with ⟨_, _, h⟩ | ⟨h1, h2⟩
  · omega
  · refine .inr ⟨by omega, ?_⟩
    rw [val_dbl, h2, show 1023 - (k - 1) = (1023 - k) + 1 by omega, pw_add, pw_one]
    simp only [Nat.mul_comm, Nat.mul_left_comm]

theorem ph2_end {r0 r k : Nat} (h : Ph2 r0 r k) (hr2 : r < 4611686018427387904) (hk : 1 ≤ k) (he : 4607182418800017408 ≤ r ∨ k = 1) : k = expo r0 + 1 ∧ val r = mag r0 * pw 1022 := by
  rcases h with ⟨h1, h2, _⟩ | ⟨h1, h2⟩
  · exact ⟨h1, h2⟩
  · by_cases h4 : 4607182418800017408 ≤ r
    · exact phase_two_up hk h1 h2 h4 hr2
    · obtain rfl : k = 1 := by omega
      rw [show 1023 - 1 = 1022 by omega] at h2
      exact phase_two_end h2 (by omega)

/-- where the digits stand -/
def Ph3 (m r i : Nat) : Prop := val r = rest m i * pw 1022

theorem ph3_start {m r : Nat} (hm : m < 9007199254740992) (h : val r = m * pw 1022) : Ph3 m r 0 := by unfold Ph3; rw [rest_zero hm, h]
theorem ph3_lt {m r i : Nat} (h : Ph3 m r i) : r < 4611686018427387904 := by
  have h1 := rest_lt m i
  unfold Ph3 at h
  have h2 : val 4611686018427387904 = 9007199254740992 * pw 1022 := by
    rw [val_two, show 1074 = 52 + 1022 by omega, pw_add, pw_52, ← Nat.mul_assoc]
  refine lt_of_val ?_
  rw [h2, h]
  exact Nat.mul_lt_mul_of_pos_right h1 (pw_pos _)
theorem ph3_high {m r i : Nat} (h : Ph3 m r i) (hr : 4607182418800017408 ≤ r) :
    ∃ q p, D.sub r 4607182418800017408 = some q ∧ D.mul q 4611686018427387904 = some p ∧ Ph3 m p (i + 1) ∧ digits m (i + 1) = 2 * digits m i + 1 := by
  have hx := (one_le_iff h).1 hr
  obtain ⟨q, q1, q2, q3⟩ := less_one (by have := ph3_lt h; omega) h hx (rest_lt m i)
  obtain ⟨p, _, p2, p3⟩ := twice q1 q2
  exact ⟨q, p, q3, p3, by unfold Ph3; rw [rest_succ, if_pos hx, p2], by rw [digits_succ, if_pos hx]⟩
theorem ph3_low {m r i : Nat} (h : Ph3 m r i) (hr : r < 4607182418800017408) :
    ∃ p, D.mul r 4611686018427387904 = some p ∧ Ph3 m p (i + 1) ∧ digits m (i + 1) = 2 * digits m i := by
  have hx : ¬ 4503599627370496 ≤ rest m i := fun hx => by have := (one_le_iff h).2 hx; omega
  obtain ⟨p, _, p2, p3⟩ := twice hr h
  exact ⟨p, p3, by unfold Ph3; rw [rest_succ, if_neg hx, p2], by rw [digits_succ, if_neg hx]; omega⟩

def gAdd (a b : Int) : Int := ocode (fop 0 (back a) (back b))
def gDiv (a b : Int) : Int := ocode (fop 3 (back a) (back b))
def gOf (n : Int) : Int := code (ofInt n)

theorem code_range (b : Nat) : -9223372036854775808 ≤ code b ∧ code b ≤ 9223372036854775807 := by
  unfold code; split
  · omega
  · split <;> omega
theorem ocode_none : ocode none = 9221120237041090561 := rfl
theorem ocode_range (o : Option Nat) : -9223372036854775808 ≤ ocode o ∧ ocode o ≤ 9223372036854775807 := by
  cases o
  · rw [ocode_none]; omega
  · exact code_range _

theorem fop3 (x y : Nat) : fop 3 x y = D.div x y := rfl

end AnteFlo
/- WHAT '+', '-', '*', '/' ON float64 GIVE, WHETHER OR NOT THE OUTCOME IS A NaN (whose bits the tape chooses), as equations of the walk. No condition. -/
namespace Go.Proofs.YtolefpeiceiocaaGreat
open AnteFlo

/-- the NaN that the tape chooses -/
def nanq (w : World) (x y : Nat) : Nat := Question.cut (.nanBits .f64 x y) (w.tape w.drawn (.nanBits .f64 x y))
def fbits (op x y : Nat) (w : World) : Nat := (fop op x y).getD (nanq w x y)
def fworld (op x y : Nat) (w : World) : World := if (fop op x y).isSome then w else w.drew

theorem nan_of {u v b : Nat} (h : b = u * 2 ^ 63 + 9218868437227405312 + 1 + v) (hu : u < 2) (hv : v < 4503599627370495) : isNan b = true ∧ b < 18446744073709551616 := by
  unfold isNan
  rw [decide_eq_true_eq]
  omega

theorem nanq_nan (w : World) (x y : Nat) : isNan (nanq w x y) = true ∧ nanq w x y < 18446744073709551616 :=
  nan_of (u := w.tape w.drawn (.nanBits .f64 x y) % 2) (v := w.tape w.drawn (.nanBits .f64 x y) / 2 % (2 ^ 52 - 1)) rfl (by omega) (by omega)

theorem fworld_drewN (op x y : Nat) (w : World) : ∃ n, fworld op x y w = w.drewN n := by
  unfold fworld; split
  · exact ⟨0, rfl⟩
  · exact ⟨1, rfl⟩

theorem fop_lt {op x y r : Nat} (h : fop op x y = some r) : r < 18446744073709551616 := by
  unfold fop at h
  split at h
  · exact Ieee.Format.add_lt D h
  · split at h
    · exact Ieee.Format.sub_lt D h
    · split at h
      · exact Ieee.Format.mul_lt D h
      · exact Ieee.Format.div_lt D h

theorem fbits_lt (op x y : Nat) (w : World) : fbits op x y w < 18446744073709551616 := by
  unfold fbits
  cases h : fop op x y with
  | none => exact (nanq_nan w x y).2
  | some r => exact fop_lt h

theorem fbits_code (op x y : Nat) (w : World) : code (fbits op x y w) = ocode (fop op x y) := ocode_getD (nanq_nan w x y).1

theorem fbits_none {op x y : Nat} (h : fop op x y = none) (w : World) : isNan (fbits op x y w) = true := by unfold fbits; rw [h]; exact (nanq_nan w x y).1

section
variable {P : Program}
theorem run_fadd (t : TypeId) (x y : Nat) (w : World) : (binOp .add t (.float .f64 x) (.float .f64 y)).run P w = .ok (.float .f64 (fbits 0 x y w)) (fworld 0 x y w) := by
  unfold fbits fworld fop nanq
  have h : ∃ o, Ieee.double.add x y = o := ⟨_, rfl⟩
  obtain ⟨o, h⟩ := h
  cases o <;> simp [binOp, Op.floatArith, FloatKind.format, h, Question.forced] <;> rfl
theorem run_fdiv (t : TypeId) (x y : Nat) (w : World) : (binOp .quo t (.float .f64 x) (.float .f64 y)).run P w = .ok (.float .f64 (fbits 3 x y w)) (fworld 3 x y w) := by
  unfold fbits fworld fop nanq
  have h : ∃ o, Ieee.double.div x y = o := ⟨_, rfl⟩
  obtain ⟨o, h⟩ := h
  cases o <;> simp [binOp, Op.floatArith, FloatKind.format, h, Question.forced] <;> rfl
end
end Go.Proofs.YtolefpeiceiocaaGreat
