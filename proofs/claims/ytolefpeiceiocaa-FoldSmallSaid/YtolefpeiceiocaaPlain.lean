/- PLAIN LAWS ON float64, AS Ieee HAS THEM: words, rungs, codes; no Go and no program in sight. No condition. -/
import Ieee.Arith
import Derived.Laws.FloatBits
namespace AnteFlo
open Ieee

abbrev D := Ieee.double

theorem sw : D.signWeight = 9223372036854775808 := by rfl
theorem bn : D.binade = 4503599627370496 := by rfl
theorem ir : D.infRung = 9218868437227405312 := by rfl
theorem lp : D.leastPlace = -1074 := by rfl
theorem fb : D.fractionBits = 52 := by rfl

/-- the significand of a rung -/
def mag (r : Nat) : Nat := if r < 4503599627370496 then r else 4503599627370496 + r % 4503599627370496
/-- the place of a rung's last digit, above the least -/
def expo (r : Nat) : Nat := r / 4503599627370496 - 1
/-- a rung's number, in units of the least one -/
def val (r : Nat) : Nat := mag r * 2 ^ expo r

theorem rung_eq (r : Nat) : expo r * 4503599627370496 + mag r = r := by
  unfold mag expo; split <;> omega

theorem mag_lt (r : Nat) : mag r < 9007199254740992 := by
  unfold mag; split <;> omega

theorem mag_ge {r : Nat} (h : expo r ≠ 0) : 4503599627370496 ≤ mag r := by
  unfold expo at h; unfold mag; split <;> omega

theorem mag_pos {r : Nat} (h : 0 < r) : 0 < mag r := by
  unfold mag; split <;> omega

theorem val_pos {r : Nat} (h : 0 < r) : 0 < val r := Nat.mul_pos (mag_pos h) (Nat.two_pow_pos _)

theorem val_zero : val 0 = 0 := by rfl

theorem read_word (s : Bool) {r : Nat} (h : r < 9218868437227405312) :
    D.read (D.word s r) = .number s (mag r) (-1074 + (expo r : Nat)) := by
  unfold Format.read Format.word
  simp only [sw, bn, ir, lp]
  cases s
  · simp only [Bool.false_eq_true, if_false]
    rw [show r / 9223372036854775808 % 2 = 0 by omega, show r % 9223372036854775808 = r by omega]
    unfold mag expo
    split
    · rw [show r / 4503599627370496 - 1 = 0 by omega]; simp
    · simp
  · simp only [if_true]
    rw [show (9223372036854775808 + r) / 9223372036854775808 % 2 = 1 by omega, show (9223372036854775808 + r) % 9223372036854775808 = r by omega]
    unfold mag expo
    split
    · rw [show r / 4503599627370496 - 1 = 0 by omega]; simp
    · simp

theorem read_inf (s : Bool) : D.read (D.word s 9218868437227405312) = .infinity s := by
  unfold Format.read Format.word
  simp only [sw, bn, ir]
  cases s
  · simp
  · simp

theorem read_nan (s : Bool) {r : Nat} (h : 9218868437227405312 < r) (h2 : r < 9223372036854775808) :
    D.read (D.word s r) = .nan s (r - 9218868437227405312) := by
  unfold Format.read Format.word
  simp only [sw, bn, ir, lp]
  cases s
  · simp only [Bool.false_eq_true, if_false]
    rw [show r / 9223372036854775808 % 2 = 0 by omega, show r % 9223372036854775808 = r by omega]
    rw [if_neg (by omega), if_neg (by omega), if_neg (by omega)]; simp
  · simp only [if_true]
    rw [show (9223372036854775808 + r) / 9223372036854775808 % 2 = 1 by omega, show (9223372036854775808 + r) % 9223372036854775808 = r by omega]
    rw [if_neg (by omega), if_neg (by omega), if_neg (by omega)]; simp

theorem log2_mul_pow {m : Nat} (h : m ≠ 0) (k : Nat) : (m * 2 ^ k).log2 = m.log2 + k := by
  induction k with
  | zero => simp
  | succ k ih =>
    have : m * 2 ^ (k + 1) = 2 * (m * 2 ^ k) := by rw [Nat.pow_succ]; simp [Nat.mul_comm, Nat.mul_left_comm]
    rw [this, Nat.log2_two_mul (by have := Nat.two_pow_pos k; exact Nat.mul_ne_zero h (by omega)), ih]; omega

theorem cut_zero (neg : Bool) (n : Nat) : Toward.even.cut neg n 0 = n := by
  unfold Toward.cut; simp; omega

theorem cut_exact (neg : Bool) (q d : Nat) : Toward.even.cut neg (q * 2 ^ d) d = q := by
  unfold Toward.cut
  by_cases hq : q = 0
  · subst hq; simp
  · have hm : min d ((q * 2 ^ d).log2 + 2) = d := by rw [log2_mul_pow hq]; omega
    simp only [hm, Nat.one_shiftLeft]
    rw [Nat.mul_div_cancel _ (Nat.two_pow_pos d), Nat.mul_mod_left]
    have := Nat.two_pow_pos d
    have h1 : ¬ (2 ^ d < 2 * 0) := by omega
    have h2 : (2 ^ d == 2 * 0) = false := by simp
    simp

theorem log2_mag {r : Nat} (h : 4503599627370496 ≤ mag r) : (mag r).log2 = 52 := by
  have h1 := mag_lt r
  have hne : mag r ≠ 0 := by omega
  have a : (mag r).log2 < 53 := (Nat.log2_lt hne).2 h1
  have b : ¬ (mag r).log2 < 52 := fun hlt => by
    have := (Nat.log2_lt hne).1 hlt; omega
  omega

theorem log2_small {m : Nat} (h0 : m ≠ 0) (h : m < 4503599627370496) : m.log2 < 52 := (Nat.log2_lt h0).2 h

/-- WHAT A RUNG STANDS FOR IS ROUNDED TO THAT RUNG. -/
theorem nearest_exact (neg : Bool) {m : Nat} {place : Int} {r : Nat} (hr : r < 9218868437227405312)
    (h : m * 2 ^ (place + 1074).toNat = val r * 2 ^ (-(place + 1074)).toNat) : D.nearest neg m place = D.word neg r := by
  unfold Format.nearest
  simp only [lp, fb, bn, ir]
  by_cases hm : m = 0
  · subst hm
    have : val r = 0 := by
      have hp := Nat.two_pow_pos (-(place + 1074)).toNat
      rcases Nat.eq_zero_or_pos (val r) with h0 | h0
      · exact h0
      · have := Nat.mul_pos h0 hp; omega
    have h0 : r = 0 := by
      rcases Nat.eq_zero_or_pos r with h0 | h0
      · exact h0
      · have := val_pos h0; omega
    subst h0; simp
  · rw [if_neg hm]
    have hk : ∃ a b : Nat, (place + 1074).toNat = a ∧ (-(place + 1074)).toNat = b ∧ place = a - b - 1074 ∧ (a = 0 ∨ b = 0) := ⟨_, _, rfl, rfl, by omega, by omega⟩
    obtain ⟨a, b, ha, hb, hpl, hab⟩ := hk
    rw [ha, hb] at h
    have hrp : 0 < r := by
      rcases Nat.eq_zero_or_pos r with h0 | h0
      · subst h0; rw [val_zero] at h; have := Nat.mul_ne_zero hm (Nat.pos_iff_ne_zero.1 (Nat.two_pow_pos a)); omega
      · exact h0
    have hmr := mag_pos hrp
    have hlog : m.log2 + a = (mag r).log2 + expo r + b := by
      rw [← log2_mul_pow hm, h]; unfold val
      rw [Nat.mul_assoc, ← Nat.pow_add, log2_mul_pow (by omega)]; omega
    -- the place of the last digit kept is the rung's own
    have hlast : max (place + (m.log2 : Int) - ((52 : Nat) : Int)) (-1074) = (expo r : Int) - 1074 := by
      by_cases he : expo r = 0
      · by_cases hs : mag r < 4503599627370496
        · have := log2_small (by omega) hs; omega
        · have := log2_mag (r := r) (by omega); omega
      · have := log2_mag (mag_ge he); omega
    rw [hlast]
    have hkept : Toward.even.cut neg (m <<< (place - ((expo r : Int) - 1074)).toNat) ((expo r : Int) - 1074 - place).toNat = mag r := by
      by_cases hc : (expo r : Int) ≤ (a : Int) - b
      · have hb0 : b = 0 := by omega
        subst hb0
        rw [show ((expo r : Int) - 1074 - place).toNat = 0 by omega, cut_zero, Nat.shiftLeft_eq, show (place - ((expo r : Int) - 1074)).toNat = a - expo r by omega]
        have h' : m * 2 ^ a = mag r * 2 ^ expo r := by simpa [val] using h
        rw [show a = (a - expo r) + expo r by omega, Nat.pow_add, ← Nat.mul_assoc] at h'
        exact Nat.eq_of_mul_eq_mul_right (Nat.two_pow_pos _) h'
      · rw [show (place - ((expo r : Int) - 1074)).toNat = 0 by omega]
        obtain ⟨d, hd⟩ : ∃ d : Nat, ((expo r : Int) - 1074 - place).toNat = d := ⟨_, rfl⟩
        rw [hd, Nat.shiftLeft_zero]
        have h' : m = mag r * 2 ^ d := by
          unfold val at h
          rw [Nat.mul_assoc, ← Nat.pow_add, show expo r + b = d + a by omega, Nat.pow_add, ← Nat.mul_assoc] at h
          exact Nat.eq_of_mul_eq_mul_right (Nat.two_pow_pos _) h
        rw [h', cut_exact]
    rw [hkept, show ((expo r : Int) - 1074 - -1074).toNat = expo r by omega, rung_eq, Nat.min_eq_left (by omega)]

theorem val_lt {r q : Nat} (h : r < q) : val r < val q := by
  have hr := rung_eq r
  have hq := rung_eq q
  have he : expo r ≤ expo q := by unfold expo; omega
  by_cases hee : expo r = expo q
  · unfold val; rw [hee]
    exact Nat.mul_lt_mul_of_pos_right (by rw [hee] at hr; omega) (Nat.two_pow_pos _)
  · have h1 := mag_lt r
    have h2 := mag_ge (r := q) (by omega)
    have h3 : val r < 9007199254740992 * 2 ^ expo r := Nat.mul_lt_mul_of_pos_right h1 (Nat.two_pow_pos _)
    have h4 : 4503599627370496 * 2 ^ (expo r + 1) ≤ 4503599627370496 * 2 ^ expo q :=
      Nat.mul_le_mul_left _ (Nat.pow_le_pow_right (by omega) (by omega))
    have h5 : 4503599627370496 * 2 ^ expo q ≤ val q := Nat.mul_le_mul_right _ h2
    rw [Nat.pow_succ] at h4
    omega

theorem val_small {r : Nat} (h : r < 9007199254740992) : val r = r := by
  have he : expo r = 0 := by unfold expo; omega
  have := rung_eq r
  unfold val; rw [he] at this ⊢; omega

/-- what so few digits make, at so high a place, is a rung's -/
theorem rep {m k : Nat} (hm : m < 9007199254740992) (hk : k ≤ 2045) : ∃ r, r < 9218868437227405312 ∧ val r = m * 2 ^ k := by
  by_cases h0 : m = 0
  · subst h0; exact ⟨0, by omega, by rw [val_zero]; omega⟩
  · have hp : m.log2 < 53 := (Nat.log2_lt h0).2 hm
    by_cases hc : 52 ≤ m.log2 + k
    · obtain ⟨g, hg⟩ : ∃ g, g = m * 2 ^ (52 - m.log2) := ⟨_, rfl⟩
      have hgl : g.log2 = 52 := by rw [hg, log2_mul_pow h0]; omega
      have hg0 : g ≠ 0 := by
        have : 0 < g := by rw [hg]; exact Nat.mul_pos (by omega) (Nat.two_pow_pos _)
        omega
      have g1 : g < 9007199254740992 := (Nat.log2_lt hg0 (k := 53)).1 (by omega)
      have g2 : 4503599627370496 ≤ g := by
        rcases Nat.lt_or_ge g 4503599627370496 with h | h
        · have := (Nat.log2_lt hg0 (k := 52)).2 h; omega
        · exact h
      refine ⟨(m.log2 + k - 52) * 4503599627370496 + g, by omega, ?_⟩
      have hm' : mag ((m.log2 + k - 52) * 4503599627370496 + g) = g := by unfold mag; split <;> omega
      have he' : expo ((m.log2 + k - 52) * 4503599627370496 + g) = m.log2 + k - 52 := by unfold expo; omega
      unfold val
      rw [hm', he', hg, Nat.mul_assoc, ← Nat.pow_add, show 52 - m.log2 + (m.log2 + k - 52) = k by omega]
    · have hlt : m * 2 ^ k < 4503599627370496 := by
        have hne : m * 2 ^ k ≠ 0 := Nat.mul_ne_zero h0 (Nat.pos_iff_ne_zero.1 (Nat.two_pow_pos k))
        exact (Nat.log2_lt hne (k := 52)).1 (by rw [log2_mul_pow h0]; omega)
      exact ⟨m * 2 ^ k, by omega, val_small (by omega)⟩

/-- a word, taken apart -/
theorem word_of {b : Nat} (h : b < 18446744073709551616) :
    D.word (decide (9223372036854775808 ≤ b)) (b % 9223372036854775808) = b := by
  unfold Format.word
  simp only [sw]
  split <;> rename_i hc <;> simp at hc <;> omega

theorem word_true (r : Nat) : D.word true r = 9223372036854775808 + r := by
  unfold Format.word; simp only [sw, if_true]

theorem word_false (r : Nat) : D.word false r = r := by
  unfold Format.word; simp

/-- a word's two parts -/
theorem cases_word {b : Nat} (h : b < 18446744073709551616) : ∃ s r, r < 9223372036854775808 ∧ b = D.word s r :=
  ⟨_, _, by omega, (word_of h).symm⟩

/-- a rung with a sign -/
def sv (s : Bool) (r : Nat) : Int := if s then -(r : Int) else r

theorem compare_scale {a b : Int} {k : Nat} (hk : 0 < k) : compare (a * k) (b * k) = compare a b := by
  have hk' : (0 : Int) < k := by omega
  simp only [compare, compareOfLessAndEq]
  have h1 : (a * k < b * k) = (a < b) := by
    rw [eq_iff_iff]; exact Int.mul_lt_mul_right hk'
  have h2 : (a * k = b * k) = (a = b) := by
    rw [eq_iff_iff]; exact ⟨fun h => Int.eq_of_mul_eq_mul_right (by omega) h, fun h => by rw [h]⟩
  simp only [h1, h2]

theorem compare_sv (s t : Bool) (r q : Nat) :
    compare (if s then -(val r : Int) else (val r : Int)) (if t then -(val q : Int) else (val q : Int)) = compare (sv s r) (sv t q) := by
  have h1 : r < q → val r < val q := val_lt
  have h2 : q < r → val q < val r := val_lt
  have h3 : r = q → val r = val q := fun h => by rw [h]
  have p1 : 0 < r → 0 < val r := val_pos
  have p2 : 0 < q → 0 < val q := val_pos
  have z1 : r = 0 → val r = 0 := fun h => by rw [h, val_zero]
  have z2 : q = 0 → val q = 0 := fun h => by rw [h, val_zero]
  generalize val r = x at *
  generalize val q = y at *
  unfold sv
  simp only [compare, compareOfLessAndEq]
  cases s <;> cases t <;> simp only [if_true, Bool.false_eq_true, if_false] <;>
    (repeat' split) <;> first | rfl | omega

theorem signed_val (s : Bool) (r : Nat) (b : Nat) (h : b ≤ expo r) :
    signed s (mag r) (expo r - b) * ((2 ^ b : Nat) : Int) = if s then -(val r : Int) else (val r : Int) := by
  have e : (mag r <<< (expo r - b)) * 2 ^ b = val r := by
    rw [Nat.shiftLeft_eq, Nat.mul_assoc, ← Nat.pow_add, Nat.sub_add_cancel h]; rfl
  unfold signed
  cases s
  · simp only [Bool.false_eq_true, if_false]; rw [← Int.natCast_mul, e]
  · simp only [if_true]; rw [Int.neg_mul, ← Int.natCast_mul, e]

/-- TWO WORDS, NONE OF THEM NaN, LIE TO EACH OTHER AS THEIR RUNGS DO, WITH THEIR SIGNS. -/
theorem order_word (s t : Bool) {r q : Nat} (hr : r ≤ 9218868437227405312) (hq : q ≤ 9218868437227405312) :
    D.order (D.word s r) (D.word t q) = some (compare (sv s r) (sv t q)) := by
  unfold Format.order
  rcases Nat.lt_or_ge r 9218868437227405312 with h1 | h1
  · rcases Nat.lt_or_ge q 9218868437227405312 with h2 | h2
    · rw [read_word s h1, read_word t h2]
      simp only [Datum.order]
      obtain ⟨b, hb⟩ : ∃ b : Nat, b = min (expo r) (expo q) := ⟨_, rfl⟩
      have hmin : min (-1074 + (expo r : Int)) (-1074 + (expo q : Int)) = -1074 + (b : Int) := by omega
      rw [hmin, show (-1074 + (expo r : Int) - (-1074 + (b : Int))).toNat = expo r - b by omega,
        show (-1074 + (expo q : Int) - (-1074 + (b : Int))).toNat = expo q - b by omega,
        ← compare_scale (Nat.two_pow_pos b), signed_val s r b (by omega), signed_val t q b (by omega), compare_sv]
    · obtain rfl : q = 9218868437227405312 := by omega
      rw [read_word s h1, read_inf t]
      simp only [Datum.order]
      unfold sv
      cases t <;> cases s <;> simp only [compare, compareOfLessAndEq, if_true, Bool.false_eq_true, if_false] <;>
        (repeat' split) <;> first | rfl | omega
  · obtain rfl : r = 9218868437227405312 := by omega
    rcases Nat.lt_or_ge q 9218868437227405312 with h2 | h2
    · rw [read_inf s, read_word t h2]
      simp only [Datum.order]
      unfold sv
      cases t <;> cases s <;> simp only [compare, compareOfLessAndEq, if_true, Bool.false_eq_true, if_false] <;>
        (repeat' split) <;> first | rfl | omega
    · obtain rfl : q = 9218868437227405312 := by omega
      rw [read_inf s, read_inf t]
      cases t <;> cases s <;> rfl

theorem order_nan_left (s t : Bool) {r q : Nat} (hr : 9218868437227405312 < r) (hr2 : r < 9223372036854775808) : D.order (D.word s r) (D.word t q) = none := by
  unfold Format.order; rw [read_nan s hr hr2]; rfl

theorem write_exact (s : Bool) {m : Nat} {place : Int} {r : Nat} (hr : r < 9218868437227405312)
    (h : m * 2 ^ (place + 1074).toNat = val r * 2 ^ (-(place + 1074)).toNat) : D.write (.number s m place) = D.word s r :=
  nearest_exact s hr h

theorem sum_comm (x y : Datum) : x.sum y = y.sum x := by
  cases x <;> cases y <;> simp only [Datum.sum]
  · rename_i s m i t n j
    rw [Int.min_comm j i, Bool.and_comm t s, Int.add_comm]
  · rename_i s t
    by_cases h : s = t
    · subst h; rfl
    · rw [if_neg h, if_neg (fun e => h e.symm)]

theorem product_comm (x y : Datum) : x.product y = y.product x := by
  cases x <;> cases y <;> simp only [Datum.product]
  · rename_i s m i t n j
    rw [Nat.mul_comm m n, Int.add_comm i j, Bool.xor_comm s t]
  all_goals (rw [Bool.xor_comm])

theorem add_comm (x y : Nat) : D.add x y = D.add y x := by unfold Format.add; rw [sum_comm]
theorem mul_comm (x y : Nat) : D.mul x y = D.mul y x := by unfold Format.mul; rw [product_comm]

theorem scale_eq {m v : Nat} {place : Int} {c : Nat} {k : Nat} (hk : (k : Int) = place + 1074 + c) (h : m * 2 ^ k = v * 2 ^ c) :
    m * 2 ^ (place + 1074).toNat = v * 2 ^ (-(place + 1074)).toNat := by
  rcases Int.le_total 0 (place + 1074) with h0 | h0
  · obtain ⟨a, ha⟩ : ∃ a : Nat, (place + 1074).toNat = a := ⟨_, rfl⟩
    rw [ha, show (-(place + 1074)).toNat = 0 by omega, Nat.pow_zero, Nat.mul_one]
    rw [show k = a + c by omega, Nat.pow_add, ← Nat.mul_assoc] at h
    exact Nat.eq_of_mul_eq_mul_right (Nat.two_pow_pos c) h
  · obtain ⟨b, hb⟩ : ∃ b : Nat, (-(place + 1074)).toNat = b := ⟨_, rfl⟩
    rw [hb, show (place + 1074).toNat = 0 by omega, Nat.pow_zero, Nat.mul_one]
    rw [show c = b + k by omega, Nat.pow_add, ← Nat.mul_assoc] at h
    exact Nat.eq_of_mul_eq_mul_right (Nat.two_pow_pos k) h

/-- a sum of two numbers, in units of the least one -/
theorem sum_number (s t : Bool) {r q : Nat} :
    Datum.sum (.number s (mag r) (-1074 + (expo r : Nat))) (.number t (mag q) (-1074 + (expo q : Nat))) =
      (let b := min (expo r) (expo q)
       let total := signed s (mag r) (expo r - b) + signed t (mag q) (expo q - b)
       some (.number (if total = 0 then s && t else decide (total < 0)) total.natAbs (-1074 + (b : Nat)))) := by
  simp only [Datum.sum]
  obtain ⟨b, hb⟩ : ∃ b : Nat, b = min (expo r) (expo q) := ⟨_, rfl⟩
  have hmin : min (-1074 + (expo r : Int)) (-1074 + (expo q : Int)) = -1074 + (b : Int) := by omega
  rw [hmin, show (-1074 + (expo r : Int) - (-1074 + (b : Int))).toNat = expo r - b by omega,
        show (-1074 + (expo q : Int) - (-1074 + (b : Int))).toNat = expo q - b by omega, ← hb]

/-- a rung's number with its sign -/
def sval (s : Bool) (r : Nat) : Int := if s then -(val r : Int) else val r

/-- A SUM THAT IS A RUNG's NUMBER IS EXACT. -/
theorem add_exact (s t u : Bool) {r q x : Nat} (hr : r < 9218868437227405312) (hq : q < 9218868437227405312) (hx : x < 9218868437227405312)
    (h : sval s r + sval t q = sval u x) (hu : x = 0 → u = (s && t)) :
    D.add (D.word s r) (D.word t q) = some (D.word u x) := by
  unfold Format.add
  rw [read_word s hr, read_word t hq, sum_number]
  obtain ⟨b, hb⟩ : ∃ b : Nat, b = min (expo r) (expo q) := ⟨_, rfl⟩
  simp only [← hb]
  obtain ⟨T, hT⟩ : ∃ T, T = signed s (mag r) (expo r - b) + signed t (mag q) (expo q - b) := ⟨_, rfl⟩
  rw [← hT]
  have e : T * ((2 ^ b : Nat) : Int) = sval u x := by
    rw [hT, Int.add_mul, signed_val s r b (by omega), signed_val t q b (by omega)]; exact h
  have hpb := Nat.two_pow_pos b
  have hab : T.natAbs * 2 ^ b = val x := by
    have := congrArg Int.natAbs e
    rw [Int.natAbs_mul, Int.natAbs_natCast] at this
    rw [this]; unfold sval; split <;> omega
  have hsign : (if T = 0 then s && t else decide (T < 0)) = u := by
    by_cases hz : T = 0
    · rw [if_pos hz]
      rw [hz] at hab
      have : val x = 0 := by simpa using hab.symm
      have hx0 : x = 0 := by
        rcases Nat.eq_zero_or_pos x with h0 | h0
        · exact h0
        · have := val_pos h0; omega
      rw [hu hx0]
    · rw [if_neg hz]
      have hx0 : 0 < val x := by
        rw [← hab]; exact Nat.mul_pos (by omega) hpb
      cases u
      · simp only [sval, Bool.false_eq_true, if_false] at e
        have : 0 < T := by
          rcases Int.lt_or_le 0 T with h1 | h1
          · exact h1
          · have : T * ((2 ^ b : Nat) : Int) ≤ 0 := Int.mul_nonpos_of_nonpos_of_nonneg h1 (by omega)
            omega
        simp; omega
      · simp only [sval, if_true] at e
        have : T < 0 := by
          rcases Int.lt_or_le T 0 with h1 | h1
          · exact h1
          · have : 0 ≤ T * ((2 ^ b : Nat) : Int) := Int.mul_nonneg h1 (by omega)
            omega
        simp; omega
  rw [hsign]
  simp only [Option.map_some]
  rw [write_exact u hx (scale_eq (c := 0) (k := b) (by omega) (by rw [hab]; simp))]

/-- a power of two, kept whole -/
def pw (k : Nat) : Nat := if k = 0 then 1 else pw (k - 1) * 2
  termination_by k
  decreasing_by omega
theorem pw_eq (k : Nat) : pw k = 2 ^ k := by
  induction k with
  | zero => unfold pw; rfl
  | succ k ih => unfold pw; rw [if_neg (by omega), Nat.add_sub_cancel, ih, Nat.pow_succ]
theorem pw_pos (k : Nat) : 0 < pw k := by rw [pw_eq]; exact Nat.two_pow_pos k

/-- the nearest of a whole number -/
def ofInt (n : Int) : Nat := D.write (.number (decide (n < 0)) n.natAbs 0)

theorem ofInt_exact {n : Int} {r : Nat} (hr : r < 9218868437227405312) (h : val r = n.natAbs * pw 1074) : ofInt n = D.word (decide (n < 0)) r := by
  unfold ofInt
  refine write_exact _ hr (scale_eq (c := 0) (k := 1074) (by omega) ?_)
  rw [h, Nat.pow_zero, Nat.mul_one, pw_eq]

/-- a word's code -/
def code (b : Nat) : Int :=
  if 9218868437227405312 < b % 9223372036854775808 then 9221120237041090561
  else if b < 9223372036854775808 then (b : Int) else -1 - ((b % 9223372036854775808 : Nat) : Int)

/-- is a number a code? -/
def right (n : Int) : Bool := n == 9221120237041090561 || (decide (-9218868437227405313 ≤ n) && decide (n ≤ 9218868437227405312))

/-- a code's word; of NaN, and of what is no code, one NaN -/
def back (n : Int) : Nat :=
  if n = 9221120237041090561 ∨ n < -9218868437227405313 ∨ 9218868437227405312 < n then 9221120237041090561
  else if n < 0 then D.word true (-1 - n).toNat else n.toNat

def isNan (b : Nat) : Bool := decide (9218868437227405312 < b % 9223372036854775808)

theorem word_mod (s : Bool) {r : Nat} (hr : r < 9223372036854775808) : D.word s r % 9223372036854775808 = r := by
  cases s
  · rw [word_false]; omega
  · rw [word_true]; omega

theorem isNan_word (s : Bool) {r : Nat} (hr : r < 9223372036854775808) : isNan (D.word s r) = decide (9218868437227405312 < r) := by
  unfold isNan; rw [word_mod s hr]

theorem code_word (s : Bool) {r : Nat} (hr : r ≤ 9218868437227405312) : code (D.word s r) = if s then -1 - (r : Int) else r := by
  unfold code
  rw [word_mod s (by omega), if_neg (by omega)]
  cases s
  · rw [word_false, if_pos (by omega)]; rfl
  · rw [word_true, if_neg (by omega)]; rfl

theorem code_nan {b : Nat} (h : isNan b = true) : code b = 9221120237041090561 := by
  unfold isNan at h; unfold code; rw [if_pos (by simpa using h)]

/-- the words of a NaN, or one that has a sign and a rung up to infinity's -/
theorem word_cases {b : Nat} (hb : b < 18446744073709551616) : isNan b = true ∨ ∃ s r, r ≤ 9218868437227405312 ∧ b = D.word s r := by
  obtain ⟨s, r, hr, rfl⟩ := cases_word hb
  rcases Nat.lt_or_ge 9218868437227405312 r with h1 | h1
  · left; rw [isNan_word s hr]; simpa using h1
  · exact .inr ⟨s, r, h1, rfl⟩

theorem nan_word {b : Nat} (hb : b < 18446744073709551616) (h : isNan b = true) : ∃ s r, 9218868437227405312 < r ∧ r < 9223372036854775808 ∧ b = D.word s r := by
  obtain ⟨s, r, hr, rfl⟩ := cases_word hb
  rw [isNan_word s hr] at h
  exact ⟨s, r, by simpa using h, hr, rfl⟩

theorem right_cases {n : Int} (h : right n = true) : n = 9221120237041090561 ∨ ∃ s : Bool, ∃ r : Nat, r ≤ 9218868437227405312 ∧ n = if s then -1 - (r : Int) else r := by
  unfold right at h
  simp at h
  rcases h with h | ⟨h1, h2⟩
  · exact .inl h
  · right
    rcases Int.lt_or_le n 0 with h0 | h0
    · exact ⟨true, (-1 - n).toNat, by omega, by simp; omega⟩
    · exact ⟨false, n.toNat, by omega, by simp; omega⟩

theorem back_code (s : Bool) {r : Nat} (hr : r ≤ 9218868437227405312) : back (if s then -1 - (r : Int) else r) = D.word s r := by
  unfold back
  cases s
  · simp only [Bool.false_eq_true, if_false]
    rw [if_neg (by omega), if_neg (by omega), word_false]; omega
  · simp only [if_true]
    rw [if_neg (by omega), if_pos (by omega)]; congr 1; omega

theorem back_nan : back 9221120237041090561 = 9221120237041090561 := by unfold back; rw [if_pos (.inl rfl)]
theorem back_wrong {n : Int} (h : right n = false) : back n = 9221120237041090561 := by
  unfold right at h; simp at h
  unfold back; rw [if_pos (by omega)]

def alike (b c : Nat) : Prop := b = c ∨ (isNan b = true ∧ isNan c = true)

theorem alike.refl (b : Nat) : alike b b := .inl rfl
theorem alike.symm {b c : Nat} (h : alike b c) : alike c b := by
  rcases h with h | ⟨h1, h2⟩
  · exact .inl h.symm
  · exact .inr ⟨h2, h1⟩
theorem alike.code {b c : Nat} (h : alike b c) : code b = code c := by
  rcases h with h | ⟨h1, h2⟩
  · rw [h]
  · rw [code_nan h1, code_nan h2]

/-- the four operations, and that NaN is NaN in each -/
def fop (op : Nat) (x y : Nat) : Option Nat := if op = 0 then D.add x y else if op = 1 then D.sub x y else if op = 2 then D.mul x y else D.div x y

/-- the code of what an operation gives -/
def ocode : Option Nat → Int
  | some r => code r
  | none => 9221120237041090561

theorem ocode_getD {o : Option Nat} {b : Nat} (h : isNan b = true) : code (o.getD b) = ocode o := by
  cases o
  · exact code_nan h
  · rfl

theorem rep_pw {m k : Nat} (hm : m < 9007199254740992) (hk : k ≤ 2045) : ∃ r, r < 9218868437227405312 ∧ val r = m * pw k := by
  obtain ⟨r, h1, h2⟩ := rep hm hk
  exact ⟨r, h1, by rw [h2, pw_eq]⟩

def rest (m i : Nat) : Nat := m * 2 ^ i % 9007199254740992

def gAdd (a b : Int) : Int := ocode (fop 0 (back a) (back b))
def gDiv (a b : Int) : Int := ocode (fop 3 (back a) (back b))
def gOf (n : Int) : Int := code (ofInt n)

theorem code_range (b : Nat) : -9223372036854775808 ≤ code b ∧ code b ≤ 9223372036854775807 := by
  unfold code; split
  · omega
  · split <;> omega
theorem ocode_some (r : Nat) : ocode (some r) = code r := rfl
theorem ocode_none : ocode none = 9221120237041090561 := rfl
theorem ocode_range (o : Option Nat) : -9223372036854775808 ≤ ocode o ∧ ocode o ≤ 9223372036854775807 := by
  cases o
  · rw [ocode_none]; omega
  · exact code_range _

theorem fop0 (x y : Nat) : fop 0 x y = D.add x y := rfl

end AnteFlo
