/- PLAIN LAWS ON VALUES: how they lie to each other, which can be; no Go and no program in sight. No condition. -/
import Derived.Lib.Bytealg
import Derived.Lib.Strings
import GoSem.Op.String
namespace AnteVal
open Go

theorem less_eq : ∀ (x y : List UInt8), Op.bytesLess x y = decide (x < y)
  | [], [] => by simp [Op.bytesLess]
  | _ :: _, [] => by simp [Op.bytesLess]
  | [], _ :: _ => by simp [Op.bytesLess]
  | a :: x, b :: y => by
    rw [Op.bytesLess, less_eq x y]
    simp only [List.cons_lt_cons_iff]
    by_cases h1 : a < b <;> by_cases h2 : a = b <;> by_cases h3 : x < y <;> simp [h1, h2, h3]

theorem compare_eq : ∀ (x y : List UInt8), Lib.compareBytes x y = if x < y then -1 else if y < x then 1 else 0
  | [], [] => by simp [Lib.compareBytes]
  | _ :: _, [] => by simp [Lib.compareBytes]
  | [], _ :: _ => by simp [Lib.compareBytes]
  | a :: x, b :: y => by
    rw [Lib.compareBytes, compare_eq x y]
    simp only [List.cons_lt_cons_iff]
    by_cases h1 : a < b
    · simp [h1]
    · by_cases h2 : b < a
      · have : ¬ a = b := fun e => by subst e; exact h1 h2
        simp [h1, h2, this]
      · have : a = b := by
          rw [UInt8.lt_iff_toNat_lt] at h1 h2
          exact UInt8.toNat_inj.1 (by omega)
        subst this
        simp

theorem str_trichotomy (x y : List UInt8) : x < y ∨ x = y ∨ y < x := by
  rcases Classical.em (x < y) with h | h
  · exact .inl h
  · rcases Classical.em (y < x) with h2 | h2
    · exact .inr (.inr h2)
    · exact .inr (.inl (List.le_antisymm (List.not_lt.1 h2) (List.not_lt.1 h)))

/-- how two strings lie to each other -/
def scmp (x y : List UInt8) : Int := if x < y then -1 else if y < x then 1 else 0

theorem scmp_cases (x y : List UInt8) : (scmp x y = -1 ∧ x < y ∧ scmp y x = 1) ∨ (scmp x y = 0 ∧ x = y ∧ scmp y x = 0) ∨ (scmp x y = 1 ∧ y < x ∧ scmp y x = -1) := by
  unfold scmp
  rcases str_trichotomy x y with h | h | h
  · left; rw [if_pos h, if_neg (List.lt_asymm h), if_pos h]; exact ⟨rfl, h, rfl⟩
  · right; left; subst h; simp [List.lt_irrefl]
  · right; right; rw [if_neg (List.lt_asymm h), if_pos h, if_pos h]; exact ⟨rfl, h, rfl⟩

/-- a value: its kind, its number, its text -/
structure V where
  k : Int
  n : Int
  s : ByteArray

theorem V.ext' {a b : V} (h1 : a.k = b.k) (h2 : a.n = b.n) (h3 : a.s.toList = b.s.toList) : a = b := by
  obtain ⟨k, n, s⟩ := a
  obtain ⟨k', n', s'⟩ := b
  simp only at h1 h2 h3
  subst h1; subst h2
  rw [ByteArray.toList_eq, ByteArray.toList_eq] at h3
  have : s = s' := by
    cases s; cases s'
    simp only [ByteArray.mk.injEq]
    exact Array.toList_inj.1 h3
  subst this; rfl

/-- how two numbers lie to each other -/
def ncmp (a b : Int) : Int := if a < b then -1 else if b < a then 1 else 0
theorem ncmp_cases (a b : Int) : (ncmp a b = -1 ∧ a < b ∧ ncmp b a = 1) ∨ (ncmp a b = 0 ∧ a = b ∧ ncmp b a = 0) ∨ (ncmp a b = 1 ∧ b < a ∧ ncmp b a = -1) := by
  unfold ncmp
  rcases Int.lt_trichotomy a b with h | h | h
  · left; rw [if_pos h, if_neg (by omega), if_pos h]; exact ⟨rfl, h, rfl⟩
  · right; left; subst h; simp
  · right; right; rw [if_neg (by omega), if_pos h, if_pos h]; exact ⟨rfl, h, rfl⟩

/-- the first of some that isn't 0 -/
def orz (a b : Int) : Int := if a = 0 then b else a

/-- how two values lie to each other -/
def vcmp (a b : V) : Int := orz (ncmp a.k b.k) (orz (ncmp a.n b.n) (scmp a.s.toList b.s.toList))

theorem vcmp_cases (a b : V) : (vcmp a b = -1 ∧ vcmp b a = 1) ∨ (vcmp a b = 0 ∧ a = b) ∨ (vcmp a b = 1 ∧ vcmp b a = -1) := by
  unfold vcmp orz
  rcases ncmp_cases a.k b.k with ⟨h1, _, h3⟩ | ⟨h1, h2, h3⟩ | ⟨h1, _, h3⟩
  · left; rw [h1, h3]; simp
  · rw [h1, h3]; simp only [if_true]
    rcases ncmp_cases a.n b.n with ⟨g1, _, g3⟩ | ⟨g1, g2, g3⟩ | ⟨g1, _, g3⟩
    · left; rw [g1, g3]; simp
    · rw [g1, g3]; simp only [if_true]
      rcases scmp_cases a.s.toList b.s.toList with ⟨f1, _, f3⟩ | ⟨f1, f2, f3⟩ | ⟨f1, _, f3⟩
      · left; exact ⟨f1, f3⟩
      · right; left; exact ⟨f1, V.ext' h2 g2 f2⟩
      · right; right; exact ⟨f1, f3⟩
    · right; right; rw [g1, g3]; simp
  · right; right; rw [h1, h3]; simp

theorem vcmp_self (a : V) : vcmp a a = 0 := by
  rcases vcmp_cases a a with h | h | h
  · omega
  · exact h.1
  · omega

theorem vcmp_eq {a b : V} (h : vcmp a b = 0) : a = b := by
  rcases vcmp_cases a b with h1 | h1 | h1
  · omega
  · exact h1.2
  · omega

theorem vcmp_swap (a b : V) : vcmp b a = -vcmp a b := by
  rcases vcmp_cases a b with ⟨h1, h2⟩ | ⟨h1, h2⟩ | ⟨h1, h2⟩
  · omega
  · rw [h1, h2, vcmp_self]; rfl
  · omega

theorem vcmp_lt_iff (a b : V) : vcmp a b < 0 ↔ (a.k < b.k ∨ (a.k = b.k ∧ (a.n < b.n ∨ (a.n = b.n ∧ a.s.toList < b.s.toList)))) := by
  unfold vcmp orz
  rcases ncmp_cases a.k b.k with ⟨h1, h2, h3⟩ | ⟨h1, h2, h3⟩ | ⟨h1, h2, h3⟩
  · rw [h1]; simp; omega
  · rw [h1]; simp only [if_true]
    rcases ncmp_cases a.n b.n with ⟨g1, g2, g3⟩ | ⟨g1, g2, g3⟩ | ⟨g1, g2, g3⟩
    · rw [g1]; simp; omega
    · rw [g1]; simp only [if_true]
      rcases scmp_cases a.s.toList b.s.toList with ⟨f1, f2, f3⟩ | ⟨f1, f2, f3⟩ | ⟨f1, f2, f3⟩
      · rw [f1]; simp [h2, g2, f2]
      · rw [f1, f2]; simp [h2, g2, List.lt_irrefl]
      · rw [f1]; simp [h2, g2]; exact List.not_lt.1 (List.lt_asymm f2)
    · rw [g1]; simp [h2]; omega
  · rw [h1]; simp; omega

theorem vcmp_trans {a b c : V} (h1 : vcmp a b < 0) (h2 : vcmp b c < 0) : vcmp a c < 0 := by
  rw [vcmp_lt_iff] at *
  rcases h1 with h1 | ⟨h1, h1' | ⟨h1', h1''⟩⟩ <;> rcases h2 with h2 | ⟨h2, h2' | ⟨h2', h2''⟩⟩
  · left; omega
  · left; omega
  · left; omega
  · left; omega
  · right; exact ⟨by omega, .inl (by omega)⟩
  · right; exact ⟨by omega, .inl (by omega)⟩
  · left; omega
  · right; exact ⟨by omega, .inl (by omega)⟩
  · right; exact ⟨by omega, .inr ⟨by omega, List.lt_trans h1'' h2''⟩⟩

/-- the document's way to reckon it -/
theorem vcmp_ref (a b : V) : vcmp a b = (if a.k ≠ b.k then (if a.k < b.k then -1 else 1) else if a.n ≠ b.n then (if a.n < b.n then -1 else 1) else
    if Op.bytesLess a.s.toList b.s.toList = true then -1 else if Op.bytesLess b.s.toList a.s.toList = true then 1 else 0) := by
  unfold vcmp orz
  rw [less_eq, less_eq]
  rcases ncmp_cases a.k b.k with ⟨h1, h2, h3⟩ | ⟨h1, h2, h3⟩ | ⟨h1, h2, h3⟩
  · rw [h1, if_pos (show a.k ≠ b.k by omega), if_pos h2]; simp
  · rw [h1, if_neg (show ¬ a.k ≠ b.k by omega)]; simp only [if_true]
    rcases ncmp_cases a.n b.n with ⟨g1, g2, g3⟩ | ⟨g1, g2, g3⟩ | ⟨g1, g2, g3⟩
    · rw [g1, if_pos (show a.n ≠ b.n by omega), if_pos g2]; simp
    · rw [g1, if_neg (show ¬ a.n ≠ b.n by omega)]; simp only [if_true]
      unfold scmp; simp
    · rw [g1, if_pos (show a.n ≠ b.n by omega), if_neg (show ¬ a.n < b.n by omega)]; rfl
  · rw [h1, if_pos (show a.k ≠ b.k by omega), if_neg (show ¬ a.k < b.k by omega)]; rfl

/-- .. in the walk's words -/
theorem vcmp_walk (a b : V) : vcmp a b = (if (a.k != b.k) = true then (if a.k < b.k then -1 else 1) else if (a.n != b.n) = true then (if a.n < b.n then -1 else 1) else
    if Op.bytesLess a.s.toList b.s.toList = true then -1 else if (!a.s.toList == b.s.toList) = true then 1 else 0) := by
  rw [vcmp_ref]
  simp only [bne_iff_ne]
  congr 1; congr 1
  rw [less_eq, less_eq]
  simp only [decide_eq_true_eq]
  rcases str_trichotomy a.s.toList b.s.toList with h | h | h
  · rw [if_pos h, if_pos h]
  · rw [h]; simp [List.lt_irrefl]
  · have hne : ¬ a.s.toList = b.s.toList := fun e => by rw [e] at h; exact List.lt_irrefl _ h
    rw [if_neg (List.lt_asymm h), if_neg (List.lt_asymm h), if_pos h, if_pos (by simp [hne])]

def letter (c : UInt8) : Bool := decide (97 ≤ (c.toNat : Int)) && decide ((c.toNat : Int) ≤ 122)
def inner (c : UInt8) : Bool := letter c || (decide (48 ≤ (c.toNat : Int)) && decide ((c.toNat : Int) ≤ 57)) || ((c.toNat : Int) == 95)
def name (s : ByteArray) : Bool := decide (0 < s.size) && decide (s.size ≤ 40) && (match s.data.toList with | [] => false | c :: _ => letter c) && s.data.toList.all inner

theorem size_list (s : ByteArray) : s.data.toList.length = s.size := Array.length_toList
theorem name_empty {s : ByteArray} (h : s.size = 0) : name s = false := by unfold name; rw [h]; rfl
theorem name_long {s : ByteArray} (h : 40 < s.size) : name s = false := by unfold name; rw [decide_eq_false (show ¬ s.size ≤ 40 by omega)]; simp
theorem isEmpty_false {s : ByteArray} (h : 0 < s.size) : s.toList.isEmpty = false := by
  rw [ByteArray.toList_eq, ← size_list] at *
  cases hl : s.data.toList with
  | nil => rw [hl] at h; simp at h
  | cons a l => rfl
theorem isEmpty_true {s : ByteArray} (h : s.size = 0) : s.toList.isEmpty = true := by
  rw [ByteArray.toList_eq]
  rw [← size_list] at h
  rw [List.length_eq_zero_iff.1 h]; rfl
theorem first_eq {s : ByteArray} (h : 0 < s.size) : ∃ l, s.data.toList = s[0] :: l := by
  have hl := size_list s
  cases e : s.data.toList with
  | nil => rw [e] at hl; simp at hl; omega
  | cons a l =>
    refine ⟨l, ?_⟩
    have : s.data.toList[0]'(by rw [hl]; exact h) = s[0] := rfl
    simp only [e] at this
    rw [← this]; rfl
theorem name_is {s : ByteArray} (h0 : 0 < s.size) (h1 : s.size ≤ 40) : name s = (letter s[0] && s.data.toList.all inner) := by
  obtain ⟨l, hl⟩ := first_eq h0
  unfold name
  rw [decide_eq_true h0, decide_eq_true h1, hl]; simp
theorem take_succ_str (s : ByteArray) (k : Nat) (h : k < s.size) : s.data.toList.take (k + 1) = s.data.toList.take k ++ [s[k]] := by
  rw [List.take_succ_eq_append_getElem (by simpa using h)]; rfl
theorem all_take_succ {s : ByteArray} {k : Nat} (h : k < s.size) (ha : (s.data.toList.take k).all inner = true) : (s.data.toList.take (k + 1)).all inner = inner s[k] := by
  rw [take_succ_str s k h, List.all_append, ha]; simp
theorem all_take_false {s : ByteArray} {k : Nat} (ha : (s.data.toList.take k).all inner = false) : s.data.toList.all inner = false := by
  cases h : s.data.toList.all inner
  · rfl
  · rw [List.all_eq_true] at h
    have : (s.data.toList.take k).all inner = true := List.all_eq_true.2 fun x hx => h x (List.mem_of_mem_take hx)
    rw [ha] at this; cases this
theorem all_take_end {s : ByteArray} : s.data.toList.take s.size = s.data.toList := by rw [← size_list, List.take_length]
end AnteVal
