/- PLAIN LAWS ON VALUES: how they lie to each other, which can be; no Go and no program in sight. No condition. -/
import Derived.Lib.Bytealg
import Derived.Lib.Strings
import GoSem.Op.String
import Derived.Test.YtolefpeiceiocaaGreatW4
namespace AnteVal
open Go

theorem less_eq : ∀ (x y : List UInt8), Op.bytesLess x y = decide (x < y)
  | [], [] => by simp [Op.bytesLess]
  | _ :: _, [] => by simp [Op.bytesLess]
  | [], _ :: _ => by simp [Op.bytesLess]
  | a :: x, b :: y => by
    rw [Op.bytesLess, less_eq x y]
    simp only [List.cons_lt_cons_iff]
    by_cases h1 : a < b <;> by_cases h2 : a = b <;> by_cases h3 : x < y <;> simp [h1, h2, h3]

theorem compare_eq : ∀ (x y : List UInt8), Lib.compareBytes x y = if x < y then -1 else if y < x then 1 else 0
  | [], [] => by simp [Lib.compareBytes]
  | _ :: _, [] => by simp [Lib.compareBytes]
  | [], _ :: _ => by simp [Lib.compareBytes]
  | a :: x, b :: y => by
    rw [Lib.compareBytes, compare_eq x y]
    simp only [List.cons_lt_cons_iff]
    by_cases h1 : a < b
    · simp [h1]
    · by_cases h2 : b < a
      · have : ¬ a = b := fun e => by subst e; exact h1 h2
        simp [h1, h2, this]
      · have : a = b := by
          rw [UInt8.lt_iff_toNat_lt] at h1 h2
          exact UInt8.toNat_inj.1 (by omega)
        subst this
        simp

theorem str_trichotomy (x y : List UInt8) : x < y ∨ x = y ∨ y < x := by
  rcases Classical.em (x < y) with h | h
  · exact .inl h
  · rcases Classical.em (y < x) with h2 | h2
    · exact .inr (.inr h2)
    · exact .inr (.inl (List.le_antisymm (List.not_lt.1 h2) (List.not_lt.1 h)))

/-- how two strings lie to each other -/
def scmp (x y : List UInt8) : Int := if x < y then -1 else if y < x then 1 else 0

theorem scmp_cases (x y : List UInt8) : (scmp x y = -1 ∧ x < y ∧ scmp y x = 1) ∨ (scmp x y = 0 ∧ x = y ∧ scmp y x = 0) ∨ (scmp x y = 1 ∧ y < x ∧ scmp y x = -1) := by
  unfold scmp
  rcases str_trichotomy x y with h | h | h
  · left; rw [if_pos h, if_neg (List.lt_asymm h), if_pos h]; exact ⟨rfl, h, rfl⟩
  · right; left; subst h; simp [List.lt_irrefl]
  · right; right; rw [if_neg (List.lt_asymm h), if_pos h, if_pos h]; exact ⟨rfl, h, rfl⟩

/-- a value: its kind, its number, its text -/
structure V where
  k : Int
  n : Int
  s : ByteArray

theorem V.ext' {a b : V} (h1 : a.k = b.k) (h2 : a.n = b.n) (h3 : a.s.toList = b.s.toList) : a = b := by
  obtain ⟨k, n, s⟩ := a
  obtain ⟨k', n', s'⟩ := b
  simp only at h1 h2 h3
  subst h1; subst h2
  rw [ByteArray.toList_eq, ByteArray.toList_eq] at h3
  have : s = s' := by
    cases s; cases s'
    simp only [ByteArray.mk.injEq]
    exact Array.toList_inj.1 h3
  subst this; rfl

/-- how two numbers lie to each other -/
def ncmp (a b : Int) : Int := if a < b then -1 else if b < a then 1 else 0
theorem ncmp_cases (a b : Int) : (ncmp a b = -1 ∧ a < b ∧ ncmp b a = 1) ∨ (ncmp a b = 0 ∧ a = b ∧ ncmp b a = 0) ∨ (ncmp a b = 1 ∧ b < a ∧ ncmp b a = -1) := by
  unfold ncmp
  rcases Int.lt_trichotomy a b with h | h | h
  · left; rw [if_pos h, if_neg (by omega), if_pos h]; exact ⟨rfl, h, rfl⟩
  · right; left; subst h; simp
  · right; right; rw [if_neg (by omega), if_pos h, if_pos h]; exact ⟨rfl, h, rfl⟩

/-- the first of some that isn't 0 -/
def orz (a b : Int) : Int := if a = 0 then b else a

/-- how two values lie to each other -/
def vcmp (a b : V) : Int := orz (ncmp a.k b.k) (orz (ncmp a.n b.n) (scmp a.s.toList b.s.toList))

theorem vcmp_cases (a b : V) : (vcmp a b = -1 ∧ vcmp b a = 1) ∨ (vcmp a b = 0 ∧ a = b) ∨ (vcmp a b = 1 ∧ vcmp b a = -1) := by
  unfold vcmp orz
  rcases ncmp_cases a.k b.k with ⟨h1, _, h3⟩ | ⟨h1, h2, h3⟩ | ⟨h1, _, h3⟩
  · left; rw [h1, h3]; simp
  · rw [h1, h3]; simp only [if_true]
    rcases ncmp_cases a.n b.n with ⟨g1, _, g3⟩ | ⟨g1, g2, g3⟩ | ⟨g1, _, g3⟩
    · left; rw [g1, g3]; simp
    · rw [g1, g3]; simp only [if_true]
      rcases scmp_cases a.s.toList b.s.toList with ⟨f1, _, f3⟩ | ⟨f1, f2, f3⟩ | ⟨f1, _, f3⟩
      · left; exact ⟨f1, f3⟩
      · right; left; exact ⟨f1, V.ext' h2 g2 f2⟩
      · right; right; exact ⟨f1, f3⟩
    · right; right; rw [g1, g3]; simp
  · right; right; rw [h1, h3]; simp

theorem vcmp_self (a : V) : vcmp a a = 0 := by
  rcases vcmp_cases a a with h | h | h
  · omega
  · exact h.1
  · omega

theorem vcmp_eq {a b : V} (h : vcmp a b = 0) : a = b := by
  rcases vcmp_cases a b with h1 | h1 | h1
  · omega
  · exact h1.2
  · omega

theorem vcmp_swap (a b : V) : vcmp b a = -vcmp a b := by
  rcases vcmp_cases a b with ⟨h1, h2⟩ | ⟨h1, h2⟩ | ⟨h1, h2⟩
  · omega
  · rw [h1, h2, vcmp_self]; rfl
  · omega

theorem vcmp_lt_iff (a b : V) : vcmp a b < 0 ↔ (a.k < b.k ∨ (a.k = b.k ∧ (a.n < b.n ∨ (a.n = b.n ∧ a.s.toList < b.s.toList)))) := by
  unfold vcmp orz
  rcases ncmp_cases a.k b.k with ⟨h1, h2, h3⟩ | ⟨h1, h2, h3⟩ | ⟨h1, h2, h3⟩
  · rw [h1]; simp; omega
  · rw [h1]; simp only [if_true]
    rcases ncmp_cases a.n b.n with ⟨g1, g2, g3⟩ | ⟨g1, g2, g3⟩ | ⟨g1, g2, g3⟩
    · rw [g1]; simp; omega
    · rw [g1]; simp only [if_true]
      rcases scmp_cases a.s.toList b.s.toList with ⟨f1, f2, f3⟩ | ⟨f1, f2, f3⟩ | ⟨f1, f2, f3⟩
      · rw [f1]; simp [h2, g2, f2]
      · rw [f1, f2]; simp [h2, g2, List.lt_irrefl]
      · rw [f1]; simp [h2, g2]; exact List.not_lt.1 (List.lt_asymm f2)
    · rw [g1]; simp [h2]; omega
  · rw [h1]; simp; omega

theorem vcmp_trans {a b c : V} (h1 : vcmp a b < 0) (h2 : vcmp b c < 0) : vcmp a c < 0 := by
  rw [vcmp_lt_iff] at *
  rcases h1 with h1 | ⟨h1, h1' | ⟨h1', h1''⟩⟩ <;> rcases h2 with h2 | ⟨h2, h2' | ⟨h2', h2''⟩⟩
  · left; omega
  · left; omega
  · left; omega
  · left; omega
  · right; exact ⟨by omega, .inl (by omega)⟩
  · right; exact ⟨by omega, .inl (by omega)⟩
  · left; omega
  · right; exact ⟨by omega, .inl (by omega)⟩
  · right; exact ⟨by omega, .inr ⟨by omega, List.lt_trans h1'' h2''⟩⟩

/-- the document's way to reckon it -/
theorem vcmp_ref (a b : V) : vcmp a b = (if a.k ≠ b.k then (if a.k < b.k then -1 else 1) else if a.n ≠ b.n then (if a.n < b.n then -1 else 1) else
    if Op.bytesLess a.s.toList b.s.toList = true then -1 else if Op.bytesLess b.s.toList a.s.toList = true then 1 else 0) := by
  unfold vcmp orz
  rw [less_eq, less_eq]
  rcases ncmp_cases a.k b.k with ⟨h1, h2, h3⟩ | ⟨h1, h2, h3⟩ | ⟨h1, h2, h3⟩
  · rw [h1, if_pos (show a.k ≠ b.k by omega), if_pos h2]; simp
  · rw [h1, if_neg (show ¬ a.k ≠ b.k by omega)]; simp only [if_true]
    rcases ncmp_cases a.n b.n with ⟨g1, g2, g3⟩ | ⟨g1, g2, g3⟩ | ⟨g1, g2, g3⟩
    · rw [g1, if_pos (show a.n ≠ b.n by omega), if_pos g2]; simp
    · rw [g1, if_neg (show ¬ a.n ≠ b.n by omega)]; simp only [if_true]
      unfold scmp; simp
    · rw [g1, if_pos (show a.n ≠ b.n by omega), if_neg (show ¬ a.n < b.n by omega)]; rfl
  · rw [h1, if_pos (show a.k ≠ b.k by omega), if_neg (show ¬ a.k < b.k by omega)]; rfl

/-- .. in the walk's words -/
theorem vcmp_walk (a b : V) : vcmp a b = (if (a.k != b.k) = true then (if a.k < b.k then -1 else 1) else if (a.n != b.n) = true then (if a.n < b.n then -1 else 1) else
    if Op.bytesLess a.s.toList b.s.toList = true then -1 else if (!a.s.toList == b.s.toList) = true then 1 else 0) := by
  rw [vcmp_ref]
  simp only [bne_iff_ne]
  congr 1; congr 1
  rw [less_eq, less_eq]
  simp only [decide_eq_true_eq]
  rcases str_trichotomy a.s.toList b.s.toList with h | h | h
  · rw [if_pos h, if_pos h]
  · rw [h]; simp [List.lt_irrefl]
  · have hne : ¬ a.s.toList = b.s.toList := fun e => by rw [e] at h; exact List.lt_irrefl _ h
    rw [if_neg (List.lt_asymm h), if_neg (List.lt_asymm h), if_pos h, if_pos (by simp [hne])]

def letter (c : UInt8) : Bool := decide (97 ≤ (c.toNat : Int)) && decide ((c.toNat : Int) ≤ 122)
def inner (c : UInt8) : Bool := letter c || (decide (48 ≤ (c.toNat : Int)) && decide ((c.toNat : Int) ≤ 57)) || ((c.toNat : Int) == 95)
def name (s : ByteArray) : Bool := decide (0 < s.size) && decide (s.size ≤ 40) && (match s.data.toList with | [] => false | c :: _ => letter c) && s.data.toList.all inner

theorem size_list (s : ByteArray) : s.data.toList.length = s.size := Array.length_toList
theorem name_empty {s : ByteArray} (h : s.size = 0) : name s = false := by unfold name; rw [h]; rfl
theorem name_long {s : ByteArray} (h : 40 < s.size) : name s = false := by unfold name; rw [decide_eq_false (show ¬ s.size ≤ 40 by omega)]; simp
theorem isEmpty_false {s : ByteArray} (h : 0 < s.size) : s.toList.isEmpty = false := by
  rw [ByteArray.toList_eq, ← size_list] at *
  cases hl : s.data.toList with
  | nil => rw [hl] at h; simp at h
  | cons a l => rfl
theorem isEmpty_true {s : ByteArray} (h : s.size = 0) : s.toList.isEmpty = true := by
  rw [ByteArray.toList_eq]
  rw [← size_list] at h
  rw [List.length_eq_zero_iff.1 h]; rfl
theorem first_eq {s : ByteArray} (h : 0 < s.size) : ∃ l, s.data.toList = s[0] :: l := by
  have hl := size_list s
  cases e : s.data.toList with
  | nil => rw [e] at hl; simp at hl; omega
  | cons a l =>
    refine ⟨l, ?_⟩
    have : s.data.toList[0]'(by rw [hl]; exact h) = s[0] := rfl
    simp only [e] at this
    rw [← this]; rfl
theorem name_is {s : ByteArray} (h0 : 0 < s.size) (h1 : s.size ≤ 40) : name s = (letter s[0] && s.data.toList.all inner) := by
  obtain ⟨l, hl⟩ := first_eq h0
  unfold name
  rw [decide_eq_true h0, decide_eq_true h1, hl]; simp
theorem take_succ_str (s : ByteArray) (k : Nat) (h : k < s.size) : s.data.toList.take (k + 1) = s.data.toList.take k ++ [s[k]] := by
  rw [List.take_succ_eq_append_getElem (by simpa using h)]; rfl
theorem all_take_succ {s : ByteArray} {k : Nat} (h : k < s.size) (ha : (s.data.toList.take k).all inner = true) : (s.data.toList.take (k + 1)).all inner = inner s[k] := by
  rw [take_succ_str s k h, List.all_append, ha]; simp
theorem all_take_false {s : ByteArray} {k : Nat} (ha : (s.data.toList.take k).all inner = false) : s.data.toList.all inner = false := by
  cases h : s.data.toList.all inner
  · rfl
  · rw [List.all_eq_true] at h
    have : (s.data.toList.take k).all inner = true := List.all_eq_true.2 fun x hx => h x (List.mem_of_mem_take hx)
    rw [ha] at this; cases this
theorem all_take_end {s : ByteArray} : s.data.toList.take s.size = s.data.toList := by rw [← size_list, List.take_length]
end AnteVal
/- THE WALKS OF THE LAYER OF VALUES: names, which values can be. No condition. -/
namespace Go.Proofs.YtolefpeiceiocaaGreat
open Go.RowKit AnteFlo AnteVal

theorem ret_bool {a b : Bool} (h : a = b) : Ending.returned (.bool a) = .returned (.bool b) := by rw [h]

theorem letter_any (c : UInt8) (w : World) : Calls Tryz.prog 82 #[.int .u8 c.toNat] w fun e w' => e = .returned (.bool (letter c)) ∧ w = w' := by
  go_enter Tryz.func82, Tryz.ntmps82
  go_wp2
  all_goals go_ret
  · have h : 97 ≤ (c.toNat : Int) := by assumption
    exact ⟨ret_bool (by unfold letter; rw [decide_eq_true h]; rfl), rfl⟩
  · have h : (c.toNat : Int) < 97 := by assumption
    exact ⟨ret_bool (by unfold letter; rw [decide_eq_false (by omega)]; rfl), rfl⟩

theorem inner_any (c : UInt8) (w : World) : Calls Tryz.prog 83 #[.int .u8 c.toNat] w fun e w' => e = .returned (.bool (inner c)) ∧ w = w' := by
  go_enter Tryz.func83, Tryz.ntmps83
  go_wp2_with (go_at_call 82; refine (letter_any _ _).mono ?_; rintro e w' ⟨rfl, rfl⟩)
  all_goals go_ret
  all_goals refine ⟨ret_bool ?_, rfl⟩
  · have h : letter c = true := by assumption
    unfold inner; rw [h]; rfl
  · have h : ¬ letter c = true := by assumption
    have h1 : 48 ≤ (c.toNat : Int) := by assumption
    unfold inner; rw [Bool.eq_false_iff.2 h, decide_eq_true h1]; rfl
  · have h : ¬ letter c = true := by assumption
    have h1 : 48 ≤ (c.toNat : Int) := by assumption
    have h2 : (c.toNat : Int) ≤ 57 := by assumption
    unfold inner; rw [Bool.eq_false_iff.2 h, decide_eq_true h1, decide_eq_true h2]; rfl
  · have h : ¬ letter c = true := by assumption
    have h1 : (c.toNat : Int) < 48 := by assumption
    unfold inner; rw [Bool.eq_false_iff.2 h, decide_eq_false (show ¬ 48 ≤ (c.toNat : Int) by omega)]; rfl

theorem name_any (s : ByteArray) (hs : s.size ≤ maxLen) (w : World) : Calls Tryz.prog 60 #[.string s] w fun e w' => e = .returned (.bool (name s)) ∧ w = w' := by
  unfold maxLen at hs
  by_cases h0 : s.size = 0
  · have e0 := isEmpty_true h0
    have HN := Lib.hid (name_empty h0)
    clear h0
    go_enter Tryz.func60, Tryz.ntmps60
    go_wp2_with fail
    go_step3
    go_wp2_with fail
    rw [Exit.noGoto_ret]
    go_ret
    exact ⟨ret_bool HN.out.symm, rfl⟩
  · have e0 := isEmpty_false (s := s) (by omega)
    by_cases h1 : 40 < s.size
    · have HN := Lib.hid (name_long h1)
      have d1 : decide (40 < (s.size : Int)) = true := by simp; omega
      go_enter Tryz.func60, Tryz.ntmps60
      go_wp2_with fail
      go_step3
      go_wp2_with fail
      rw [Exit.noGoto_ret]
      go_ret
      exact ⟨ret_bool HN.out.symm, rfl⟩
    · have h2 : 0 < s.size := by omega
      have d1 : decide (40 < (s.size : Int)) = false := by simp; omega
      have HN := Lib.hid (name_is h2 (by omega))
      clear h0
      cases hl : letter s[0]
      · go_enter Tryz.func60, Tryz.ntmps60
        go_wp2_with fail
        go_step3
        go_wp2_with (go_at_call 82; refine (letter_any _ _).mono ?_; rintro e w' ⟨rfl, rfl⟩)
        rw [Exit.noGoto_ret]
        go_ret
        exact ⟨ret_bool (by rw [HN.out, hl]; rfl), rfl⟩
      · rw [hl, Bool.true_and] at HN
        go_enter Tryz.func60, Tryz.ntmps60
        go_wp2_with fail
        go_step3
        go_wp2_with (go_at_call 82; refine (letter_any _ _).mono ?_; rintro e w' ⟨rfl, rfl⟩)
        go_step3
        go_wp2_with fail
        go_loop [3, 20] (fun is at' => ∃ k : Nat, k ≤ s.size ∧ at' = .int .i64 (k : Int) ∧ is = .bool true ∧ (s.data.toList.take k).all inner = true) (fun _ i => s.size - (intOf i).toNat)
        case atStart => exact ⟨0, by omega, rfl, rfl, rfl⟩
        case round =>
          obtain ⟨k, hk, rfl, rfl, ha⟩ := hrel
          have HA := Lib.hid ha
          clear ha
          by_cases hlt : k < s.size
          · have hn := all_take_succ hlt HA.out
            have HN2 := Lib.hid hn
            clear hn
            cases hi : inner s[k]
            · go_wp2_with (go_at_call 83; refine (inner_any _ _).mono ?_; rintro e w' ⟨rfl, rfl⟩)
              rw [Exit.noGoto_ret]
              go_ret
              exact ⟨ret_bool (by rw [HN.out, all_take_false (by rw [HN2.out, hi])]), rfl⟩
            · go_wp2_with (go_at_call 83; refine (inner_any _ _).mono ?_; rintro e w' ⟨rfl, rfl⟩)
              go_round
              case rel => exact ⟨k + 1, by omega, by go_num, rfl, by rw [HN2.out, hi]⟩
              case measure => simp [intOf]; omega
          · obtain rfl : k = s.size := by omega
            have hall : s.data.toList.all inner = true := by have := HA.out; rwa [all_take_end] at this
            have HALL := Lib.hid hall
            clear hall
            go_wp2_with fail
            go_ret
            exact ⟨ret_bool (by rw [HN.out, HALL.out]), rfl⟩

/-- a value as it is handed on -/
def ev (v : V) : Value := .agg #[.int .i64 v.k, .int .i64 v.n, .string v.s]
/-- which values can be -/
def vright (v : V) : Bool := if v.k = 1 then v.s.toList.isEmpty else if v.k = 2 then v.s.toList.isEmpty && right v.n else if v.k = 3 then (v.n == 0) && name v.s else false

theorem below1 (w : World) (o : Obj) : Below w.heap.size w (w.alloc o) := (Below.refl _ _).alloc (Nat.le_refl _) o

theorem vright_any (v : V) (hs : v.s.size ≤ maxLen) (w : World) : Calls Tryz.prog 35 #[ev v] w fun e w' => e = .returned (.bool (vright v)) ∧ Below w.heap.size w w' := by
  obtain ⟨k, n, s⟩ := v
  unfold ev
  simp only at hs ⊢
  have HS := Lib.hid hs
  clear hs
  by_cases h1 : k = 1
  · subst h1
    go_enter Tryz.func35, Tryz.ntmps35
    go_wp2_with fail
    all_goals go_ret
    exact ⟨ret_bool (by simp [vright]), below1 _ _⟩
  · by_cases h2 : k = 2
    · subst h2
      clear h1
      go_enter Tryz.func35, Tryz.ntmps35
      go_wp2_with (go_at_call 59; refine (right_any _ _).mono ?_; rintro e w' ⟨rfl, rfl⟩)
      all_goals go_ret
      all_goals exact ⟨ret_bool (by simp [vright, *]), below1 _ _⟩
    · by_cases h3 : k = 3
      · subst h3
        clear h1 h2
        go_enter Tryz.func35, Tryz.ntmps35
        go_wp2_with (go_at_call 60; refine (name_any _ HS.out _).mono ?_; rintro e w' ⟨rfl, rfl⟩)
        all_goals go_ret
        all_goals exact ⟨ret_bool (by simp [vright, *]), below1 _ _⟩
      · have g1 := beq_eq_false_iff_ne.2 h1
        have g2 := beq_eq_false_iff_ne.2 h2
        have g3 := beq_eq_false_iff_ne.2 h3
        clear h1 h2 h3
        go_enter Tryz.func35, Tryz.ntmps35
        go_wp2_with fail
        all_goals go_ret
        have h1 := beq_eq_false_iff_ne.1 g1
        have h2 := beq_eq_false_iff_ne.1 g2
        have h3 := beq_eq_false_iff_ne.1 g3
        exact ⟨ret_bool (by simp [vright, h1, h2, h3]), below1 _ _⟩

end Go.Proofs.YtolefpeiceiocaaGreat
