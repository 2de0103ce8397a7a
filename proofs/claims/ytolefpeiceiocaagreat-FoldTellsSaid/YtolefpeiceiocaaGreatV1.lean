/- THE WALKS OF THE LAYER OF VALUES: names, which values can be. No condition. -/
import Derived.Test.YtolefpeiceiocaaGreatW4
import Derived.Test.YtolefpeiceiocaaGreatVal
namespace Go.Proofs.YtolefpeiceiocaaGreat
open Go.RowKit AnteFlo AnteVal

theorem ret_bool {a b : Bool} (h : a = b) : Ending.returned (.bool a) = .returned (.bool b) := by rw [h]

theorem letter_any (c : UInt8) (w : World) : Calls Tryz.prog 82 #[.int .u8 c.toNat] w fun e w' => e = .returned (.bool (letter c)) ∧ w = w' := by
  go_enter Tryz.func82, Tryz.ntmps82
  go_wp2
  all_goals go_ret
  · have h : 97 ≤ (c.toNat : Int) := by assumption
    exact ⟨ret_bool (by unfold letter; rw [decide_eq_true h]; rfl), rfl⟩
  · have h : (c.toNat : Int) < 97 := by assumption
    exact ⟨ret_bool (by unfold letter; rw [decide_eq_false (by omega)]; rfl), rfl⟩

theorem inner_any (c : UInt8) (w : World) : Calls Tryz.prog 83 #[.int .u8 c.toNat] w fun e w' => e = .returned (.bool (inner c)) ∧ w = w' := by
  go_enter Tryz.func83, Tryz.ntmps83
  go_wp2_with (go_at_call 82; refine (letter_any _ _).mono ?_; rintro e w' ⟨rfl, rfl⟩)
  all_goals go_ret
  all_goals refine ⟨ret_bool ?_, rfl⟩
  · have h : letter c = true := by assumption
    unfold inner; rw [h]; rfl
  · have h : ¬ letter c = true := by assumption
    have h1 : 48 ≤ (c.toNat : Int) := by assumption
    unfold inner; rw [Bool.eq_false_iff.2 h, decide_eq_true h1]; rfl
  · have h : ¬ letter c = true := by assumption
    have h1 : 48 ≤ (c.toNat : Int) := by assumption
    have h2 : (c.toNat : Int) ≤ 57 := by assumption
    unfold inner; rw [Bool.eq_false_iff.2 h, decide_eq_true h1, decide_eq_true h2]; rfl
  · have h : ¬ letter c = true := by assumption
    have h1 : (c.toNat : Int) < 48 := by assumption
    unfold inner; rw [Bool.eq_false_iff.2 h, decide_eq_false (show ¬ 48 ≤ (c.toNat : Int) by omega)]; rfl

theorem name_any (s : ByteArray) (hs : s.size ≤ maxLen) (w : World) : Calls Tryz.prog 60 #[.string s] w fun e w' => e = .returned (.bool (name s)) ∧ w = w' := by
  unfold maxLen at hs
  by_cases h0 : s.size = 0
  · have e0 := isEmpty_true h0
    have HN := Lib.hid (name_empty h0)
    clear h0
    go_enter Tryz.func60, Tryz.ntmps60
    go_wp2_with fail
    go_step3
    go_wp2_with fail
    rw [Exit.noGoto_ret]
    go_ret
    exact ⟨ret_bool HN.out.symm, rfl⟩
  · have e0 := isEmpty_false (s := s) (by omega)
    by_cases h1 : 40 < s.size
    · have HN := Lib.hid (name_long h1)
      have d1 : decide (40 < (s.size : Int)) = true := by simp; omega
      go_enter Tryz.func60, Tryz.ntmps60
      go_wp2_with fail
      go_step3
      go_wp2_with fail
      rw [Exit.noGoto_ret]
      go_ret
      exact ⟨ret_bool HN.out.symm, rfl⟩
    · have h2 : 0 < s.size := by omega
      have d1 : decide (40 < (s.size : Int)) = false := by simp; omega
      have HN := Lib.hid (name_is h2 (by omega))
      clear h0
      cases hl : letter s[0]
      · go_enter Tryz.func60, Tryz.ntmps60
        go_wp2_with fail
        go_step3
        go_wp2_with (go_at_call 82; refine (letter_any _ _).mono ?_; rintro e w' ⟨rfl, rfl⟩)
        rw [Exit.noGoto_ret]
        go_ret
        exact ⟨ret_bool (by rw [HN.out, hl]; rfl), rfl⟩
      · rw [hl, Bool.true_and] at HN
        go_enter Tryz.func60, Tryz.ntmps60
        go_wp2_with fail
        go_step3
        go_wp2_with (go_at_call 82; refine (letter_any _ _).mono ?_; rintro e w' ⟨rfl, rfl⟩)
        go_step3
        go_wp2_with fail
        go_loop [3, 20] (fun is at' => ∃ k : Nat, k ≤ s.size ∧ at' = .int .i64 (k : Int) ∧ is = .bool true ∧ (s.data.toList.take k).all inner = true) (fun _ i => s.size - (intOf i).toNat)
        case atStart => exact ⟨0, by omega, rfl, rfl, rfl⟩
        case round =>
          obtain ⟨k, hk, rfl, rfl, ha⟩ := hrel
          have HA := Lib.hid ha
          clear ha
          by_cases hlt : k < s.size
          · have hn := all_take_succ hlt HA.out
            have HN2 := Lib.hid hn
            clear hn
            cases hi : inner s[k]
            · go_wp2_with (go_at_call 83; refine (inner_any _ _).mono ?_; rintro e w' ⟨rfl, rfl⟩)
              rw [Exit.noGoto_ret]
              go_ret
              exact ⟨ret_bool (by rw [HN.out, all_take_false (by rw [HN2.out, hi])]), rfl⟩
            · go_wp2_with (go_at_call 83; refine (inner_any _ _).mono ?_; rintro e w' ⟨rfl, rfl⟩)
              go_round
              case rel => exact ⟨k + 1, by omega, by go_num, rfl, by rw [HN2.out, hi]⟩
              case measure => simp [intOf]; omega
          · obtain rfl : k = s.size := by omega
            have hall : s.data.toList.all inner = true := by have := HA.out; rwa [all_take_end] at this
            have HALL := Lib.hid hall
            clear hall
            go_wp2_with fail
            go_ret
            exact ⟨ret_bool (by rw [HN.out, HALL.out]), rfl⟩

/-- a value as it is handed on -/
def ev (v : V) : Value := .agg #[.int .i64 v.k, .int .i64 v.n, .string v.s]
/-- which values can be -/
def vright (v : V) : Bool := if v.k = 1 then v.s.toList.isEmpty else if v.k = 2 then v.s.toList.isEmpty && right v.n else if v.k = 3 then (v.n == 0) && name v.s else false

theorem below1 (w : World) (o : Obj) : Below w.heap.size w (w.alloc o) := (Below.refl _ _).alloc (Nat.le_refl _) o

theorem vright_any (v : V) (hs : v.s.size ≤ maxLen) (w : World) : Calls Tryz.prog 35 #[ev v] w fun e w' => e = .returned (.bool (vright v)) ∧ Below w.heap.size w w' := by
  obtain ⟨k, n, s⟩ := v
  unfold ev
  simp only at hs ⊢
  have HS := Lib.hid hs
  clear hs
  by_cases h1 : k = 1
  · subst h1
    go_enter Tryz.func35, Tryz.ntmps35
    go_wp2_with fail
    all_goals go_ret
    exact ⟨ret_bool (by simp [vright]), below1 _ _⟩
  · by_cases h2 : k = 2
    · subst h2
      clear h1
      go_enter Tryz.func35, Tryz.ntmps35
      go_wp2_with (go_at_call 59; refine (right_any _ _).mono ?_; rintro e w' ⟨rfl, rfl⟩)
      all_goals go_ret
      all_goals exact ⟨ret_bool (by simp [vright, *]), below1 _ _⟩
    · by_cases h3 : k = 3
      · subst h3
        clear h1 h2
        go_enter Tryz.func35, Tryz.ntmps35
        go_wp2_with (go_at_call 60; refine (name_any _ HS.out _).mono ?_; rintro e w' ⟨rfl, rfl⟩)
        all_goals go_ret
        all_goals exact ⟨ret_bool (by simp [vright, *]), below1 _ _⟩
      · have g1 := beq_eq_false_iff_ne.2 h1
        have g2 := beq_eq_false_iff_ne.2 h2
        have g3 := beq_eq_false_iff_ne.2 h3
        clear h1 h2 h3
        go_enter Tryz.func35, Tryz.ntmps35
        go_wp2_with fail
        all_goals go_ret
        have h1 := beq_eq_false_iff_ne.1 g1
        have h2 := beq_eq_false_iff_ne.1 g2
        have h3 := beq_eq_false_iff_ne.1 g3
        exact ⟨ret_bool (by simp [vright, h1, h2, h3]), below1 _ _⟩

end Go.Proofs.YtolefpeiceiocaaGreat
