/- THE WALKS OF THE REFERENCE'S LAYER OF VALUES: names, which values can be. No condition. -/
import Derived.Test.YtcoidmkaddnkdaaV2
import Derived.Laws.RangeString
namespace Go.Proofs.Ytcoidmkaddnkdaa
open Go.RowKit AnteFlo AnteVal

theorem run_next_any (w : World) (s : ByteArray) (pos : Nat) (ty : TypeId) (h : pos < s.size) :
    (Instr.next (.pointer (some ⟨w.heap.size, 0, none⟩)) true ty).run Try.prog (w.iter s pos) =
      .ok (.tuple #[.bool true, .int .i64 pos, .int .i32 (Utf8.decode s pos).1]) (w.iter s (pos + (Utf8.decode s pos).2)) := by
  simp only [Instr.next, getObj, setObj, Sem.run_bind, Sem.run, World.iter_heap, Result.andThen, h, if_true, World.iter_set]
  simp [goInt]

theorem inner_cases (c : UInt8) : (inner c = true ∧ ((97 ≤ (c.toNat : Int) ∧ (c.toNat : Int) ≤ 122) ∨ (48 ≤ (c.toNat : Int) ∧ (c.toNat : Int) ≤ 57) ∨ (95 ≤ (c.toNat : Int) ∧ (c.toNat : Int) ≤ 95))) ∨
    (inner c = false ∧ ((c.toNat : Int) ≤ 47 ∨ (58 ≤ (c.toNat : Int) ∧ (c.toNat : Int) ≤ 94) ∨ (96 ≤ (c.toNat : Int) ∧ (c.toNat : Int) ≤ 96) ∨ 123 ≤ (c.toNat : Int))) := by
  cases h : inner c
  · right; refine ⟨rfl, ?_⟩
    unfold inner letter at h
    simp at h
    omega
  · left; refine ⟨rfl, ?_⟩
    unfold inner letter at h
    simp at h
    omega

theorem ascii_inner {c : UInt8} (h : inner c = true) : c.toNat < 128 := by
  rcases inner_cases c with ⟨_, h | h | h⟩ | ⟨h2, _⟩
  · omega
  · omega
  · omega
  · rw [h] at h2; cases h2

theorem class_cases (c : UInt8) :
    (inner c = true ∧ decide (97 ≤ (c.toNat : Int)) = true ∧ decide ((c.toNat : Int) ≤ 122) = true ∧ decide (48 ≤ (c.toNat : Int)) = true ∧ decide ((c.toNat : Int) ≤ 57) = false ∧ ((c.toNat : Int) == 95) = false) ∨
    (inner c = true ∧ decide (97 ≤ (c.toNat : Int)) = false ∧ decide ((c.toNat : Int) ≤ 122) = true ∧ decide (48 ≤ (c.toNat : Int)) = true ∧ decide ((c.toNat : Int) ≤ 57) = true ∧ ((c.toNat : Int) == 95) = false) ∨
    (inner c = true ∧ decide (97 ≤ (c.toNat : Int)) = false ∧ decide ((c.toNat : Int) ≤ 122) = true ∧ decide (48 ≤ (c.toNat : Int)) = true ∧ decide ((c.toNat : Int) ≤ 57) = false ∧ ((c.toNat : Int) == 95) = true) ∨
    (inner c = false ∧ decide (97 ≤ (c.toNat : Int)) = false ∧ decide ((c.toNat : Int) ≤ 122) = true ∧ decide (48 ≤ (c.toNat : Int)) = false ∧ decide ((c.toNat : Int) ≤ 57) = true ∧ ((c.toNat : Int) == 95) = false) ∨
    (inner c = false ∧ decide (97 ≤ (c.toNat : Int)) = false ∧ decide ((c.toNat : Int) ≤ 122) = true ∧ decide (48 ≤ (c.toNat : Int)) = true ∧ decide ((c.toNat : Int) ≤ 57) = false ∧ ((c.toNat : Int) == 95) = false) ∨
    (inner c = false ∧ decide (97 ≤ (c.toNat : Int)) = true ∧ decide ((c.toNat : Int) ≤ 122) = false ∧ decide (48 ≤ (c.toNat : Int)) = true ∧ decide ((c.toNat : Int) ≤ 57) = false ∧ ((c.toNat : Int) == 95) = false) := by
  rcases inner_cases c with ⟨h, h1 | h1 | h1⟩ | ⟨h, h1 | h1 | h1 | h1⟩ <;> simp only [decide_eq_true_eq, decide_eq_false_iff_not, beq_iff_eq, beq_eq_false_iff_ne]
  · exact .inl ⟨h, by omega, by omega, by omega, by omega, by omega⟩
  · exact .inr (.inl ⟨h, by omega, by omega, by omega, by omega, by omega⟩)
  · exact .inr (.inr (.inl ⟨h, by omega, by omega, by omega, by omega, by omega⟩))
  · exact .inr (.inr (.inr (.inl ⟨h, by omega, by omega, by omega, by omega, by omega⟩)))
  · exact .inr (.inr (.inr (.inr (.inl ⟨h, by omega, by omega, by omega, by omega, by omega⟩))))
  · exact .inr (.inr (.inr (.inr (.inl ⟨h, by omega, by omega, by omega, by omega, by omega⟩))))
  · exact .inr (.inr (.inr (.inr (.inr ⟨h, by omega, by omega, by omega, by omega, by omega⟩))))

theorem letter_cases (c : UInt8) : (letter c = true ∧ 97 ≤ (c.toNat : Int) ∧ (c.toNat : Int) ≤ 122) ∨ (letter c = false ∧ ((c.toNat : Int) ≤ 96 ∨ (97 ≤ (c.toNat : Int) ∧ 123 ≤ (c.toNat : Int)))) := by
  cases h : letter c
  · right; refine ⟨rfl, ?_⟩
    unfold letter at h; simp at h; omega
  · left; refine ⟨rfl, ?_⟩
    unfold letter at h; simp at h; omega

theorem below_iter (w : World) (s : ByteArray) (k : Nat) : Below w.heap.size w (w.iter s k) := (Below.refl _ _).alloc (Nat.le_refl _) _

theorem refName_any (s : ByteArray) (hs : s.size ≤ maxLen) (w : World) : Calls Try.prog 34 #[.string s] w fun e w' => e = .returned (.bool (name s)) ∧ Below w.heap.size w w' := by
  unfold maxLen at hs
  by_cases h0 : s.size = 0
  · have HN := Lib.hid (name_empty h0)
    have d1 : decide ((s.size : Int) < 1) = true := by simp; omega
    clear h0
    go_enter Try.func34, Try.ntmps34
    go_wp2_with fail
    go_ret
    exact ⟨ret_bool HN.out.symm, Below.refl _ _⟩
  · have d1 : decide ((s.size : Int) < 1) = false := by simp; omega
    by_cases h1 : 40 < s.size
    · have HN := Lib.hid (name_long h1)
      have d2 : decide (40 < (s.size : Int)) = true := by simp; omega
      go_enter Try.func34, Try.ntmps34
      go_wp2_with fail
      go_ret
      exact ⟨ret_bool HN.out.symm, Below.refl _ _⟩
    · have h2 : 0 < s.size := by omega
      have d2 : decide (40 < (s.size : Int)) = false := by simp; omega
      have HN := Lib.hid (name_is h2 (by omega))
      clear h0
      rcases letter_cases s[0] with ⟨hl, hl1, hl2⟩ | ⟨hl, hl1 | ⟨hl0, hl1⟩⟩
      · rw [hl, Bool.true_and] at HN
        clear hl
        go_enter Try.func34, Try.ntmps34
        go_wp2_with fail
        clear hl1 hl2 d1 d2
        go_loopw [3] (fun _ wr => ∃ k : Nat, wr = w.iter s k ∧ k ≤ s.size ∧ (s.data.toList.take k).all inner = true) (fun _ wr => s.size - wr.iterPos w.heap.size)
        case atStart => exact ⟨0, rfl, by omega, rfl⟩
        case round =>
          obtain ⟨k, rfl, hk, ha⟩ := hrel
          have HA := Lib.hid ha
          clear ha
          by_cases hlt : k < s.size
          · have HN2 := Lib.hid (all_take_succ hlt HA.out)
            rcases class_cases s[k] with ⟨hi, c1, c2, c3, c4, c5⟩ | ⟨hi, c1, c2, c3, c4, c5⟩ | ⟨hi, c1, c2, c3, c4, c5⟩ | ⟨hi, c1, c2, c3, c4, c5⟩ | ⟨hi, c1, c2, c3, c4, c5⟩ | ⟨hi, c1, c2, c3, c4, c5⟩
            case' inl | inr.inl | inr.inr.inl =>
              have hnx : ∀ ty, (Instr.next (.pointer (some ⟨w.heap.size, 0, none⟩)) true ty).run Try.prog (w.iter s k) = _ := fun ty => run_next_ascii w s k ty hlt (ascii_inner hi)
              have HI := Lib.hid hi
              clear hi
              go_wp2_with fail
              go_roundw
              case rel => exact ⟨k + 1, rfl, by omega, by rw [HN2.out, HI.out]⟩
              case measure => simp; omega
            all_goals
              have hnx : ∀ ty, (Instr.next (.pointer (some ⟨w.heap.size, 0, none⟩)) true ty).run Try.prog (w.iter s k) = _ := fun ty => run_next_any w s k ty hlt
              have HF := Lib.hid (all_take_false (by rw [HN2.out, hi]))
              clear hi
              go_wp2_with fail
              go_ret
              exact ⟨ret_bool (by rw [HN.out, HF.out]), below_iter _ _ _⟩
          · obtain rfl : k = s.size := by omega
            have hnx : ∀ ty, (Instr.next (.pointer (some ⟨w.heap.size, 0, none⟩)) true ty).run Try.prog (w.iter s s.size) = _ := fun ty => run_next_end w s s.size ty hlt
            have HF : Hid (s.data.toList.all inner = true) := by have := HA.out; rwa [all_take_end] at this
            go_wp2_with fail
            go_ret
            exact ⟨ret_bool (by rw [HN.out, HF.out]), below_iter _ _ _⟩
      · go_enter Try.func34, Try.ntmps34
        go_wp2_with fail
        go_ret
        exact ⟨ret_bool (by rw [HN.out, hl]; rfl), Below.refl _ _⟩
      · go_enter Try.func34, Try.ntmps34
        go_wp2_with fail
        go_ret
        exact ⟨ret_bool (by rw [HN.out, hl]; rfl), Below.refl _ _⟩

theorem refVright_any (v : V) (hs : v.s.size ≤ maxLen) (w : World) : Calls Try.prog 19 #[ev v] w fun e w' => e = .returned (.bool (vright v)) ∧ Below w.heap.size w w' := by
  obtain ⟨k, n, s⟩ := v
  unfold ev
  simp only at hs ⊢
  have HS := Lib.hid hs
  clear hs
  by_cases h1 : k = 1
  · subst h1
    go_enter Try.func19, Try.ntmps19
    go_wp2_with fail
    all_goals go_ret
    exact ⟨ret_bool (by simp [vright]), below1 _ _⟩
  · by_cases h2 : k = 2
    · subst h2
      clear h1
      go_enter Try.func19, Try.ntmps19
      go_wp2_with (go_at_call 33; refine (refRight_any _ _).mono ?_; rintro e w' ⟨rfl, rfl⟩)
      all_goals go_ret
      all_goals exact ⟨ret_bool (by simp [vright, *]), below1 _ _⟩
    · by_cases h3 : k = 3
      · subst h3
        clear h1 h2
        go_enter Try.func19, Try.ntmps19
        go_wp2_with (go_at_call 34; refine (refName_any _ HS.out _).mono ?_; rintro e w' ⟨rfl, hb⟩)
        all_goals go_ret
        all_goals refine ⟨ret_bool (by simp [vright, *]), ?_⟩
        all_goals first | exact below1 _ _ | exact (below1 w _).trans (hb.mono (by simp))
      · have g1 := beq_eq_false_iff_ne.2 h1
        have g2 := beq_eq_false_iff_ne.2 h2
        have g3 := beq_eq_false_iff_ne.2 h3
        clear h1 h2 h3
        go_enter Try.func19, Try.ntmps19
        go_wp2_with fail
        all_goals go_ret
        have h1 := beq_eq_false_iff_ne.1 g1
        have h2 := beq_eq_false_iff_ne.1 g2
        have h3 := beq_eq_false_iff_ne.1 g3
        exact ⟨ret_bool (by simp [vright, h1, h2, h3]), below1 _ _⟩

end Go.Proofs.Ytcoidmkaddnkdaa
