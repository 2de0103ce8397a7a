/- THE WALKS OF THE LAYER OF VALUES: how two lie to each other. No condition. -/
import Derived.Test.YtolefpeiceiocaaGreatV1
import Derived.StillTailTactics
import Derived.Test.YtolefpeiceiocaaGreatGr
import Derived.Test.YtolefpeiceiocaaGreatW5
import Derived.Laws.RangeString
namespace Go.Proofs.YtolefpeiceiocaaGreat
open Go.RowKit AnteFlo AnteVal

theorem isNaNInt_any (x : Int) (w : World) : Calls Tryz.prog 75 #[.int .i64 x] w fun e w' => e = .returned (.bool false) ∧ w = w' := by
  go_enter Tryz.func75, Tryz.ntmps75
  go_wp2
  go_ret
  exact ⟨by simp, rfl⟩

theorem isNaNInt64_any (x : Int) (w : World) : Calls Tryz.prog 76 #[.int .i64 x] w fun e w' => e = .returned (.bool false) ∧ w = w' := by
  go_enter Tryz.func76, Tryz.ntmps76
  go_wp2
  go_ret
  exact ⟨by simp, rfl⟩

theorem cmpInt_any (x y : Int) (w : World) : Calls Tryz.prog 47 #[.int .i64 x, .int .i64 y] w fun e w' => e = .returned (.int .i64 (ncmp x y)) ∧ w' = w := by
  rcases Int.lt_trichotomy x y with h | h | h
  · have HN : Hid (ncmp x y = -1) := by show ncmp x y = -1; unfold ncmp; rw [if_pos h]
    go_enter Tryz.func47, Tryz.ntmps47
    go_wp2_with (go_at_call 75; refine (isNaNInt_any _ _).mono ?_; rintro e w' ⟨rfl, rfl⟩)
    go_ret
    exact ⟨ret_int HN.out.symm, rfl⟩
  · have HN : Hid (ncmp x y = 0) := by show ncmp x y = 0; unfold ncmp; rw [if_neg (by omega), if_neg (by omega)]
    have h1 : (x < y) = False := eq_false (by omega)
    have h2 : (y < x) = False := eq_false (by omega)
    clear h
    go_enter Tryz.func47, Tryz.ntmps47
    go_wp2_with (go_at_call 75; refine (isNaNInt_any _ _).mono ?_; rintro e w' ⟨rfl, rfl⟩)
    go_ret
    exact ⟨ret_int HN.out.symm, rfl⟩
  · have HN : Hid (ncmp x y = 1) := by show ncmp x y = 1; unfold ncmp; rw [if_neg (by omega), if_pos h]
    have h1 : (x < y) = False := eq_false (by omega)
    go_enter Tryz.func47, Tryz.ntmps47
    go_wp2_with (go_at_call 75; refine (isNaNInt_any _ _).mono ?_; rintro e w' ⟨rfl, rfl⟩)
    go_ret
    exact ⟨ret_int HN.out.symm, rfl⟩

theorem cmpInt64_any (x y : Int) (w : World) : Calls Tryz.prog 48 #[.int .i64 x, .int .i64 y] w fun e w' => e = .returned (.int .i64 (ncmp x y)) ∧ w' = w := by
  rcases Int.lt_trichotomy x y with h | h | h
  · have HN : Hid (ncmp x y = -1) := by show ncmp x y = -1; unfold ncmp; rw [if_pos h]
    go_enter Tryz.func48, Tryz.ntmps48
    go_wp2_with (go_at_call 76; refine (isNaNInt64_any _ _).mono ?_; rintro e w' ⟨rfl, rfl⟩)
    go_ret
    exact ⟨ret_int HN.out.symm, rfl⟩
  · have HN : Hid (ncmp x y = 0) := by show ncmp x y = 0; unfold ncmp; rw [if_neg (by omega), if_neg (by omega)]
    have h1 : (x < y) = False := eq_false (by omega)
    have h2 : (y < x) = False := eq_false (by omega)
    clear h
    go_enter Tryz.func48, Tryz.ntmps48
    go_wp2_with (go_at_call 76; refine (isNaNInt64_any _ _).mono ?_; rintro e w' ⟨rfl, rfl⟩)
    go_ret
    exact ⟨ret_int HN.out.symm, rfl⟩
  · have HN : Hid (ncmp x y = 1) := by show ncmp x y = 1; unfold ncmp; rw [if_neg (by omega), if_pos h]
    have h1 : (x < y) = False := eq_false (by omega)
    go_enter Tryz.func48, Tryz.ntmps48
    go_wp2_with (go_at_call 76; refine (isNaNInt64_any _ _).mono ?_; rintro e w' ⟨rfl, rfl⟩)
    go_ret
    exact ⟨ret_int HN.out.symm, rfl⟩

theorem cmpstring_run (a b : ByteArray) (w : World) : (callFunc 89 #[.string a, .string b]).run Tryz.prog w = .ok (.value (.int .i64 (scmp a.toList b.toList))) w := by
  rw [run_callFunc_extern (e := Extern.BytealgCompare.compare) Tryz.func89 (by kernel_rfl) (by kernel_rfl) (by kernel_rfl) (by kernel_rfl), Lib.run_compareString]
  rw [compare_eq, ByteArray.toList_eq, ByteArray.toList_eq]; rfl

theorem compareString_any (a b : ByteArray) (w : World) : Calls Tryz.prog 77 #[.string a, .string b] w fun e w' => e = .returned (.int .i64 (scmp a.toList b.toList)) ∧ w' = w := by
  have h := cmpstring_run
  go_enter Tryz.func77, Tryz.ntmps77
  go_wp2
  go_ret
  exact ⟨rfl, rfl⟩

theorem stringsCompare_any (a b : ByteArray) (w : World) : Calls Tryz.prog 49 #[.string a, .string b] w fun e w' => e = .returned (.int .i64 (scmp a.toList b.toList)) ∧ w' = w := by
  go_enter Tryz.func49, Tryz.ntmps49
  go_wp2_with (go_at_call 77; refine (compareString_any _ _ _).mono ?_; rintro e w' ⟨rfl, rfl⟩)
  go_ret
  exact ⟨rfl, rfl⟩

theorem orInt_any (b : Nat) (x y z : Int) (w : World) (h0 : w.cell? ⟨b, 0, none⟩ = some (.int .i64 x)) (h1 : w.cell? ⟨b, 1, none⟩ = some (.int .i64 y)) (h2 : w.cell? ⟨b, 2, none⟩ = some (.int .i64 z)) :
    Calls Tryz.prog 46 #[.slice (some ⟨b, 0, none⟩) 3 3] w fun e w' => e = .returned (.int .i64 (orz x (orz y z))) ∧ w' = w := by
  by_cases hx : x = 0
  · subst hx
    by_cases hy : y = 0
    · subst hy
      by_cases hz : z = 0
      · subst hz
        go_enter Tryz.func46, Tryz.ntmps46
        go_wp2_with fail
        go_rounds 4
        go_ret
        exact ⟨ret_int (by rfl), rfl⟩
      · have gz : (z != 0) = true := bne_iff_ne.2 hz
        clear hz
        go_enter Tryz.func46, Tryz.ntmps46
        go_wp2_with fail
        go_rounds 4
        go_ret
        exact ⟨ret_int (by simp [orz]), rfl⟩
    · have gy : (y != 0) = true := bne_iff_ne.2 hy
      have HY := Lib.hid hy
      clear hy
      go_enter Tryz.func46, Tryz.ntmps46
      go_wp2_with fail
      go_rounds 4
      go_ret
      exact ⟨ret_int (by have := HY.out; simp [orz, this]), rfl⟩
  · have gx : (x != 0) = true := bne_iff_ne.2 hx
    have HX := Lib.hid hx
    clear hx
    go_enter Tryz.func46, Tryz.ntmps46
    go_wp2_with fail
    go_rounds 4
    go_ret
    exact ⟨ret_int (by have := HX.out; simp [orz, this]), rfl⟩

/-- two values, each in a box of its own -/
structure Boxes (w W : World) (a b : V) : Prop where
  a0 : W.cell? ⟨w.heap.size, 0, none⟩ = some (.int .i64 a.k)
  a1 : W.cell? ⟨w.heap.size, 1, none⟩ = some (.int .i64 a.n)
  a2 : W.cell? ⟨w.heap.size, 2, none⟩ = some (.string a.s)
  b0 : W.cell? ⟨w.heap.size + 1, 0, none⟩ = some (.int .i64 b.k)
  b1 : W.cell? ⟨w.heap.size + 1, 1, none⟩ = some (.int .i64 b.n)
  b2 : W.cell? ⟨w.heap.size + 1, 2, none⟩ = some (.string b.s)
  size : W.heap.size = w.heap.size + 2
  below : Below w.heap.size w W
  gr : Grown w W

theorem boxes_drew (w : World) (a b : V) (T : TypeId) : Boxes w ((w.alloc (.cells #[.int .i64 a.k, .int .i64 a.n, .string a.s] T)).alloc (.cells #[.int .i64 b.k, .int .i64 b.n, .string b.s] T)).drew a b :=
  ⟨by simp, by simp, by simp, by simp, by simp, by simp, by simp, ((((Below.refl _ _).alloc (Nat.le_refl _) _).alloc (by simp) _).drew), ((((Grown.refl _).alloc _).alloc _).drew)⟩

set_option maxRecDepth 100000 in
theorem compare_any (a b : V) (w : World) : Calls Tryz.prog 27 #[ev a, ev b] w fun e w' => e = .returned (.int .i64 (vcmp a b)) ∧ Grown w w' := by
  have hB := boxes_drew w a b 25
  obtain ⟨k, n, s⟩ := a
  obtain ⟨k', n', s'⟩ := b
  unfold ev
  simp only at hB ⊢
  have HB := Lib.hid hB
  clear hB
  go_enter Tryz.func27, Tryz.ntmps27
  go_wp2_with fail
  refine wp_region_still_tail 15 (by kernel_rfl) (by kernel_rfl) ?_
  simp only [List.take_succ_cons, List.take_zero, List.drop_succ_cons, List.drop_zero]
  change wpStill _ _ (World.drew _) (fun a' => wpList _ _ _ _ a' (World.drew _)) _ _
  revert HB
  generalize ((w.alloc (.cells #[.int .i64 k, .int .i64 n, .string s] 25)).alloc (.cells #[.int .i64 k', .int .i64 n', .string s'] 25)).drew = W
  intro HB
  obtain ⟨a0, a1, a2, b0, b1, b2, hsz, _, hbel⟩ := HB.out
  have HS := Lib.hid hsz
  have HBel := Lib.hid hbel
  clear HB hsz hbel
  simp only at a0 a1 a2 b0 b1 b2
  repeat still_step
  still_call (cmpInt_any _ _ _)
  repeat still_step
  still_call (cmpInt64_any _ _ _)
  repeat still_step
  still_call (stringsCompare_any _ _ _)
  repeat still_step
  refine wpStill_nil ?_
  clear a0 a1 a2 b0 b1 b2
  go_wp2_with fail
  refine (orInt_any W.heap.size (ncmp k k') (ncmp n n') (scmp s.toList s'.toList) _ (by simp) (by simp) (by simp)).mono ?_; rintro e w' ⟨rfl, rfl⟩
  go_wp2_with fail
  go_ret
  exact ⟨rfl, HBel.out.alloc _⟩

end Go.Proofs.YtolefpeiceiocaaGreat
/- THE WALKS OF THE REFERENCE'S LAYER OF VALUES: names, which values can be. No condition. -/
namespace Go.Proofs.YtolefpeiceiocaaGreat
open Go.RowKit AnteFlo AnteVal

theorem run_next_any (w : World) (s : ByteArray) (pos : Nat) (ty : TypeId) (h : pos < s.size) :
    (Instr.next (.pointer (some ⟨w.heap.size, 0, none⟩)) true ty).run Tryz.prog (w.iter s pos) =
      .ok (.tuple #[.bool true, .int .i64 pos, .int .i32 (Utf8.decode s pos).1]) (w.iter s (pos + (Utf8.decode s pos).2)) := by
  simp only [Instr.next, getObj, setObj, Sem.run_bind, Sem.run, World.iter_heap, Result.andThen, h, if_true, World.iter_set]
  simp [goInt]

theorem inner_cases (c : UInt8) : (inner c = true ∧ ((97 ≤ (c.toNat : Int) ∧ (c.toNat : Int) ≤ 122) ∨ (48 ≤ (c.toNat : Int) ∧ (c.toNat : Int) ≤ 57) ∨ (95 ≤ (c.toNat : Int) ∧ (c.toNat : Int) ≤ 95))) ∨
    (inner c = false ∧ ((c.toNat : Int) ≤ 47 ∨ (58 ≤ (c.toNat : Int) ∧ (c.toNat : Int) ≤ 94) ∨ (96 ≤ (c.toNat : Int) ∧ (c.toNat : Int) ≤ 96) ∨ 123 ≤ (c.toNat : Int))) := by
  cases h : inner c
  · right; refine ⟨rfl, ?_⟩
    unfold inner letter at h
    simp at h
    omega
  · left; refine ⟨rfl, ?_⟩
    unfold inner letter at h
    simp at h
    omega

theorem ascii_inner {c : UInt8} (h : inner c = true) : c.toNat < 128 := by
  rcases inner_cases c with ⟨_, h | h | h⟩ | ⟨h2, _⟩
  · omega
  · omega
  · omega
  · rw [h] at h2; cases h2

theorem class_cases (c : UInt8) :
    (inner c = true ∧ decide (97 ≤ (c.toNat : Int)) = true ∧ decide ((c.toNat : Int) ≤ 122) = true ∧ decide (48 ≤ (c.toNat : Int)) = true ∧ decide ((c.toNat : Int) ≤ 57) = false ∧ ((c.toNat : Int) == 95) = false) ∨
    (inner c = true ∧ decide (97 ≤ (c.toNat : Int)) = false ∧ decide ((c.toNat : Int) ≤ 122) = true ∧ decide (48 ≤ (c.toNat : Int)) = true ∧ decide ((c.toNat : Int) ≤ 57) = true ∧ ((c.toNat : Int) == 95) = false) ∨
    (inner c = true ∧ decide (97 ≤ (c.toNat : Int)) = false ∧ decide ((c.toNat : Int) ≤ 122) = true ∧ decide (48 ≤ (c.toNat : Int)) = true ∧ decide ((c.toNat : Int) ≤ 57) = false ∧ ((c.toNat : Int) == 95) = true) ∨
    (inner c = false ∧ decide (97 ≤ (c.toNat : Int)) = false ∧ decide ((c.toNat : Int) ≤ 122) = true ∧ decide (48 ≤ (c.toNat : Int)) = false ∧ decide ((c.toNat : Int) ≤ 57) = true ∧ ((c.toNat : Int) == 95) = false) ∨
    (inner c = false ∧ decide (97 ≤ (c.toNat : Int)) = false ∧ decide ((c.toNat : Int) ≤ 122) = true ∧ decide (48 ≤ (c.toNat : Int)) = true ∧ decide ((c.toNat : Int) ≤ 57) = false ∧ ((c.toNat : Int) == 95) = false) ∨
    (inner c = false ∧ decide (97 ≤ (c.toNat : Int)) = true ∧ decide ((c.toNat : Int) ≤ 122) = false ∧ decide (48 ≤ (c.toNat : Int)) = true ∧ decide ((c.toNat : Int) ≤ 57) = false ∧ ((c.toNat : Int) == 95) = false) := by
  rcases inner_cases c with ⟨h, h1 | h1 | h1⟩ | ⟨h, h1 | h1 | h1 | h1⟩ <;> simp only [decide_eq_true_eq, decide_eq_false_iff_not, beq_iff_eq, beq_eq_false_iff_ne]
  · exact .inl ⟨h, by omega, by omega, by omega, by omega, by omega⟩
  · exact .inr (.inl ⟨h, by omega, by omega, by omega, by omega, by omega⟩)
  · exact .inr (.inr (.inl ⟨h, by omega, by omega, by omega, by omega, by omega⟩))
  · exact .inr (.inr (.inr (.inl ⟨h, by omega, by omega, by omega, by omega, by omega⟩)))
  · exact .inr (.inr (.inr (.inr (.inl ⟨h, by omega, by omega, by omega, by omega, by omega⟩))))
  · exact .inr (.inr (.inr (.inr (.inl ⟨h, by omega, by omega, by omega, by omega, by omega⟩))))
  · exact .inr (.inr (.inr (.inr (.inr ⟨h, by omega, by omega, by omega, by omega, by omega⟩))))

theorem letter_cases (c : UInt8) : (letter c = true ∧ 97 ≤ (c.toNat : Int) ∧ (c.toNat : Int) ≤ 122) ∨ (letter c = false ∧ ((c.toNat : Int) ≤ 96 ∨ (97 ≤ (c.toNat : Int) ∧ 123 ≤ (c.toNat : Int)))) := by
  cases h : letter c
  · right; refine ⟨rfl, ?_⟩
    unfold letter at h; simp at h; omega
  · left; refine ⟨rfl, ?_⟩
    unfold letter at h; simp at h; omega

theorem below_iter (w : World) (s : ByteArray) (k : Nat) : Below w.heap.size w (w.iter s k) := (Below.refl _ _).alloc (Nat.le_refl _) _

theorem refName_any (s : ByteArray) (hs : s.size ≤ maxLen) (w : World) : Calls Tryz.prog 41 #[.string s] w fun e w' => e = .returned (.bool (name s)) ∧ Below w.heap.size w w' := by
  unfold maxLen at hs
  by_cases h0 : s.size = 0
  · have HN := Lib.hid (name_empty h0)
    have d1 : decide ((s.size : Int) < 1) = true := by simp; omega
    clear h0
    go_enter Tryz.func41, Tryz.ntmps41
    go_wp2_with fail
    go_ret
    exact ⟨ret_bool HN.out.symm, Below.refl _ _⟩
  · have d1 : decide ((s.size : Int) < 1) = false := by simp; omega
    by_cases h1 : 40 < s.size
    · have HN := Lib.hid (name_long h1)
      have d2 : decide (40 < (s.size : Int)) = true := by simp; omega
      go_enter Tryz.func41, Tryz.ntmps41
      go_wp2_with fail
      go_ret
      exact ⟨ret_bool HN.out.symm, Below.refl _ _⟩
    · have h2 : 0 < s.size := by omega
      have d2 : decide (40 < (s.size : Int)) = false := by simp; omega
      have HN := Lib.hid (name_is h2 (by omega))
      clear h0
      rcases letter_cases s[0] with ⟨hl, hl1, hl2⟩ | ⟨hl, hl1 | ⟨hl0, hl1⟩⟩
      · rw [hl, Bool.true_and] at HN
        clear hl
        go_enter Tryz.func41, Tryz.ntmps41
        go_wp2_with fail
        clear hl1 hl2 d1 d2
        go_loopw [3] (fun _ wr => ∃ k : Nat, wr = w.iter s k ∧ k ≤ s.size ∧ (s.data.toList.take k).all inner = true) (fun _ wr => s.size - wr.iterPos w.heap.size)
        case atStart => exact ⟨0, rfl, by omega, rfl⟩
        case round =>
          obtain ⟨k, rfl, hk, ha⟩ := hrel
          have HA := Lib.hid ha
          clear ha
          by_cases hlt : k < s.size
          · have HN2 := Lib.hid (all_take_succ hlt HA.out)
            rcases class_cases s[k] with ⟨hi, c1, c2, c3, c4, c5⟩ | ⟨hi, c1, c2, c3, c4, c5⟩ | ⟨hi, c1, c2, c3, c4, c5⟩ | ⟨hi, c1, c2, c3, c4, c5⟩ | ⟨hi, c1, c2, c3, c4, c5⟩ | ⟨hi, c1, c2, c3, c4, c5⟩
            case' inl | inr.inl | inr.inr.inl =>
              have hnx : ∀ ty, (Instr.next (.pointer (some ⟨w.heap.size, 0, none⟩)) true ty).run Tryz.prog (w.iter s k) = _ := fun ty => run_next_ascii w s k ty hlt (ascii_inner hi)
              have HI := Lib.hid hi
              clear hi
              go_wp2_with fail
              go_roundw
              case rel => exact ⟨k + 1, rfl, by omega, by rw [HN2.out, HI.out]⟩
              case measure => simp; omega
            all_goals
              have hnx : ∀ ty, (Instr.next (.pointer (some ⟨w.heap.size, 0, none⟩)) true ty).run Tryz.prog (w.iter s k) = _ := fun ty => run_next_any w s k ty hlt
              have HF := Lib.hid (all_take_false (by rw [HN2.out, hi]))
              clear hi
              go_wp2_with fail
              go_ret
              exact ⟨ret_bool (by rw [HN.out, HF.out]), below_iter _ _ _⟩
          · obtain rfl : k = s.size := by omega
            have hnx : ∀ ty, (Instr.next (.pointer (some ⟨w.heap.size, 0, none⟩)) true ty).run Tryz.prog (w.iter s s.size) = _ := fun ty => run_next_end w s s.size ty hlt
            have HF : Hid (s.data.toList.all inner = true) := by have := HA.out; rwa [all_take_end] at this
            go_wp2_with fail
            go_ret
            exact ⟨ret_bool (by rw [HN.out, HF.out]), below_iter _ _ _⟩
      · go_enter Tryz.func41, Tryz.ntmps41
        go_wp2_with fail
        go_ret
        exact ⟨ret_bool (by rw [HN.out, hl]; rfl), Below.refl _ _⟩
      · go_enter Tryz.func41, Tryz.ntmps41
        go_wp2_with fail
        go_ret
        exact ⟨ret_bool (by rw [HN.out, hl]; rfl), Below.refl _ _⟩

theorem refVright_any (v : V) (hs : v.s.size ≤ maxLen) (w : World) : Calls Tryz.prog 20 #[ev v] w fun e w' => e = .returned (.bool (vright v)) ∧ Below w.heap.size w w' := by
  obtain ⟨k, n, s⟩ := v
  unfold ev
  simp only at hs ⊢
  have HS := Lib.hid hs
  clear hs
  by_cases h1 : k = 1
  · subst h1
    go_enter Tryz.func20, Tryz.ntmps20
    go_wp2_with fail
    all_goals go_ret
    exact ⟨ret_bool (by simp [vright]), below1 _ _⟩
  · by_cases h2 : k = 2
    · subst h2
      clear h1
      go_enter Tryz.func20, Tryz.ntmps20
      go_wp2_with (go_at_call 40; refine (refRight_any _ _).mono ?_; rintro e w' ⟨rfl, rfl⟩)
      all_goals go_ret
      all_goals exact ⟨ret_bool (by simp [vright, *]), below1 _ _⟩
    · by_cases h3 : k = 3
      · subst h3
        clear h1 h2
        go_enter Tryz.func20, Tryz.ntmps20
        go_wp2_with (go_at_call 41; refine (refName_any _ HS.out _).mono ?_; rintro e w' ⟨rfl, hb⟩)
        all_goals go_ret
        all_goals refine ⟨ret_bool (by simp [vright, *]), ?_⟩
        all_goals first | exact below1 _ _ | exact (below1 w _).trans (hb.mono (by simp))
      · have g1 := beq_eq_false_iff_ne.2 h1
        have g2 := beq_eq_false_iff_ne.2 h2
        have g3 := beq_eq_false_iff_ne.2 h3
        clear h1 h2 h3
        go_enter Tryz.func20, Tryz.ntmps20
        go_wp2_with fail
        all_goals go_ret
        have h1 := beq_eq_false_iff_ne.1 g1
        have h2 := beq_eq_false_iff_ne.1 g2
        have h3 := beq_eq_false_iff_ne.1 g3
        exact ⟨ret_bool (by simp [vright, h1, h2, h3]), below1 _ _⟩

end Go.Proofs.YtolefpeiceiocaaGreat
