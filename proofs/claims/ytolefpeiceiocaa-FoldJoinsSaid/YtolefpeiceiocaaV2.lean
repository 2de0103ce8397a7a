/- THE WALKS OF THE LAYER OF VALUES: how two lie to each other. No condition. -/
import Derived.Test.YtolefpeiceiocaaV1
import Derived.StillTailTactics
import Derived.Test.YtolefpeiceiocaaGr
namespace Go.Proofs.Ytolefpeiceiocaa
open Go.RowKit AnteFlo AnteVal

theorem isNaNInt_any (x : Int) (w : World) : Calls Try.prog 71 #[.int .i64 x] w fun e w' => e = .returned (.bool false) ∧ w = w' := by
  go_enter Try.func71, Try.ntmps71
  go_wp2
  go_ret
  exact ⟨by simp, rfl⟩

theorem isNaNInt64_any (x : Int) (w : World) : Calls Try.prog 72 #[.int .i64 x] w fun e w' => e = .returned (.bool false) ∧ w = w' := by
  go_enter Try.func72, Try.ntmps72
  go_wp2
  go_ret
  exact ⟨by simp, rfl⟩

theorem cmpInt_any (x y : Int) (w : World) : Calls Try.prog 52 #[.int .i64 x, .int .i64 y] w fun e w' => e = .returned (.int .i64 (ncmp x y)) ∧ w' = w := by
  rcases Int.lt_trichotomy x y with h | h | h
  · have HN : Hid (ncmp x y = -1) := by show ncmp x y = -1; unfold ncmp; rw [if_pos h]
    go_enter Try.func52, Try.ntmps52
    go_wp2_with (go_at_call 71; refine (isNaNInt_any _ _).mono ?_; rintro e w' ⟨rfl, rfl⟩)
    go_ret
    exact ⟨ret_int HN.out.symm, rfl⟩
  · have HN : Hid (ncmp x y = 0) := by show ncmp x y = 0; unfold ncmp; rw [if_neg (by omega), if_neg (by omega)]
    have h1 : (x < y) = False := eq_false (by omega)
    have h2 : (y < x) = False := eq_false (by omega)
    clear h
    go_enter Try.func52, Try.ntmps52
    go_wp2_with (go_at_call 71; refine (isNaNInt_any _ _).mono ?_; rintro e w' ⟨rfl, rfl⟩)
    go_ret
    exact ⟨ret_int HN.out.symm, rfl⟩
  · have HN : Hid (ncmp x y = 1) := by show ncmp x y = 1; unfold ncmp; rw [if_neg (by omega), if_pos h]
    have h1 : (x < y) = False := eq_false (by omega)
    go_enter Try.func52, Try.ntmps52
    go_wp2_with (go_at_call 71; refine (isNaNInt_any _ _).mono ?_; rintro e w' ⟨rfl, rfl⟩)
    go_ret
    exact ⟨ret_int HN.out.symm, rfl⟩

theorem cmpInt64_any (x y : Int) (w : World) : Calls Try.prog 53 #[.int .i64 x, .int .i64 y] w fun e w' => e = .returned (.int .i64 (ncmp x y)) ∧ w' = w := by
  rcases Int.lt_trichotomy x y with h | h | h
  · have HN : Hid (ncmp x y = -1) := by show ncmp x y = -1; unfold ncmp; rw [if_pos h]
    go_enter Try.func53, Try.ntmps53
    go_wp2_with (go_at_call 72; refine (isNaNInt64_any _ _).mono ?_; rintro e w' ⟨rfl, rfl⟩)
    go_ret
    exact ⟨ret_int HN.out.symm, rfl⟩
  · have HN : Hid (ncmp x y = 0) := by show ncmp x y = 0; unfold ncmp; rw [if_neg (by omega), if_neg (by omega)]
    have h1 : (x < y) = False := eq_false (by omega)
    have h2 : (y < x) = False := eq_false (by omega)
    clear h
    go_enter Try.func53, Try.ntmps53
    go_wp2_with (go_at_call 72; refine (isNaNInt64_any _ _).mono ?_; rintro e w' ⟨rfl, rfl⟩)
    go_ret
    exact ⟨ret_int HN.out.symm, rfl⟩
  · have HN : Hid (ncmp x y = 1) := by show ncmp x y = 1; unfold ncmp; rw [if_neg (by omega), if_pos h]
    have h1 : (x < y) = False := eq_false (by omega)
    go_enter Try.func53, Try.ntmps53
    go_wp2_with (go_at_call 72; refine (isNaNInt64_any _ _).mono ?_; rintro e w' ⟨rfl, rfl⟩)
    go_ret
    exact ⟨ret_int HN.out.symm, rfl⟩

theorem cmpstring_run (a b : ByteArray) (w : World) : (callFunc 94 #[.string a, .string b]).run Try.prog w = .ok (.value (.int .i64 (scmp a.toList b.toList))) w := by
  rw [run_callFunc_extern (e := Extern.BytealgCompare.compare) Try.func94 (by kernel_rfl) (by kernel_rfl) (by kernel_rfl) (by kernel_rfl), Lib.run_compareString]
  rw [compare_eq, ByteArray.toList_eq, ByteArray.toList_eq]; rfl

theorem compareString_any (a b : ByteArray) (w : World) : Calls Try.prog 73 #[.string a, .string b] w fun e w' => e = .returned (.int .i64 (scmp a.toList b.toList)) ∧ w' = w := by
  have h := cmpstring_run
  go_enter Try.func73, Try.ntmps73
  go_wp2
  go_ret
  exact ⟨rfl, rfl⟩

theorem stringsCompare_any (a b : ByteArray) (w : World) : Calls Try.prog 54 #[.string a, .string b] w fun e w' => e = .returned (.int .i64 (scmp a.toList b.toList)) ∧ w' = w := by
  go_enter Try.func54, Try.ntmps54
  go_wp2_with (go_at_call 73; refine (compareString_any _ _ _).mono ?_; rintro e w' ⟨rfl, rfl⟩)
  go_ret
  exact ⟨rfl, rfl⟩

theorem orInt_any (b : Nat) (x y z : Int) (w : World) (h0 : w.cell? ⟨b, 0, none⟩ = some (.int .i64 x)) (h1 : w.cell? ⟨b, 1, none⟩ = some (.int .i64 y)) (h2 : w.cell? ⟨b, 2, none⟩ = some (.int .i64 z)) :
    Calls Try.prog 51 #[.slice (some ⟨b, 0, none⟩) 3 3] w fun e w' => e = .returned (.int .i64 (orz x (orz y z))) ∧ w' = w := by
  by_cases hx : x = 0
  · subst hx
    by_cases hy : y = 0
    · subst hy
      by_cases hz : z = 0
      · subst hz
        go_enter Try.func51, Try.ntmps51
        go_wp2_with fail
        go_rounds 4
        go_ret
        exact ⟨ret_int (by rfl), rfl⟩
      · have gz : (z != 0) = true := bne_iff_ne.2 hz
        clear hz
        go_enter Try.func51, Try.ntmps51
        go_wp2_with fail
        go_rounds 4
        go_ret
        exact ⟨ret_int (by simp [orz]), rfl⟩
    · have gy : (y != 0) = true := bne_iff_ne.2 hy
      have HY := Lib.hid hy
      clear hy
      go_enter Try.func51, Try.ntmps51
      go_wp2_with fail
      go_rounds 4
      go_ret
      exact ⟨ret_int (by have := HY.out; simp [orz, this]), rfl⟩
  · have gx : (x != 0) = true := bne_iff_ne.2 hx
    have HX := Lib.hid hx
    clear hx
    go_enter Try.func51, Try.ntmps51
    go_wp2_with fail
    go_rounds 4
    go_ret
    exact ⟨ret_int (by have := HX.out; simp [orz, this]), rfl⟩

/-- two values, each in a box of its own -/
structure Boxes (w W : World) (a b : V) : Prop where
  a0 : W.cell? ⟨w.heap.size, 0, none⟩ = some (.int .i64 a.k)
  a1 : W.cell? ⟨w.heap.size, 1, none⟩ = some (.int .i64 a.n)
  a2 : W.cell? ⟨w.heap.size, 2, none⟩ = some (.string a.s)
  b0 : W.cell? ⟨w.heap.size + 1, 0, none⟩ = some (.int .i64 b.k)
  b1 : W.cell? ⟨w.heap.size + 1, 1, none⟩ = some (.int .i64 b.n)
  b2 : W.cell? ⟨w.heap.size + 1, 2, none⟩ = some (.string b.s)
  size : W.heap.size = w.heap.size + 2
  below : Below w.heap.size w W
  gr : Grown w W

theorem boxes_drew (w : World) (a b : V) (T : TypeId) : Boxes w ((w.alloc (.cells #[.int .i64 a.k, .int .i64 a.n, .string a.s] T)).alloc (.cells #[.int .i64 b.k, .int .i64 b.n, .string b.s] T)).drew a b :=
  ⟨by simp, by simp, by simp, by simp, by simp, by simp, by simp, ((((Below.refl _ _).alloc (Nat.le_refl _) _).alloc (by simp) _).drew), ((((Grown.refl _).alloc _).alloc _).drew)⟩

set_option maxRecDepth 100000 in
theorem compare_any (a b : V) (w : World) : Calls Try.prog 28 #[ev a, ev b] w fun e w' => e = .returned (.int .i64 (vcmp a b)) ∧ Grown w w' := by
  have hB := boxes_drew w a b 27
  obtain ⟨k, n, s⟩ := a
  obtain ⟨k', n', s'⟩ := b
  unfold ev
  simp only at hB ⊢
  have HB := Lib.hid hB
  clear hB
  go_enter Try.func28, Try.ntmps28
  go_wp2_with fail
  refine wp_region_still_tail 15 (by kernel_rfl) (by kernel_rfl) ?_
  simp only [List.take_succ_cons, List.take_zero, List.drop_succ_cons, List.drop_zero]
  change wpStill _ _ (World.drew _) (fun a' => wpList _ _ _ _ a' (World.drew _)) _ _
  revert HB
  generalize ((w.alloc (.cells #[.int .i64 k, .int .i64 n, .string s] 27)).alloc (.cells #[.int .i64 k', .int .i64 n', .string s'] 27)).drew = W
  intro HB
  obtain ⟨a0, a1, a2, b0, b1, b2, hsz, _, hbel⟩ := HB.out
  have HS := Lib.hid hsz
  have HBel := Lib.hid hbel
  clear HB hsz hbel
  simp only at a0 a1 a2 b0 b1 b2
  repeat still_step
  still_call (cmpInt_any _ _ _)
  repeat still_step
  still_call (cmpInt64_any _ _ _)
  repeat still_step
  still_call (stringsCompare_any _ _ _)
  repeat still_step
  refine wpStill_nil ?_
  clear a0 a1 a2 b0 b1 b2
  go_wp2_with fail
  refine (orInt_any W.heap.size (ncmp k k') (ncmp n n') (scmp s.toList s'.toList) _ (by simp) (by simp) (by simp)).mono ?_; rintro e w' ⟨rfl, rfl⟩
  go_wp2_with fail
  go_ret
  exact ⟨rfl, HBel.out.alloc _⟩

end Go.Proofs.Ytolefpeiceiocaa
