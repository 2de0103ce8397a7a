/- THE WALK OF ops.Reckon, where what comes out does not fit. No condition. -/
import Derived.Test.YtcoidmkaddnkdaaO3
namespace Go.Proofs.Ytcoidmkaddnkdaa
open Go.RowKit AnteFlo AnteVal AnteOps

set_option maxHeartbeats 800000 in
theorem reckon_not_add (a b : V) (ha : a.s.size ≤ maxLen) (hb : b.s.size ≤ maxLen) (na : -9223372036854775808 ≤ a.n ∧ a.n ≤ 9223372036854775807) (nb : -9223372036854775808 ≤ b.n ∧ b.n ≤ 9223372036854775807) (ra : vright a = true) (rb : vright b = true) (hk : (a.k != b.k) = false) (hk3 : (a.k == 3) = false) (hk2 : (a.k == 2) = false) (hf : fits (a.n + b.n) = false) (w : World) :
    Calls Try.prog 10 #[.string ⟨#[43]⟩, ev a, ev b] w fun e w' => e = .returned (.tuple #[ev vnil, .int .i64 10]) ∧ Below w.heap.size w w' := by
  have HA := Lib.hid ha
  have HB := Lib.hid hb
  have NA := Lib.hid na
  have NB := Lib.hid nb
  clear ha hb na nb
  have hs := start_is w a b
  unfold start at hs
  obtain ⟨k, n, s⟩ := a
  obtain ⟨k', n', s'⟩ := b
  unfold ev
  simp only at hs HA HB NA NB ra rb hk hk3 hk2 hf ⊢
  have hmf : ∀ (fn : Fn) (first cap : Array Value) (w : World), (Instr.makeFunc fn first cap).run Try.prog w = .ok (.func fn first cap) w := fun _ _ _ _ => rfl
  have HS := Lib.hid hs
  clear hs
  go_enter_defers Try.func10, Try.ntmps10
  go_wp2_with fail
  revert HS
  generalize (((w.alloc (.cells #[.int .i64 k, .int .i64 n, .string s] 23)).alloc (.cells #[.int .i64 k', .int .i64 n', .string s'] 23)).alloc
    (.cells #[.int .i64 0, .int .i64 0, .string ⟨#[]⟩] 23)).alloc (.cells #[.int .i64 0] 25) = W
  intro HS
  have m0 : (Instr.makeMap 40 none).run Try.prog W = .ok (.map (some W.heap.size)) (W.alloc (.map #[] 0)) := run_makeMap 40 W
  have i1 : (Instr.mapUpdate 40 (.map (some W.heap.size)) (.string ⟨#[43]⟩) (.func (.func 20) #[] #[])).run Try.prog (W.alloc (.map #[] 0)) = .ok () (W.alloc (.map #[ent 43 20 0] 1)) := insert_last W #[] 0 ⟨#[43]⟩ _ rfl
  have i2 : (Instr.mapUpdate 40 (.map (some W.heap.size)) (.string ⟨#[45]⟩) (.func (.func 21) #[] #[])).run Try.prog (W.alloc (.map #[ent 43 20 0] 1)) = .ok () (W.alloc (.map #[ent 43 20 0, ent 45 21 1] 2)) := insert_last W _ 1 ⟨#[45]⟩ _ rfl
  have i3 : (Instr.mapUpdate 40 (.map (some W.heap.size)) (.string ⟨#[42]⟩) (.func (.func 22) #[] #[])).run Try.prog (W.alloc (.map #[ent 43 20 0, ent 45 21 1] 2)) = .ok () (W.alloc (.map #[ent 43 20 0, ent 45 21 1, ent 42 22 2] 3)) := insert_last W _ 2 ⟨#[42]⟩ _ rfl
  go_simp
  go_wp2_with fail
  clear m0 i1 i2 i3
  have HS2 : Hid (RS w.heap.size ⟨k, n, s⟩ ⟨k', n', s'⟩ (W.alloc (.map (table 20 21 22) 3)) ∧ (W.alloc (.map (table 20 21 22) 3)).heap.size = w.heap.size + 5 ∧ Below w.heap.size w (W.alloc (.map (table 20 21 22) 3)) ∧
      (W.alloc (.map (table 20 21 22) 3)).heap[w.heap.size + 1 + 1 + 1 + 1]? = some (.map (table 20 21 22) 3)) := by
    obtain ⟨h1, h2, h3⟩ := HS.out
    refine ⟨h1.below ((Below.refl W.heap.size W).alloc (Nat.le_refl _) _) (by omega), by simp; omega, h3.alloc (by omega) _, ?_⟩
    rw [show w.heap.size + 1 + 1 + 1 + 1 = W.heap.size by omega]; exact (MapKept.heap_alloc W _).1
  have hsz : W.heap.size = w.heap.size + 1 + 1 + 1 + 1 := HS.out.2.1
  rw [hsz]
  clear HS hsz
  revert HS2
  unfold table
  generalize W.alloc (.map #[ent 43 20 0, ent 45 21 1, ent 42 22 2] 3) = W2
  intro HS2
  have m0 : (Instr.makeMap 40 none).run Try.prog W2 = .ok (.map (some W2.heap.size)) (W2.alloc (.map #[] 0)) := run_makeMap 40 W2
  have i1 : (Instr.mapUpdate 40 (.map (some W2.heap.size)) (.string ⟨#[43]⟩) (.func (.func 16) #[] #[])).run Try.prog (W2.alloc (.map #[] 0)) = .ok () (W2.alloc (.map #[ent 43 16 0] 1)) := insert_last W2 #[] 0 ⟨#[43]⟩ _ rfl
  have i2 : (Instr.mapUpdate 40 (.map (some W2.heap.size)) (.string ⟨#[45]⟩) (.func (.func 17) #[] #[])).run Try.prog (W2.alloc (.map #[ent 43 16 0] 1)) = .ok () (W2.alloc (.map #[ent 43 16 0, ent 45 17 1] 2)) := insert_last W2 _ 1 ⟨#[45]⟩ _ rfl
  have i3 : (Instr.mapUpdate 40 (.map (some W2.heap.size)) (.string ⟨#[42]⟩) (.func (.func 18) #[] #[])).run Try.prog (W2.alloc (.map #[ent 43 16 0, ent 45 17 1] 2)) = .ok () (W2.alloc (.map #[ent 43 16 0, ent 45 17 1, ent 42 18 2] 3)) := insert_last W2 _ 2 ⟨#[42]⟩ _ rfl
  go_simp
  go_wp2_with fail
  clear m0 i1 i2 i3
  have HS3 : Hid (RT w.heap.size ⟨k, n, s⟩ ⟨k', n', s'⟩ (W2.alloc (.map (table 16 17 18) 3)) ∧ Below w.heap.size w (W2.alloc (.map (table 16 17 18) 3))) := by
    obtain ⟨h1, h2, h3, h4⟩ := HS2.out
    have hb : Below W2.heap.size W2 (W2.alloc (.map (table 16 17 18) 3)) := (Below.refl W2.heap.size W2).alloc (Nat.le_refl _) _
    refine ⟨⟨h1.below hb (by omega), by simp; omega, (hb.block _ (by omega)).trans h4, ?_⟩, h3.alloc (by omega) _⟩
    rw [show w.heap.size + 1 + 1 + 1 + 1 + 1 = W2.heap.size by omega]; exact (MapKept.heap_alloc W2 _).1
  have hsz : W2.heap.size = w.heap.size + 1 + 1 + 1 + 1 + 1 := HS2.out.2.1
  rw [hsz]
  clear HS2 hsz
  revert HS3
  unfold table
  generalize W2.alloc (.map #[ent 43 16 0, ent 45 17 1, ent 42 18 2] 3) = W3
  intro HS3
  have HF := Lib.hid hf
  clear hf
  have l1 : (Instr.lookup 40 (.map (some (w.heap.size + 1 + 1 + 1 + 1))) (.string ⟨#[43]⟩) false).run Try.prog W3 = .ok (.func (.func 20) #[] #[]) W3 := lookup_at W3 _ _ _ HS3.out.1.m1 _ _ 0 rfl
  have q1 : ∀ w, (binOp .eql 35 (.func (.func 20) #[] #[]) .nilFunc).run Try.prog w = .ok (.bool false) w := fun _ => by rfl
  obtain ⟨⟨a0, a1, a2, b0, b1, b2, v0, v1, v2, e0, fv0, fv1, fv2, fe0⟩, hsz, m1, m2⟩ := HS3.out.1
  have HSZ := Lib.hid hsz
  have M1 := Lib.hid m1
  have M2 := Lib.hid m2
  clear hsz m1 m2
  go_wp2_with fail
  refine (vright_any ⟨k, n, s⟩ HA.out _).mono ?_; rintro e W4 ⟨rfl, hb⟩
  have HS4 := Lib.hid (RT.next HS3.out hb)
  clear hb
  clear a0 a1 a2 b0 b1 b2 v0 v1 v2 e0 fv0 fv1 fv2 fe0 HSZ M1 M2
  obtain ⟨⟨a0, a1, a2, b0, b1, b2, v0, v1, v2, e0, fv0, fv1, fv2, fe0⟩, hsz, m1, m2⟩ := HS4.out.1
  have HSZ := Lib.hid hsz
  have M1 := Lib.hid m1
  have M2 := Lib.hid m2
  clear hsz m1 m2
  go_wp2_with fail
  refine (vright_any ⟨k', n', s'⟩ HB.out _).mono ?_; rintro e W5 ⟨rfl, hb⟩
  have HS5 := Lib.hid (RT.next HS4.out hb)
  clear hb
  clear a0 a1 a2 b0 b1 b2 v0 v1 v2 e0 fv0 fv1 fv2 fe0 HSZ M1 M2
  obtain ⟨⟨a0, a1, a2, b0, b1, b2, v0, v1, v2, e0, fv0, fv1, fv2, fe0⟩, hsz, m1, m2⟩ := HS5.out.1
  have HSZ := Lib.hid hsz
  have M1 := Lib.hid m1
  have M2 := Lib.hid m2
  clear hsz m1 m2
  clear l1 q1
  go_wp2_with fail
  refine Code.wp_mono (Q := fun e a u => e = .panic [{ v := .iface 25 (.int .i64 10), recovered := false }] ∧ a.tmps[6]?.getD undef = .pointer (some ⟨w.heap.size + 1 + 1, 0, none⟩) ∧ a.tmps[7]?.getD undef = .pointer (some ⟨w.heap.size + 1 + 1 + 1, 0, none⟩) ∧
    a.defers = [{ target := .fn (.func 24) #[.pointer (some ⟨w.heap.size + 1 + 1, 0, none⟩), .pointer (some ⟨w.heap.size + 1 + 1 + 1, 0, none⟩)], args := #[] }] ∧ u = W5.drew) ?_ ?_
  · rintro e a u ⟨rfl, h6, h7, h8, rfl⟩
    change Leaves Try.prog Try.f10 a.tmps _ a.defers _ _
    rw [h8]
    exact door_over (W := W5.drew) h6 h7 v0 v1 v2 e0 fv0 fv1 fv2 fe0 HS5.out.2.drew (Nat.le_refl _)
  refine wp_region_held_drew (S := fun w' => w'.cell? ⟨w.heap.size, 0, none⟩ = some (.int .i64 k) ∧ w'.cell? ⟨w.heap.size, 1, none⟩ = some (.int .i64 n) ∧ w'.cell? ⟨w.heap.size + 1, 1, none⟩ = some (.int .i64 n')) (by kernel_rfl) ⟨a0, a1, b1⟩ (fun hS => ?_)
  refine wpAnyH_take (i := 0) (v := ?_) rfl (by kernel_rfl) (by kernel_rfl) (by kernel_rfl) (by intro c a w h; simpa [Act.put] using h) (Or.inl ⟨by rfl, ?_⟩) (by assumption) ?_
  rotate_left
  · intro w hSw
    (try dsimp only at hSw)
    (go_simp)
    (try with_reducible rfl)
  try simp only [Act.put, List.setIfInBounds_toArray]
  refine wpAnyH_take (i := 1) (v := ?_) rfl (by kernel_rfl) (by kernel_rfl) (by kernel_rfl) (by intro c a w h; simpa [Act.put] using h) (Or.inl ⟨by rfl, ?_⟩) (by assumption) ?_
  rotate_left
  · intro w hSw
    (try dsimp only at hSw)
    (go_simp)
    (try with_reducible rfl)
  try simp only [Act.put]
  refine wpAnyH_take (i := 2) (v := ?_) rfl (by kernel_rfl) (by kernel_rfl) (by kernel_rfl) (by intro c a w h; simpa [Act.put] using h) (Or.inl ⟨by rfl, ?_⟩) (by assumption) ?_
  rotate_left
  · intro w hSw
    (try dsimp only at hSw)
    (go_simp)
    (try with_reducible rfl)
  try simp only [Act.put]
  refine wpAnyH_take (i := 3) (v := ?_) rfl (by kernel_rfl) (by kernel_rfl) (by kernel_rfl) (by intro c a w h; simpa [Act.put] using h) (Or.inl ⟨by rfl, ?_⟩) (by assumption) ?_
  rotate_left
  · intro w hSw
    (try dsimp only at hSw)
    (go_simp)
    (try with_reducible rfl)
  try simp only [Act.put]
  refine wpAnyH_take (i := 4) (v := ?_) rfl (by kernel_rfl) (by kernel_rfl) (by kernel_rfl) (by intro c a w h; simpa [Act.put] using h) (Or.inl ⟨by rfl, ?_⟩) (by assumption) ?_
  rotate_left
  · intro w hSw
    (try dsimp only at hSw)
    (go_simp)
    (try with_reducible rfl)
  try simp only [Act.put]
  refine wpAnyH_take (i := 5) (v := ?_) rfl (by kernel_rfl) (by kernel_rfl) (by kernel_rfl) (by intro c a w h; simpa [Act.put] using h) (Or.inl ⟨by rfl, ?_⟩) (by assumption) ?_
  rotate_left
  · intro w hSw
    (try dsimp only at hSw)
    (go_simp)
    (try with_reducible rfl)
  try simp only [Act.put]
  refine wpAnyH_take (i := 6) (v := ?_) rfl (by kernel_rfl) (by kernel_rfl) (by kernel_rfl) (by intro c a w h; simpa [Act.put] using h) (Or.inl ⟨by rfl, ?_⟩) (by assumption) ?_
  rotate_left
  · intro w hSw
    (try dsimp only at hSw)
    (go_simp)
    (try with_reducible rfl)
  try simp only [Act.put]
  refine wpAnyH_ready (rs := [7]) (by kernel_rfl) (by simp) ?_
  refine AllReadyH.cons rfl (fun K hK => ?_) AllReadyH.nil
  go_simp
  go_at_call 20
  refine (sum_not NA.out NB.out HF.out _).mono ?_
  rintro e w' ⟨rfl, rfl⟩
  simp [over]

set_option maxHeartbeats 800000 in
theorem reckon_not_sub (a b : V) (ha : a.s.size ≤ maxLen) (hb : b.s.size ≤ maxLen) (na : -9223372036854775808 ≤ a.n ∧ a.n ≤ 9223372036854775807) (nb : -9223372036854775808 ≤ b.n ∧ b.n ≤ 9223372036854775807) (ra : vright a = true) (rb : vright b = true) (hk : (a.k != b.k) = false) (hk3 : (a.k == 3) = false) (hk2 : (a.k == 2) = false) (hf : fits (a.n - b.n) = false) (w : World) :
    Calls Try.prog 10 #[.string ⟨#[45]⟩, ev a, ev b] w fun e w' => e = .returned (.tuple #[ev vnil, .int .i64 10]) ∧ Below w.heap.size w w' := by
  have HA := Lib.hid ha
  have HB := Lib.hid hb
  have NA := Lib.hid na
  have NB := Lib.hid nb
  clear ha hb na nb
  have hs := start_is w a b
  unfold start at hs
  obtain ⟨k, n, s⟩ := a
  obtain ⟨k', n', s'⟩ := b
  unfold ev
  simp only at hs HA HB NA NB ra rb hk hk3 hk2 hf ⊢
  have hmf : ∀ (fn : Fn) (first cap : Array Value) (w : World), (Instr.makeFunc fn first cap).run Try.prog w = .ok (.func fn first cap) w := fun _ _ _ _ => rfl
  have HS := Lib.hid hs
  clear hs
  go_enter_defers Try.func10, Try.ntmps10
  go_wp2_with fail
  revert HS
  generalize (((w.alloc (.cells #[.int .i64 k, .int .i64 n, .string s] 23)).alloc (.cells #[.int .i64 k', .int .i64 n', .string s'] 23)).alloc
    (.cells #[.int .i64 0, .int .i64 0, .string ⟨#[]⟩] 23)).alloc (.cells #[.int .i64 0] 25) = W
  intro HS
  have m0 : (Instr.makeMap 40 none).run Try.prog W = .ok (.map (some W.heap.size)) (W.alloc (.map #[] 0)) := run_makeMap 40 W
  have i1 : (Instr.mapUpdate 40 (.map (some W.heap.size)) (.string ⟨#[43]⟩) (.func (.func 20) #[] #[])).run Try.prog (W.alloc (.map #[] 0)) = .ok () (W.alloc (.map #[ent 43 20 0] 1)) := insert_last W #[] 0 ⟨#[43]⟩ _ rfl
  have i2 : (Instr.mapUpdate 40 (.map (some W.heap.size)) (.string ⟨#[45]⟩) (.func (.func 21) #[] #[])).run Try.prog (W.alloc (.map #[ent 43 20 0] 1)) = .ok () (W.alloc (.map #[ent 43 20 0, ent 45 21 1] 2)) := insert_last W _ 1 ⟨#[45]⟩ _ rfl
  have i3 : (Instr.mapUpdate 40 (.map (some W.heap.size)) (.string ⟨#[42]⟩) (.func (.func 22) #[] #[])).run Try.prog (W.alloc (.map #[ent 43 20 0, ent 45 21 1] 2)) = .ok () (W.alloc (.map #[ent 43 20 0, ent 45 21 1, ent 42 22 2] 3)) := insert_last W _ 2 ⟨#[42]⟩ _ rfl
  go_simp
  go_wp2_with fail
  clear m0 i1 i2 i3
  have HS2 : Hid (RS w.heap.size ⟨k, n, s⟩ ⟨k', n', s'⟩ (W.alloc (.map (table 20 21 22) 3)) ∧ (W.alloc (.map (table 20 21 22) 3)).heap.size = w.heap.size + 5 ∧ Below w.heap.size w (W.alloc (.map (table 20 21 22) 3)) ∧
      (W.alloc (.map (table 20 21 22) 3)).heap[w.heap.size + 1 + 1 + 1 + 1]? = some (.map (table 20 21 22) 3)) := by
    obtain ⟨h1, h2, h3⟩ := HS.out
    refine ⟨h1.below ((Below.refl W.heap.size W).alloc (Nat.le_refl _) _) (by omega), by simp; omega, h3.alloc (by omega) _, ?_⟩
    rw [show w.heap.size + 1 + 1 + 1 + 1 = W.heap.size by omega]; exact (MapKept.heap_alloc W _).1
  have hsz : W.heap.size = w.heap.size + 1 + 1 + 1 + 1 := HS.out.2.1
  rw [hsz]
  clear HS hsz
  revert HS2
  unfold table
  generalize W.alloc (.map #[ent 43 20 0, ent 45 21 1, ent 42 22 2] 3) = W2
  intro HS2
  have m0 : (Instr.makeMap 40 none).run Try.prog W2 = .ok (.map (some W2.heap.size)) (W2.alloc (.map #[] 0)) := run_makeMap 40 W2
  have i1 : (Instr.mapUpdate 40 (.map (some W2.heap.size)) (.string ⟨#[43]⟩) (.func (.func 16) #[] #[])).run Try.prog (W2.alloc (.map #[] 0)) = .ok () (W2.alloc (.map #[ent 43 16 0] 1)) := insert_last W2 #[] 0 ⟨#[43]⟩ _ rfl
  have i2 : (Instr.mapUpdate 40 (.map (some W2.heap.size)) (.string ⟨#[45]⟩) (.func (.func 17) #[] #[])).run Try.prog (W2.alloc (.map #[ent 43 16 0] 1)) = .ok () (W2.alloc (.map #[ent 43 16 0, ent 45 17 1] 2)) := insert_last W2 _ 1 ⟨#[45]⟩ _ rfl
  have i3 : (Instr.mapUpdate 40 (.map (some W2.heap.size)) (.string ⟨#[42]⟩) (.func (.func 18) #[] #[])).run Try.prog (W2.alloc (.map #[ent 43 16 0, ent 45 17 1] 2)) = .ok () (W2.alloc (.map #[ent 43 16 0, ent 45 17 1, ent 42 18 2] 3)) := insert_last W2 _ 2 ⟨#[42]⟩ _ rfl
  go_simp
  go_wp2_with fail
  clear m0 i1 i2 i3
  have HS3 : Hid (RT w.heap.size ⟨k, n, s⟩ ⟨k', n', s'⟩ (W2.alloc (.map (table 16 17 18) 3)) ∧ Below w.heap.size w (W2.alloc (.map (table 16 17 18) 3))) := by
    obtain ⟨h1, h2, h3, h4⟩ := HS2.out
    have hb : Below W2.heap.size W2 (W2.alloc (.map (table 16 17 18) 3)) := (Below.refl W2.heap.size W2).alloc (Nat.le_refl _) _
    refine ⟨⟨h1.below hb (by omega), by simp; omega, (hb.block _ (by omega)).trans h4, ?_⟩, h3.alloc (by omega) _⟩
    rw [show w.heap.size + 1 + 1 + 1 + 1 + 1 = W2.heap.size by omega]; exact (MapKept.heap_alloc W2 _).1
  have hsz : W2.heap.size = w.heap.size + 1 + 1 + 1 + 1 + 1 := HS2.out.2.1
  rw [hsz]
  clear HS2 hsz
  revert HS3
  unfold table
  generalize W2.alloc (.map #[ent 43 16 0, ent 45 17 1, ent 42 18 2] 3) = W3
  intro HS3
  have HF := Lib.hid hf
  clear hf
  have l1 : (Instr.lookup 40 (.map (some (w.heap.size + 1 + 1 + 1 + 1))) (.string ⟨#[45]⟩) false).run Try.prog W3 = .ok (.func (.func 21) #[] #[]) W3 := lookup_at W3 _ _ _ HS3.out.1.m1 _ _ 1 rfl
  have q1 : ∀ w, (binOp .eql 35 (.func (.func 21) #[] #[]) .nilFunc).run Try.prog w = .ok (.bool false) w := fun _ => by rfl
  obtain ⟨⟨a0, a1, a2, b0, b1, b2, v0, v1, v2, e0, fv0, fv1, fv2, fe0⟩, hsz, m1, m2⟩ := HS3.out.1
  have HSZ := Lib.hid hsz
  have M1 := Lib.hid m1
  have M2 := Lib.hid m2
  clear hsz m1 m2
  go_wp2_with fail
  refine (vright_any ⟨k, n, s⟩ HA.out _).mono ?_; rintro e W4 ⟨rfl, hb⟩
  have HS4 := Lib.hid (RT.next HS3.out hb)
  clear hb
  clear a0 a1 a2 b0 b1 b2 v0 v1 v2 e0 fv0 fv1 fv2 fe0 HSZ M1 M2
  obtain ⟨⟨a0, a1, a2, b0, b1, b2, v0, v1, v2, e0, fv0, fv1, fv2, fe0⟩, hsz, m1, m2⟩ := HS4.out.1
  have HSZ := Lib.hid hsz
  have M1 := Lib.hid m1
  have M2 := Lib.hid m2
  clear hsz m1 m2
  go_wp2_with fail
  refine (vright_any ⟨k', n', s'⟩ HB.out _).mono ?_; rintro e W5 ⟨rfl, hb⟩
  have HS5 := Lib.hid (RT.next HS4.out hb)
  clear hb
  clear a0 a1 a2 b0 b1 b2 v0 v1 v2 e0 fv0 fv1 fv2 fe0 HSZ M1 M2
  obtain ⟨⟨a0, a1, a2, b0, b1, b2, v0, v1, v2, e0, fv0, fv1, fv2, fe0⟩, hsz, m1, m2⟩ := HS5.out.1
  have HSZ := Lib.hid hsz
  have M1 := Lib.hid m1
  have M2 := Lib.hid m2
  clear hsz m1 m2
  clear l1 q1
  go_wp2_with fail
  refine Code.wp_mono (Q := fun e a u => e = .panic [{ v := .iface 25 (.int .i64 10), recovered := false }] ∧ a.tmps[6]?.getD undef = .pointer (some ⟨w.heap.size + 1 + 1, 0, none⟩) ∧ a.tmps[7]?.getD undef = .pointer (some ⟨w.heap.size + 1 + 1 + 1, 0, none⟩) ∧
    a.defers = [{ target := .fn (.func 24) #[.pointer (some ⟨w.heap.size + 1 + 1, 0, none⟩), .pointer (some ⟨w.heap.size + 1 + 1 + 1, 0, none⟩)], args := #[] }] ∧ u = W5.drew) ?_ ?_
  · rintro e a u ⟨rfl, h6, h7, h8, rfl⟩
    change Leaves Try.prog Try.f10 a.tmps _ a.defers _ _
    rw [h8]
    exact door_over (W := W5.drew) h6 h7 v0 v1 v2 e0 fv0 fv1 fv2 fe0 HS5.out.2.drew (Nat.le_refl _)
  refine wp_region_held_drew (S := fun w' => w'.cell? ⟨w.heap.size, 0, none⟩ = some (.int .i64 k) ∧ w'.cell? ⟨w.heap.size, 1, none⟩ = some (.int .i64 n) ∧ w'.cell? ⟨w.heap.size + 1, 1, none⟩ = some (.int .i64 n')) (by kernel_rfl) ⟨a0, a1, b1⟩ (fun hS => ?_)
  refine wpAnyH_take (i := 0) (v := ?_) rfl (by kernel_rfl) (by kernel_rfl) (by kernel_rfl) (by intro c a w h; simpa [Act.put] using h) (Or.inl ⟨by rfl, ?_⟩) (by assumption) ?_
  rotate_left
  · intro w hSw
    (try dsimp only at hSw)
    (go_simp)
    (try with_reducible rfl)
  try simp only [Act.put, List.setIfInBounds_toArray]
  refine wpAnyH_take (i := 1) (v := ?_) rfl (by kernel_rfl) (by kernel_rfl) (by kernel_rfl) (by intro c a w h; simpa [Act.put] using h) (Or.inl ⟨by rfl, ?_⟩) (by assumption) ?_
  rotate_left
  · intro w hSw
    (try dsimp only at hSw)
    (go_simp)
    (try with_reducible rfl)
  try simp only [Act.put]
  refine wpAnyH_take (i := 2) (v := ?_) rfl (by kernel_rfl) (by kernel_rfl) (by kernel_rfl) (by intro c a w h; simpa [Act.put] using h) (Or.inl ⟨by rfl, ?_⟩) (by assumption) ?_
  rotate_left
  · intro w hSw
    (try dsimp only at hSw)
    (go_simp)
    (try with_reducible rfl)
  try simp only [Act.put]
  refine wpAnyH_take (i := 3) (v := ?_) rfl (by kernel_rfl) (by kernel_rfl) (by kernel_rfl) (by intro c a w h; simpa [Act.put] using h) (Or.inl ⟨by rfl, ?_⟩) (by assumption) ?_
  rotate_left
  · intro w hSw
    (try dsimp only at hSw)
    (go_simp)
    (try with_reducible rfl)
  try simp only [Act.put]
  refine wpAnyH_take (i := 4) (v := ?_) rfl (by kernel_rfl) (by kernel_rfl) (by kernel_rfl) (by intro c a w h; simpa [Act.put] using h) (Or.inl ⟨by rfl, ?_⟩) (by assumption) ?_
  rotate_left
  · intro w hSw
    (try dsimp only at hSw)
    (go_simp)
    (try with_reducible rfl)
  try simp only [Act.put]
  refine wpAnyH_take (i := 5) (v := ?_) rfl (by kernel_rfl) (by kernel_rfl) (by kernel_rfl) (by intro c a w h; simpa [Act.put] using h) (Or.inl ⟨by rfl, ?_⟩) (by assumption) ?_
  rotate_left
  · intro w hSw
    (try dsimp only at hSw)
    (go_simp)
    (try with_reducible rfl)
  try simp only [Act.put]
  refine wpAnyH_take (i := 6) (v := ?_) rfl (by kernel_rfl) (by kernel_rfl) (by kernel_rfl) (by intro c a w h; simpa [Act.put] using h) (Or.inl ⟨by rfl, ?_⟩) (by assumption) ?_
  rotate_left
  · intro w hSw
    (try dsimp only at hSw)
    (go_simp)
    (try with_reducible rfl)
  try simp only [Act.put]
  refine wpAnyH_ready (rs := [7]) (by kernel_rfl) (by simp) ?_
  refine AllReadyH.cons rfl (fun K hK => ?_) AllReadyH.nil
  go_simp
  go_at_call 21
  refine (less_not NA.out NB.out HF.out _).mono ?_
  rintro e w' ⟨rfl, rfl⟩
  simp [over]

set_option maxHeartbeats 800000 in
theorem reckon_not_mul (a b : V) (ha : a.s.size ≤ maxLen) (hb : b.s.size ≤ maxLen) (na : -9223372036854775808 ≤ a.n ∧ a.n ≤ 9223372036854775807) (nb : -9223372036854775808 ≤ b.n ∧ b.n ≤ 9223372036854775807) (ra : vright a = true) (rb : vright b = true) (hk : (a.k != b.k) = false) (hk3 : (a.k == 3) = false) (hk2 : (a.k == 2) = false) (hf : fits (a.n * b.n) = false) (w : World) :
    Calls Try.prog 10 #[.string ⟨#[42]⟩, ev a, ev b] w fun e w' => e = .returned (.tuple #[ev vnil, .int .i64 10]) ∧ Below w.heap.size w w' := by
  have HA := Lib.hid ha
  have HB := Lib.hid hb
  have NA := Lib.hid na
  have NB := Lib.hid nb
  clear ha hb na nb
  have hs := start_is w a b
  unfold start at hs
  obtain ⟨k, n, s⟩ := a
  obtain ⟨k', n', s'⟩ := b
  unfold ev
  simp only at hs HA HB NA NB ra rb hk hk3 hk2 hf ⊢
  have hmf : ∀ (fn : Fn) (first cap : Array Value) (w : World), (Instr.makeFunc fn first cap).run Try.prog w = .ok (.func fn first cap) w := fun _ _ _ _ => rfl
  have HS := Lib.hid hs
  clear hs
  go_enter_defers Try.func10, Try.ntmps10
  go_wp2_with fail
  revert HS
  generalize (((w.alloc (.cells #[.int .i64 k, .int .i64 n, .string s] 23)).alloc (.cells #[.int .i64 k', .int .i64 n', .string s'] 23)).alloc
    (.cells #[.int .i64 0, .int .i64 0, .string ⟨#[]⟩] 23)).alloc (.cells #[.int .i64 0] 25) = W
  intro HS
  have m0 : (Instr.makeMap 40 none).run Try.prog W = .ok (.map (some W.heap.size)) (W.alloc (.map #[] 0)) := run_makeMap 40 W
  have i1 : (Instr.mapUpdate 40 (.map (some W.heap.size)) (.string ⟨#[43]⟩) (.func (.func 20) #[] #[])).run Try.prog (W.alloc (.map #[] 0)) = .ok () (W.alloc (.map #[ent 43 20 0] 1)) := insert_last W #[] 0 ⟨#[43]⟩ _ rfl
  have i2 : (Instr.mapUpdate 40 (.map (some W.heap.size)) (.string ⟨#[45]⟩) (.func (.func 21) #[] #[])).run Try.prog (W.alloc (.map #[ent 43 20 0] 1)) = .ok () (W.alloc (.map #[ent 43 20 0, ent 45 21 1] 2)) := insert_last W _ 1 ⟨#[45]⟩ _ rfl
  have i3 : (Instr.mapUpdate 40 (.map (some W.heap.size)) (.string ⟨#[42]⟩) (.func (.func 22) #[] #[])).run Try.prog (W.alloc (.map #[ent 43 20 0, ent 45 21 1] 2)) = .ok () (W.alloc (.map #[ent 43 20 0, ent 45 21 1, ent 42 22 2] 3)) := insert_last W _ 2 ⟨#[42]⟩ _ rfl
  go_simp
  go_wp2_with fail
  clear m0 i1 i2 i3
  have HS2 : Hid (RS w.heap.size ⟨k, n, s⟩ ⟨k', n', s'⟩ (W.alloc (.map (table 20 21 22) 3)) ∧ (W.alloc (.map (table 20 21 22) 3)).heap.size = w.heap.size + 5 ∧ Below w.heap.size w (W.alloc (.map (table 20 21 22) 3)) ∧
      (W.alloc (.map (table 20 21 22) 3)).heap[w.heap.size + 1 + 1 + 1 + 1]? = some (.map (table 20 21 22) 3)) := by
    obtain ⟨h1, h2, h3⟩ := HS.out
    refine ⟨h1.below ((Below.refl W.heap.size W).alloc (Nat.le_refl _) _) (by omega), by simp; omega, h3.alloc (by omega) _, ?_⟩
    rw [show w.heap.size + 1 + 1 + 1 + 1 = W.heap.size by omega]; exact (MapKept.heap_alloc W _).1
  have hsz : W.heap.size = w.heap.size + 1 + 1 + 1 + 1 := HS.out.2.1
  rw [hsz]
  clear HS hsz
  revert HS2
  unfold table
  generalize W.alloc (.map #[ent 43 20 0, ent 45 21 1, ent 42 22 2] 3) = W2
  intro HS2
  have m0 : (Instr.makeMap 40 none).run Try.prog W2 = .ok (.map (some W2.heap.size)) (W2.alloc (.map #[] 0)) := run_makeMap 40 W2
  have i1 : (Instr.mapUpdate 40 (.map (some W2.heap.size)) (.string ⟨#[43]⟩) (.func (.func 16) #[] #[])).run Try.prog (W2.alloc (.map #[] 0)) = .ok () (W2.alloc (.map #[ent 43 16 0] 1)) := insert_last W2 #[] 0 ⟨#[43]⟩ _ rfl
  have i2 : (Instr.mapUpdate 40 (.map (some W2.heap.size)) (.string ⟨#[45]⟩) (.func (.func 17) #[] #[])).run Try.prog (W2.alloc (.map #[ent 43 16 0] 1)) = .ok () (W2.alloc (.map #[ent 43 16 0, ent 45 17 1] 2)) := insert_last W2 _ 1 ⟨#[45]⟩ _ rfl
  have i3 : (Instr.mapUpdate 40 (.map (some W2.heap.size)) (.string ⟨#[42]⟩) (.func (.func 18) #[] #[])).run Try.prog (W2.alloc (.map #[ent 43 16 0, ent 45 17 1] 2)) = .ok () (W2.alloc (.map #[ent 43 16 0, ent 45 17 1, ent 42 18 2] 3)) := insert_last W2 _ 2 ⟨#[42]⟩ _ rfl
  go_simp
  go_wp2_with fail
  clear m0 i1 i2 i3
  have HS3 : Hid (RT w.heap.size ⟨k, n, s⟩ ⟨k', n', s'⟩ (W2.alloc (.map (table 16 17 18) 3)) ∧ Below w.heap.size w (W2.alloc (.map (table 16 17 18) 3))) := by
    obtain ⟨h1, h2, h3, h4⟩ := HS2.out
    have hb : Below W2.heap.size W2 (W2.alloc (.map (table 16 17 18) 3)) := (Below.refl W2.heap.size W2).alloc (Nat.le_refl _) _
    refine ⟨⟨h1.below hb (by omega), by simp; omega, (hb.block _ (by omega)).trans h4, ?_⟩, h3.alloc (by omega) _⟩
    rw [show w.heap.size + 1 + 1 + 1 + 1 + 1 = W2.heap.size by omega]; exact (MapKept.heap_alloc W2 _).1
  have hsz : W2.heap.size = w.heap.size + 1 + 1 + 1 + 1 + 1 := HS2.out.2.1
  rw [hsz]
  clear HS2 hsz
  revert HS3
  unfold table
  generalize W2.alloc (.map #[ent 43 16 0, ent 45 17 1, ent 42 18 2] 3) = W3
  intro HS3
  have HF := Lib.hid hf
  clear hf
  have l1 : (Instr.lookup 40 (.map (some (w.heap.size + 1 + 1 + 1 + 1))) (.string ⟨#[42]⟩) false).run Try.prog W3 = .ok (.func (.func 22) #[] #[]) W3 := lookup_at W3 _ _ _ HS3.out.1.m1 _ _ 2 rfl
  have q1 : ∀ w, (binOp .eql 35 (.func (.func 22) #[] #[]) .nilFunc).run Try.prog w = .ok (.bool false) w := fun _ => by rfl
  obtain ⟨⟨a0, a1, a2, b0, b1, b2, v0, v1, v2, e0, fv0, fv1, fv2, fe0⟩, hsz, m1, m2⟩ := HS3.out.1
  have HSZ := Lib.hid hsz
  have M1 := Lib.hid m1
  have M2 := Lib.hid m2
  clear hsz m1 m2
  go_wp2_with fail
  refine (vright_any ⟨k, n, s⟩ HA.out _).mono ?_; rintro e W4 ⟨rfl, hb⟩
  have HS4 := Lib.hid (RT.next HS3.out hb)
  clear hb
  clear a0 a1 a2 b0 b1 b2 v0 v1 v2 e0 fv0 fv1 fv2 fe0 HSZ M1 M2
  obtain ⟨⟨a0, a1, a2, b0, b1, b2, v0, v1, v2, e0, fv0, fv1, fv2, fe0⟩, hsz, m1, m2⟩ := HS4.out.1
  have HSZ := Lib.hid hsz
  have M1 := Lib.hid m1
  have M2 := Lib.hid m2
  clear hsz m1 m2
  go_wp2_with fail
  refine (vright_any ⟨k', n', s'⟩ HB.out _).mono ?_; rintro e W5 ⟨rfl, hb⟩
  have HS5 := Lib.hid (RT.next HS4.out hb)
  clear hb
  clear a0 a1 a2 b0 b1 b2 v0 v1 v2 e0 fv0 fv1 fv2 fe0 HSZ M1 M2
  obtain ⟨⟨a0, a1, a2, b0, b1, b2, v0, v1, v2, e0, fv0, fv1, fv2, fe0⟩, hsz, m1, m2⟩ := HS5.out.1
  have HSZ := Lib.hid hsz
  have M1 := Lib.hid m1
  have M2 := Lib.hid m2
  clear hsz m1 m2
  clear l1 q1
  go_wp2_with fail
  refine Code.wp_mono (Q := fun e a u => e = .panic [{ v := .iface 25 (.int .i64 10), recovered := false }] ∧ a.tmps[6]?.getD undef = .pointer (some ⟨w.heap.size + 1 + 1, 0, none⟩) ∧ a.tmps[7]?.getD undef = .pointer (some ⟨w.heap.size + 1 + 1 + 1, 0, none⟩) ∧
    a.defers = [{ target := .fn (.func 24) #[.pointer (some ⟨w.heap.size + 1 + 1, 0, none⟩), .pointer (some ⟨w.heap.size + 1 + 1 + 1, 0, none⟩)], args := #[] }] ∧ u = W5.drew) ?_ ?_
  · rintro e a u ⟨rfl, h6, h7, h8, rfl⟩
    change Leaves Try.prog Try.f10 a.tmps _ a.defers _ _
    rw [h8]
    exact door_over (W := W5.drew) h6 h7 v0 v1 v2 e0 fv0 fv1 fv2 fe0 HS5.out.2.drew (Nat.le_refl _)
  refine wp_region_held_drew (S := fun w' => w'.cell? ⟨w.heap.size, 0, none⟩ = some (.int .i64 k) ∧ w'.cell? ⟨w.heap.size, 1, none⟩ = some (.int .i64 n) ∧ w'.cell? ⟨w.heap.size + 1, 1, none⟩ = some (.int .i64 n')) (by kernel_rfl) ⟨a0, a1, b1⟩ (fun hS => ?_)
  refine wpAnyH_take (i := 0) (v := ?_) rfl (by kernel_rfl) (by kernel_rfl) (by kernel_rfl) (by intro c a w h; simpa [Act.put] using h) (Or.inl ⟨by rfl, ?_⟩) (by assumption) ?_
  rotate_left
  · intro w hSw
    (try dsimp only at hSw)
    (go_simp)
    (try with_reducible rfl)
  try simp only [Act.put, List.setIfInBounds_toArray]
  refine wpAnyH_take (i := 1) (v := ?_) rfl (by kernel_rfl) (by kernel_rfl) (by kernel_rfl) (by intro c a w h; simpa [Act.put] using h) (Or.inl ⟨by rfl, ?_⟩) (by assumption) ?_
  rotate_left
  · intro w hSw
    (try dsimp only at hSw)
    (go_simp)
    (try with_reducible rfl)
  try simp only [Act.put]
  refine wpAnyH_take (i := 2) (v := ?_) rfl (by kernel_rfl) (by kernel_rfl) (by kernel_rfl) (by intro c a w h; simpa [Act.put] using h) (Or.inl ⟨by rfl, ?_⟩) (by assumption) ?_
  rotate_left
  · intro w hSw
    (try dsimp only at hSw)
    (go_simp)
    (try with_reducible rfl)
  try simp only [Act.put]
  refine wpAnyH_take (i := 3) (v := ?_) rfl (by kernel_rfl) (by kernel_rfl) (by kernel_rfl) (by intro c a w h; simpa [Act.put] using h) (Or.inl ⟨by rfl, ?_⟩) (by assumption) ?_
  rotate_left
  · intro w hSw
    (try dsimp only at hSw)
    (go_simp)
    (try with_reducible rfl)
  try simp only [Act.put]
  refine wpAnyH_take (i := 4) (v := ?_) rfl (by kernel_rfl) (by kernel_rfl) (by kernel_rfl) (by intro c a w h; simpa [Act.put] using h) (Or.inl ⟨by rfl, ?_⟩) (by assumption) ?_
  rotate_left
  · intro w hSw
    (try dsimp only at hSw)
    (go_simp)
    (try with_reducible rfl)
  try simp only [Act.put]
  refine wpAnyH_take (i := 5) (v := ?_) rfl (by kernel_rfl) (by kernel_rfl) (by kernel_rfl) (by intro c a w h; simpa [Act.put] using h) (Or.inl ⟨by rfl, ?_⟩) (by assumption) ?_
  rotate_left
  · intro w hSw
    (try dsimp only at hSw)
    (go_simp)
    (try with_reducible rfl)
  try simp only [Act.put]
  refine wpAnyH_take (i := 6) (v := ?_) rfl (by kernel_rfl) (by kernel_rfl) (by kernel_rfl) (by intro c a w h; simpa [Act.put] using h) (Or.inl ⟨by rfl, ?_⟩) (by assumption) ?_
  rotate_left
  · intro w hSw
    (try dsimp only at hSw)
    (go_simp)
    (try with_reducible rfl)
  try simp only [Act.put]
  refine wpAnyH_ready (rs := [7]) (by kernel_rfl) (by simp) ?_
  refine AllReadyH.cons rfl (fun K hK => ?_) AllReadyH.nil
  go_simp
  go_at_call 22
  refine (times_not NA.out NB.out HF.out _).mono ?_
  rintro e w' ⟨rfl, rfl⟩
  simp [over]

end Go.Proofs.Ytcoidmkaddnkdaa
