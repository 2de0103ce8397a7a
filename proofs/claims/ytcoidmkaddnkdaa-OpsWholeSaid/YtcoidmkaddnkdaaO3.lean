/- THE WALK OF ops.Reckon, where numbers are put together. No condition. -/
import Derived.Test.YtcoidmkaddnkdaaO2
import Derived.Deep.RegionHeld3
namespace Go.Proofs.Ytcoidmkaddnkdaa
open Go.RowKit AnteFlo AnteVal AnteOps

theorem assert_nil (w : World) : (Instr.typeAssert .nilIface 20 25 true).run Try.prog w = .ok (.tuple #[.int .i64 0, .bool false]) w := by kernel_rfl
theorem assert_over (w : World) : (Instr.typeAssert (.iface 25 (.int .i64 10)) 20 25 true).run Try.prog w = .ok (.tuple #[.int .i64 10, .bool true]) w := by kernel_rfl

/-- the deferred function, where nothing has gone wrong -/
theorem catch_idle (p q : Addr) (w : World) :
    CallsD Try.prog 24 #[.pointer (some p), .pointer (some q)] .returning w fun e u' w' => e = .returned (.tuple #[]) ∧ u' = .returning ∧ w' = w := by
  refine callsD_of_wpS Try.func24 rfl fun c₀ cs hu => ?_
  simp only [Try.ntmps24, List.size_toArray, List.length_cons, List.length_nil, Nat.reduceAdd, Nat.reduceSub, Array.replicate_succ,
     Array.replicate_zero, List.push_toArray, List.append_toArray, List.nil_append, List.cons_append]
  apply wpS_seq
  apply wpS_region
  simp [wpOpsS, go_sem, recoverD, hu, Exit.thenS, assert_nil]
  apply wpS_seq
  apply wpS_region
  simp [wpOpsS, go_sem, Exit.thenS]
  refine wpS_cond (t := false) (by simp [Act.eval]) ?_
  simp only [Bool.false_eq_true, if_false]
  refine wpS_of_wp (wp_skip ?_)
  cases c₀
  simp_all [bodyPostS, results, Try.results24]

theorem catch_over (n : Nat) (W : World) (older : List PanicEntry) {x y z u : Value} (v0 : W.cell? ⟨n + 1 + 1, 0, none⟩ = some x) (v1 : W.cell? ⟨n + 1 + 1, 1, none⟩ = some y) (v2 : W.cell? ⟨n + 1 + 1, 2, none⟩ = some z)
    (e0 : W.cell? ⟨n + 1 + 1 + 1, 0, none⟩ = some u) (fv0 : W.frozen? ⟨n + 1 + 1, 0, none⟩ = false) (fv1 : W.frozen? ⟨n + 1 + 1, 1, none⟩ = false) (fv2 : W.frozen? ⟨n + 1 + 1, 2, none⟩ = false) (fe0 : W.frozen? ⟨n + 1 + 1 + 1, 0, none⟩ = false) :
    CallsD Try.prog 24 #[.pointer (some ⟨n + 1 + 1, 0, none⟩), .pointer (some ⟨n + 1 + 1 + 1, 0, none⟩)] (.panicking ({ v := .iface 25 (.int .i64 10), recovered := false } :: older)) W fun e u' w' =>
      e = .returned (.tuple #[]) ∧ u' = .panicking ({ v := .iface 25 (.int .i64 10), recovered := true } :: older) ∧ w' = st W n vnil 10 := by
  refine callsD_of_wpS Try.func24 rfl fun c₀ cs hu => ?_
  simp only [Try.ntmps24, List.size_toArray, List.length_cons, List.length_nil, Nat.reduceAdd, Nat.reduceSub, Array.replicate_succ,
     Array.replicate_zero, List.push_toArray, List.append_toArray, List.nil_append, List.cons_append]
  apply wpS_seq
  apply wpS_region
  simp [wpOpsS, go_sem, recoverD, hu, Exit.thenS, assert_over]
  apply wpS_seq
  apply wpS_region
  simp [wpOpsS, go_sem, Exit.thenS]
  refine wpS_cond (t := true) (by simp [Act.eval]) ?_
  simp only [if_true]
  apply wpS_region
  simp [wpOpsS, go_sem, v0, v1, v2, e0, fv0, fv1, fv2, fe0, bodyPostS, results, Try.results24]
  rfl

theorem below_drewN {B : Nat} {w W : World} (h : Below B w W) (n : Nat) : Below B w (W.drewN n) := by
  exact ⟨h.os, h.tape, h.output, h.size, h.block⟩

theorem door_idle {B n : Nat} {w W : World} {tmps : Array Value} (h6 : tmps[6]?.getD undef = .pointer (some ⟨n + 1 + 1, 0, none⟩)) (h7 : tmps[7]?.getD undef = .pointer (some ⟨n + 1 + 1 + 1, 0, none⟩))
    {x y z u : Value} (v0 : W.cell? ⟨n + 1 + 1, 0, none⟩ = some x) (v1 : W.cell? ⟨n + 1 + 1, 1, none⟩ = some y) (v2 : W.cell? ⟨n + 1 + 1, 2, none⟩ = some z) (e0 : W.cell? ⟨n + 1 + 1 + 1, 0, none⟩ = some u)
    (hb : Below B w W) (hn : B ≤ n) (v : V) (e : Int) :
    Leaves Try.prog Try.f10 tmps (fun e' w' => e' = .returned (.tuple #[ev v, .int .i64 e]) ∧ Below B w w')
      [{ target := .fn (.func 24) #[.pointer (some ⟨n + 1 + 1, 0, none⟩), .pointer (some ⟨n + 1 + 1 + 1, 0, none⟩)], args := #[] }] .returning (st W n v e) := by
  refine leaves_cons (f := 24) (args := #[.pointer (some ⟨n + 1 + 1, 0, none⟩), .pointer (some ⟨n + 1 + 1 + 1, 0, none⟩)]) (by simp) (by simp [go_sem]) ?_
  refine (catch_idle _ _ _).mono ?_
  rintro e' u' w' ⟨rfl, rfl, rfl⟩
  have hc := st_cells v0 v1 v2 e0 v e
  exact ⟨_, results_are h6 h7 hc.1 hc.2.1 hc.2.2.1 hc.2.2.2, rfl, st_below hb hn _ _⟩

theorem door_over {B n : Nat} {w W : World} {tmps : Array Value} (h6 : tmps[6]?.getD undef = .pointer (some ⟨n + 1 + 1, 0, none⟩)) (h7 : tmps[7]?.getD undef = .pointer (some ⟨n + 1 + 1 + 1, 0, none⟩))
    {x y z u : Value} (v0 : W.cell? ⟨n + 1 + 1, 0, none⟩ = some x) (v1 : W.cell? ⟨n + 1 + 1, 1, none⟩ = some y) (v2 : W.cell? ⟨n + 1 + 1, 2, none⟩ = some z) (e0 : W.cell? ⟨n + 1 + 1 + 1, 0, none⟩ = some u)
    (fv0 : W.frozen? ⟨n + 1 + 1, 0, none⟩ = false) (fv1 : W.frozen? ⟨n + 1 + 1, 1, none⟩ = false) (fv2 : W.frozen? ⟨n + 1 + 1, 2, none⟩ = false) (fe0 : W.frozen? ⟨n + 1 + 1 + 1, 0, none⟩ = false)
    (hb : Below B w W) (hn : B ≤ n) :
    Leaves Try.prog Try.f10 tmps (fun e' w' => e' = .returned (.tuple #[ev vnil, .int .i64 10]) ∧ Below B w w')
      [{ target := .fn (.func 24) #[.pointer (some ⟨n + 1 + 1, 0, none⟩), .pointer (some ⟨n + 1 + 1 + 1, 0, none⟩)], args := #[] }] (.panicking [{ v := .iface 25 (.int .i64 10), recovered := false }]) W := by
  refine leaves_cons (f := 24) (args := #[.pointer (some ⟨n + 1 + 1, 0, none⟩), .pointer (some ⟨n + 1 + 1 + 1, 0, none⟩)]) (by simp) (by simp [go_sem]) ?_
  refine (catch_over n W [] v0 v1 v2 e0 fv0 fv1 fv2 fe0).mono ?_
  rintro e' u' w' ⟨rfl, rfl, rfl⟩
  have hc := st_cells v0 v1 v2 e0 vnil 10
  exact ⟨_, results_are h6 h7 hc.1 hc.2.1 hc.2.2.1 hc.2.2.2, rfl, st_below hb hn _ _⟩
set_option maxHeartbeats 800000 in
theorem reckon_flo_add (a b : V) (ha : a.s.size ≤ maxLen) (hb : b.s.size ≤ maxLen) (na : -9223372036854775808 ≤ a.n ∧ a.n ≤ 9223372036854775807) (nb : -9223372036854775808 ≤ b.n ∧ b.n ≤ 9223372036854775807) (ra : vright a = true) (rb : vright b = true) (hk : (a.k != b.k) = false) (hk3 : (a.k == 3) = false) (hk2 : (a.k == 2) = true) (w : World) :
    Calls Try.prog 10 #[.string ⟨#[43]⟩, ev a, ev b] w fun e w' => e = .returned (.tuple #[ev ⟨a.k, gAdd a.n b.n, ⟨#[]⟩⟩, .int .i64 0]) ∧ Below w.heap.size w w' := by
  have HA := Lib.hid ha
  have HB := Lib.hid hb
  have NA := Lib.hid na
  have NB := Lib.hid nb
  clear ha hb na nb
  have hs := start_is w a b
  unfold start at hs
  obtain ⟨k, n, s⟩ := a
  obtain ⟨k', n', s'⟩ := b
  unfold ev
  simp only at hs HA HB NA NB ra rb hk hk3 hk2 ⊢
  have hmf : ∀ (fn : Fn) (first cap : Array Value) (w : World), (Instr.makeFunc fn first cap).run Try.prog w = .ok (.func fn first cap) w := fun _ _ _ _ => rfl
  have HS := Lib.hid hs
  clear hs
  go_enter_defers Try.func10, Try.ntmps10
  go_wp2_with fail
  revert HS
  generalize (((w.alloc (.cells #[.int .i64 k, .int .i64 n, .string s] 23)).alloc (.cells #[.int .i64 k', .int .i64 n', .string s'] 23)).alloc
    (.cells #[.int .i64 0, .int .i64 0, .string ⟨#[]⟩] 23)).alloc (.cells #[.int .i64 0] 25) = W
  intro HS
  have m0 : (Instr.makeMap 40 none).run Try.prog W = .ok (.map (some W.heap.size)) (W.alloc (.map #[] 0)) := run_makeMap 40 W
  have i1 : (Instr.mapUpdate 40 (.map (some W.heap.size)) (.string ⟨#[43]⟩) (.func (.func 20) #[] #[])).run Try.prog (W.alloc (.map #[] 0)) = .ok () (W.alloc (.map #[ent 43 20 0] 1)) := insert_last W #[] 0 ⟨#[43]⟩ _ rfl
  have i2 : (Instr.mapUpdate 40 (.map (some W.heap.size)) (.string ⟨#[45]⟩) (.func (.func 21) #[] #[])).run Try.prog (W.alloc (.map #[ent 43 20 0] 1)) = .ok () (W.alloc (.map #[ent 43 20 0, ent 45 21 1] 2)) := insert_last W _ 1 ⟨#[45]⟩ _ rfl
  have i3 : (Instr.mapUpdate 40 (.map (some W.heap.size)) (.string ⟨#[42]⟩) (.func (.func 22) #[] #[])).run Try.prog (W.alloc (.map #[ent 43 20 0, ent 45 21 1] 2)) = .ok () (W.alloc (.map #[ent 43 20 0, ent 45 21 1, ent 42 22 2] 3)) := insert_last W _ 2 ⟨#[42]⟩ _ rfl
  go_simp
  go_wp2_with fail
  clear m0 i1 i2 i3
  have HS2 : Hid (RS w.heap.size ⟨k, n, s⟩ ⟨k', n', s'⟩ (W.alloc (.map (table 20 21 22) 3)) ∧ (W.alloc (.map (table 20 21 22) 3)).heap.size = w.heap.size + 5 ∧ Below w.heap.size w (W.alloc (.map (table 20 21 22) 3)) ∧
      (W.alloc (.map (table 20 21 22) 3)).heap[w.heap.size + 1 + 1 + 1 + 1]? = some (.map (table 20 21 22) 3)) := by
    obtain ⟨h1, h2, h3⟩ := HS.out
    refine ⟨h1.below ((Below.refl W.heap.size W).alloc (Nat.le_refl _) _) (by omega), by simp; omega, h3.alloc (by omega) _, ?_⟩
    rw [show w.heap.size + 1 + 1 + 1 + 1 = W.heap.size by omega]; exact (MapKept.heap_alloc W _).1
  have hsz : W.heap.size = w.heap.size + 1 + 1 + 1 + 1 := HS.out.2.1
  rw [hsz]
  clear HS hsz
  revert HS2
  unfold table
  generalize W.alloc (.map #[ent 43 20 0, ent 45 21 1, ent 42 22 2] 3) = W2
  intro HS2
  have m0 : (Instr.makeMap 40 none).run Try.prog W2 = .ok (.map (some W2.heap.size)) (W2.alloc (.map #[] 0)) := run_makeMap 40 W2
  have i1 : (Instr.mapUpdate 40 (.map (some W2.heap.size)) (.string ⟨#[43]⟩) (.func (.func 16) #[] #[])).run Try.prog (W2.alloc (.map #[] 0)) = .ok () (W2.alloc (.map #[ent 43 16 0] 1)) := insert_last W2 #[] 0 ⟨#[43]⟩ _ rfl
  have i2 : (Instr.mapUpdate 40 (.map (some W2.heap.size)) (.string ⟨#[45]⟩) (.func (.func 17) #[] #[])).run Try.prog (W2.alloc (.map #[ent 43 16 0] 1)) = .ok () (W2.alloc (.map #[ent 43 16 0, ent 45 17 1] 2)) := insert_last W2 _ 1 ⟨#[45]⟩ _ rfl
  have i3 : (Instr.mapUpdate 40 (.map (some W2.heap.size)) (.string ⟨#[42]⟩) (.func (.func 18) #[] #[])).run Try.prog (W2.alloc (.map #[ent 43 16 0, ent 45 17 1] 2)) = .ok () (W2.alloc (.map #[ent 43 16 0, ent 45 17 1, ent 42 18 2] 3)) := insert_last W2 _ 2 ⟨#[42]⟩ _ rfl
  go_simp
  go_wp2_with fail
  clear m0 i1 i2 i3
  have HS3 : Hid (RT w.heap.size ⟨k, n, s⟩ ⟨k', n', s'⟩ (W2.alloc (.map (table 16 17 18) 3)) ∧ Below w.heap.size w (W2.alloc (.map (table 16 17 18) 3))) := by
    obtain ⟨h1, h2, h3, h4⟩ := HS2.out
    have hb : Below W2.heap.size W2 (W2.alloc (.map (table 16 17 18) 3)) := (Below.refl W2.heap.size W2).alloc (Nat.le_refl _) _
    refine ⟨⟨h1.below hb (by omega), by simp; omega, (hb.block _ (by omega)).trans h4, ?_⟩, h3.alloc (by omega) _⟩
    rw [show w.heap.size + 1 + 1 + 1 + 1 + 1 = W2.heap.size by omega]; exact (MapKept.heap_alloc W2 _).1
  have hsz : W2.heap.size = w.heap.size + 1 + 1 + 1 + 1 + 1 := HS2.out.2.1
  rw [hsz]
  clear HS2 hsz
  revert HS3
  unfold table
  generalize W2.alloc (.map #[ent 43 16 0, ent 45 17 1, ent 42 18 2] 3) = W3
  intro HS3
  have l1 : (Instr.lookup 40 (.map (some (w.heap.size + 1 + 1 + 1 + 1))) (.string ⟨#[43]⟩) false).run Try.prog W3 = .ok (.func (.func 20) #[] #[]) W3 := lookup_at W3 _ _ _ HS3.out.1.m1 _ _ 0 rfl
  have q1 : ∀ w, (binOp .eql 35 (.func (.func 20) #[] #[]) .nilFunc).run Try.prog w = .ok (.bool false) w := fun _ => by rfl
  obtain ⟨⟨a0, a1, a2, b0, b1, b2, v0, v1, v2, e0, fv0, fv1, fv2, fe0⟩, hsz, m1, m2⟩ := HS3.out.1
  have HSZ := Lib.hid hsz
  have M1 := Lib.hid m1
  have M2 := Lib.hid m2
  clear hsz m1 m2
  go_wp2_with fail
  refine (vright_any ⟨k, n, s⟩ HA.out _).mono ?_; rintro e W4 ⟨rfl, hb⟩
  have HS4 := Lib.hid (RT.next HS3.out hb)
  clear hb
  clear a0 a1 a2 b0 b1 b2 v0 v1 v2 e0 fv0 fv1 fv2 fe0 HSZ M1 M2
  obtain ⟨⟨a0, a1, a2, b0, b1, b2, v0, v1, v2, e0, fv0, fv1, fv2, fe0⟩, hsz, m1, m2⟩ := HS4.out.1
  have HSZ := Lib.hid hsz
  have M1 := Lib.hid m1
  have M2 := Lib.hid m2
  clear hsz m1 m2
  go_wp2_with fail
  refine (vright_any ⟨k', n', s'⟩ HB.out _).mono ?_; rintro e W5 ⟨rfl, hb⟩
  have HS5 := Lib.hid (RT.next HS4.out hb)
  clear hb
  clear a0 a1 a2 b0 b1 b2 v0 v1 v2 e0 fv0 fv1 fv2 fe0 HSZ M1 M2
  obtain ⟨⟨a0, a1, a2, b0, b1, b2, v0, v1, v2, e0, fv0, fv1, fv2, fe0⟩, hsz, m1, m2⟩ := HS5.out.1
  have HSZ := Lib.hid hsz
  have M1 := Lib.hid m1
  have M2 := Lib.hid m2
  clear hsz m1 m2
  have l2 : (Instr.lookup 40 (.map (some (w.heap.size + 1 + 1 + 1 + 1 + 1))) (.string ⟨#[43]⟩) false).run Try.prog W5 = .ok (.func (.func 16) #[] #[]) W5 := lookup_at W5 _ _ _ HS5.out.1.m2 _ _ 0 rfl
  clear l1 q1
  have ne2 : (w.heap.size + 1 + 1 = w.heap.size) = False := eq_false (by omega)
  have ne3 : (w.heap.size + 1 + 1 + 1 = w.heap.size) = False := eq_false (by omega)
  go_wp2_with fail
  go_region_held3 (fun w' => w'.cell? ⟨w.heap.size, 0, none⟩ = some (.int .i64 k) ∧ w'.cell? ⟨w.heap.size, 1, none⟩ = some (.int .i64 n) ∧ w'.cell? ⟨w.heap.size + 1, 1, none⟩ = some (.int .i64 n')) (go_keep) (first | (go_at_call 16; refine (add_c NA.out NB.out _).mono ?_; rintro e w' ⟨rfl, j, rfl⟩))
  refine (‹∀ (a : Act) (w : World), Code.wp Try.prog Code.ret _ a w → _›) _ _ (wp_ret ?_)
  exact door_idle (W := W5.drewN (1 + j)) (n := w.heap.size) rfl rfl v0 v1 v2 e0 (below_drewN HS5.out.2 _) (Nat.le_refl _) ⟨k, gAdd n n', ⟨#[]⟩⟩ 0

set_option maxHeartbeats 800000 in
theorem reckon_flo_sub (a b : V) (ha : a.s.size ≤ maxLen) (hb : b.s.size ≤ maxLen) (na : -9223372036854775808 ≤ a.n ∧ a.n ≤ 9223372036854775807) (nb : -9223372036854775808 ≤ b.n ∧ b.n ≤ 9223372036854775807) (ra : vright a = true) (rb : vright b = true) (hk : (a.k != b.k) = false) (hk3 : (a.k == 3) = false) (hk2 : (a.k == 2) = true) (w : World) :
    Calls Try.prog 10 #[.string ⟨#[45]⟩, ev a, ev b] w fun e w' => e = .returned (.tuple #[ev ⟨a.k, gSub a.n b.n, ⟨#[]⟩⟩, .int .i64 0]) ∧ Below w.heap.size w w' := by
  have HA := Lib.hid ha
  have HB := Lib.hid hb
  have NA := Lib.hid na
  have NB := Lib.hid nb
  clear ha hb na nb
  have hs := start_is w a b
  unfold start at hs
  obtain ⟨k, n, s⟩ := a
  obtain ⟨k', n', s'⟩ := b
  unfold ev
  simp only at hs HA HB NA NB ra rb hk hk3 hk2 ⊢
  have hmf : ∀ (fn : Fn) (first cap : Array Value) (w : World), (Instr.makeFunc fn first cap).run Try.prog w = .ok (.func fn first cap) w := fun _ _ _ _ => rfl
  have HS := Lib.hid hs
  clear hs
  go_enter_defers Try.func10, Try.ntmps10
  go_wp2_with fail
  revert HS
  generalize (((w.alloc (.cells #[.int .i64 k, .int .i64 n, .string s] 23)).alloc (.cells #[.int .i64 k', .int .i64 n', .string s'] 23)).alloc
    (.cells #[.int .i64 0, .int .i64 0, .string ⟨#[]⟩] 23)).alloc (.cells #[.int .i64 0] 25) = W
  intro HS
  have m0 : (Instr.makeMap 40 none).run Try.prog W = .ok (.map (some W.heap.size)) (W.alloc (.map #[] 0)) := run_makeMap 40 W
  have i1 : (Instr.mapUpdate 40 (.map (some W.heap.size)) (.string ⟨#[43]⟩) (.func (.func 20) #[] #[])).run Try.prog (W.alloc (.map #[] 0)) = .ok () (W.alloc (.map #[ent 43 20 0] 1)) := insert_last W #[] 0 ⟨#[43]⟩ _ rfl
  have i2 : (Instr.mapUpdate 40 (.map (some W.heap.size)) (.string ⟨#[45]⟩) (.func (.func 21) #[] #[])).run Try.prog (W.alloc (.map #[ent 43 20 0] 1)) = .ok () (W.alloc (.map #[ent 43 20 0, ent 45 21 1] 2)) := insert_last W _ 1 ⟨#[45]⟩ _ rfl
  have i3 : (Instr.mapUpdate 40 (.map (some W.heap.size)) (.string ⟨#[42]⟩) (.func (.func 22) #[] #[])).run Try.prog (W.alloc (.map #[ent 43 20 0, ent 45 21 1] 2)) = .ok () (W.alloc (.map #[ent 43 20 0, ent 45 21 1, ent 42 22 2] 3)) := insert_last W _ 2 ⟨#[42]⟩ _ rfl
  go_simp
  go_wp2_with fail
  clear m0 i1 i2 i3
  have HS2 : Hid (RS w.heap.size ⟨k, n, s⟩ ⟨k', n', s'⟩ (W.alloc (.map (table 20 21 22) 3)) ∧ (W.alloc (.map (table 20 21 22) 3)).heap.size = w.heap.size + 5 ∧ Below w.heap.size w (W.alloc (.map (table 20 21 22) 3)) ∧
      (W.alloc (.map (table 20 21 22) 3)).heap[w.heap.size + 1 + 1 + 1 + 1]? = some (.map (table 20 21 22) 3)) := by
    obtain ⟨h1, h2, h3⟩ := HS.out
    refine ⟨h1.below ((Below.refl W.heap.size W).alloc (Nat.le_refl _) _) (by omega), by simp; omega, h3.alloc (by omega) _, ?_⟩
    rw [show w.heap.size + 1 + 1 + 1 + 1 = W.heap.size by omega]; exact (MapKept.heap_alloc W _).1
  have hsz : W.heap.size = w.heap.size + 1 + 1 + 1 + 1 := HS.out.2.1
  rw [hsz]
  clear HS hsz
  revert HS2
  unfold table
  generalize W.alloc (.map #[ent 43 20 0, ent 45 21 1, ent 42 22 2] 3) = W2
  intro HS2
  have m0 : (Instr.makeMap 40 none).run Try.prog W2 = .ok (.map (some W2.heap.size)) (W2.alloc (.map #[] 0)) := run_makeMap 40 W2
  have i1 : (Instr.mapUpdate 40 (.map (some W2.heap.size)) (.string ⟨#[43]⟩) (.func (.func 16) #[] #[])).run Try.prog (W2.alloc (.map #[] 0)) = .ok () (W2.alloc (.map #[ent 43 16 0] 1)) := insert_last W2 #[] 0 ⟨#[43]⟩ _ rfl
  have i2 : (Instr.mapUpdate 40 (.map (some W2.heap.size)) (.string ⟨#[45]⟩) (.func (.func 17) #[] #[])).run Try.prog (W2.alloc (.map #[ent 43 16 0] 1)) = .ok () (W2.alloc (.map #[ent 43 16 0, ent 45 17 1] 2)) := insert_last W2 _ 1 ⟨#[45]⟩ _ rfl
  have i3 : (Instr.mapUpdate 40 (.map (some W2.heap.size)) (.string ⟨#[42]⟩) (.func (.func 18) #[] #[])).run Try.prog (W2.alloc (.map #[ent 43 16 0, ent 45 17 1] 2)) = .ok () (W2.alloc (.map #[ent 43 16 0, ent 45 17 1, ent 42 18 2] 3)) := insert_last W2 _ 2 ⟨#[42]⟩ _ rfl
  go_simp
  go_wp2_with fail
  clear m0 i1 i2 i3
  have HS3 : Hid (RT w.heap.size ⟨k, n, s⟩ ⟨k', n', s'⟩ (W2.alloc (.map (table 16 17 18) 3)) ∧ Below w.heap.size w (W2.alloc (.map (table 16 17 18) 3))) := by
    obtain ⟨h1, h2, h3, h4⟩ := HS2.out
    have hb : Below W2.heap.size W2 (W2.alloc (.map (table 16 17 18) 3)) := (Below.refl W2.heap.size W2).alloc (Nat.le_refl _) _
    refine ⟨⟨h1.below hb (by omega), by simp; omega, (hb.block _ (by omega)).trans h4, ?_⟩, h3.alloc (by omega) _⟩
    rw [show w.heap.size + 1 + 1 + 1 + 1 + 1 = W2.heap.size by omega]; exact (MapKept.heap_alloc W2 _).1
  have hsz : W2.heap.size = w.heap.size + 1 + 1 + 1 + 1 + 1 := HS2.out.2.1
  rw [hsz]
  clear HS2 hsz
  revert HS3
  unfold table
  generalize W2.alloc (.map #[ent 43 16 0, ent 45 17 1, ent 42 18 2] 3) = W3
  intro HS3
  have l1 : (Instr.lookup 40 (.map (some (w.heap.size + 1 + 1 + 1 + 1))) (.string ⟨#[45]⟩) false).run Try.prog W3 = .ok (.func (.func 21) #[] #[]) W3 := lookup_at W3 _ _ _ HS3.out.1.m1 _ _ 1 rfl
  have q1 : ∀ w, (binOp .eql 35 (.func (.func 21) #[] #[]) .nilFunc).run Try.prog w = .ok (.bool false) w := fun _ => by rfl
  obtain ⟨⟨a0, a1, a2, b0, b1, b2, v0, v1, v2, e0, fv0, fv1, fv2, fe0⟩, hsz, m1, m2⟩ := HS3.out.1
  have HSZ := Lib.hid hsz
  have M1 := Lib.hid m1
  have M2 := Lib.hid m2
  clear hsz m1 m2
  go_wp2_with fail
  refine (vright_any ⟨k, n, s⟩ HA.out _).mono ?_; rintro e W4 ⟨rfl, hb⟩
  have HS4 := Lib.hid (RT.next HS3.out hb)
  clear hb
  clear a0 a1 a2 b0 b1 b2 v0 v1 v2 e0 fv0 fv1 fv2 fe0 HSZ M1 M2
  obtain ⟨⟨a0, a1, a2, b0, b1, b2, v0, v1, v2, e0, fv0, fv1, fv2, fe0⟩, hsz, m1, m2⟩ := HS4.out.1
  have HSZ := Lib.hid hsz
  have M1 := Lib.hid m1
  have M2 := Lib.hid m2
  clear hsz m1 m2
  go_wp2_with fail
  refine (vright_any ⟨k', n', s'⟩ HB.out _).mono ?_; rintro e W5 ⟨rfl, hb⟩
  have HS5 := Lib.hid (RT.next HS4.out hb)
  clear hb
  clear a0 a1 a2 b0 b1 b2 v0 v1 v2 e0 fv0 fv1 fv2 fe0 HSZ M1 M2
  obtain ⟨⟨a0, a1, a2, b0, b1, b2, v0, v1, v2, e0, fv0, fv1, fv2, fe0⟩, hsz, m1, m2⟩ := HS5.out.1
  have HSZ := Lib.hid hsz
  have M1 := Lib.hid m1
  have M2 := Lib.hid m2
  clear hsz m1 m2
  have l2 : (Instr.lookup 40 (.map (some (w.heap.size + 1 + 1 + 1 + 1 + 1))) (.string ⟨#[45]⟩) false).run Try.prog W5 = .ok (.func (.func 17) #[] #[]) W5 := lookup_at W5 _ _ _ HS5.out.1.m2 _ _ 1 rfl
  clear l1 q1
  have ne2 : (w.heap.size + 1 + 1 = w.heap.size) = False := eq_false (by omega)
  have ne3 : (w.heap.size + 1 + 1 + 1 = w.heap.size) = False := eq_false (by omega)
  go_wp2_with fail
  go_region_held3 (fun w' => w'.cell? ⟨w.heap.size, 0, none⟩ = some (.int .i64 k) ∧ w'.cell? ⟨w.heap.size, 1, none⟩ = some (.int .i64 n) ∧ w'.cell? ⟨w.heap.size + 1, 1, none⟩ = some (.int .i64 n')) (go_keep) (first | (go_at_call 17; refine (sub_c NA.out NB.out _).mono ?_; rintro e w' ⟨rfl, j, rfl⟩))
  refine (‹∀ (a : Act) (w : World), Code.wp Try.prog Code.ret _ a w → _›) _ _ (wp_ret ?_)
  exact door_idle (W := W5.drewN (1 + j)) (n := w.heap.size) rfl rfl v0 v1 v2 e0 (below_drewN HS5.out.2 _) (Nat.le_refl _) ⟨k, gSub n n', ⟨#[]⟩⟩ 0

set_option maxHeartbeats 800000 in
theorem reckon_flo_mul (a b : V) (ha : a.s.size ≤ maxLen) (hb : b.s.size ≤ maxLen) (na : -9223372036854775808 ≤ a.n ∧ a.n ≤ 9223372036854775807) (nb : -9223372036854775808 ≤ b.n ∧ b.n ≤ 9223372036854775807) (ra : vright a = true) (rb : vright b = true) (hk : (a.k != b.k) = false) (hk3 : (a.k == 3) = false) (hk2 : (a.k == 2) = true) (w : World) :
    Calls Try.prog 10 #[.string ⟨#[42]⟩, ev a, ev b] w fun e w' => e = .returned (.tuple #[ev ⟨a.k, gMul a.n b.n, ⟨#[]⟩⟩, .int .i64 0]) ∧ Below w.heap.size w w' := by
  have HA := Lib.hid ha
  have HB := Lib.hid hb
  have NA := Lib.hid na
  have NB := Lib.hid nb
  clear ha hb na nb
  have hs := start_is w a b
  unfold start at hs
  obtain ⟨k, n, s⟩ := a
  obtain ⟨k', n', s'⟩ := b
  unfold ev
  simp only at hs HA HB NA NB ra rb hk hk3 hk2 ⊢
  have hmf : ∀ (fn : Fn) (first cap : Array Value) (w : World), (Instr.makeFunc fn first cap).run Try.prog w = .ok (.func fn first cap) w := fun _ _ _ _ => rfl
  have HS := Lib.hid hs
  clear hs
  go_enter_defers Try.func10, Try.ntmps10
  go_wp2_with fail
  revert HS
  generalize (((w.alloc (.cells #[.int .i64 k, .int .i64 n, .string s] 23)).alloc (.cells #[.int .i64 k', .int .i64 n', .string s'] 23)).alloc
    (.cells #[.int .i64 0, .int .i64 0, .string ⟨#[]⟩] 23)).alloc (.cells #[.int .i64 0] 25) = W
  intro HS
  have m0 : (Instr.makeMap 40 none).run Try.prog W = .ok (.map (some W.heap.size)) (W.alloc (.map #[] 0)) := run_makeMap 40 W
  have i1 : (Instr.mapUpdate 40 (.map (some W.heap.size)) (.string ⟨#[43]⟩) (.func (.func 20) #[] #[])).run Try.prog (W.alloc (.map #[] 0)) = .ok () (W.alloc (.map #[ent 43 20 0] 1)) := insert_last W #[] 0 ⟨#[43]⟩ _ rfl
  have i2 : (Instr.mapUpdate 40 (.map (some W.heap.size)) (.string ⟨#[45]⟩) (.func (.func 21) #[] #[])).run Try.prog (W.alloc (.map #[ent 43 20 0] 1)) = .ok () (W.alloc (.map #[ent 43 20 0, ent 45 21 1] 2)) := insert_last W _ 1 ⟨#[45]⟩ _ rfl
  have i3 : (Instr.mapUpdate 40 (.map (some W.heap.size)) (.string ⟨#[42]⟩) (.func (.func 22) #[] #[])).run Try.prog (W.alloc (.map #[ent 43 20 0, ent 45 21 1] 2)) = .ok () (W.alloc (.map #[ent 43 20 0, ent 45 21 1, ent 42 22 2] 3)) := insert_last W _ 2 ⟨#[42]⟩ _ rfl
  go_simp
  go_wp2_with fail
  clear m0 i1 i2 i3
  have HS2 : Hid (RS w.heap.size ⟨k, n, s⟩ ⟨k', n', s'⟩ (W.alloc (.map (table 20 21 22) 3)) ∧ (W.alloc (.map (table 20 21 22) 3)).heap.size = w.heap.size + 5 ∧ Below w.heap.size w (W.alloc (.map (table 20 21 22) 3)) ∧
      (W.alloc (.map (table 20 21 22) 3)).heap[w.heap.size + 1 + 1 + 1 + 1]? = some (.map (table 20 21 22) 3)) := by
    obtain ⟨h1, h2, h3⟩ := HS.out
    refine ⟨h1.below ((Below.refl W.heap.size W).alloc (Nat.le_refl _) _) (by omega), by simp; omega, h3.alloc (by omega) _, ?_⟩
    rw [show w.heap.size + 1 + 1 + 1 + 1 = W.heap.size by omega]; exact (MapKept.heap_alloc W _).1
  have hsz : W.heap.size = w.heap.size + 1 + 1 + 1 + 1 := HS.out.2.1
  rw [hsz]
  clear HS hsz
  revert HS2
  unfold table
  generalize W.alloc (.map #[ent 43 20 0, ent 45 21 1, ent 42 22 2] 3) = W2
  intro HS2
  have m0 : (Instr.makeMap 40 none).run Try.prog W2 = .ok (.map (some W2.heap.size)) (W2.alloc (.map #[] 0)) := run_makeMap 40 W2
  have i1 : (Instr.mapUpdate 40 (.map (some W2.heap.size)) (.string ⟨#[43]⟩) (.func (.func 16) #[] #[])).run Try.prog (W2.alloc (.map #[] 0)) = .ok () (W2.alloc (.map #[ent 43 16 0] 1)) := insert_last W2 #[] 0 ⟨#[43]⟩ _ rfl
  have i2 : (Instr.mapUpdate 40 (.map (some W2.heap.size)) (.string ⟨#[45]⟩) (.func (.func 17) #[] #[])).run Try.prog (W2.alloc (.map #[ent 43 16 0] 1)) = .ok () (W2.alloc (.map #[ent 43 16 0, ent 45 17 1] 2)) := insert_last W2 _ 1 ⟨#[45]⟩ _ rfl
  have i3 : (Instr.mapUpdate 40 (.map (some W2.heap.size)) (.string ⟨#[42]⟩) (.func (.func 18) #[] #[])).run Try.prog (W2.alloc (.map #[ent 43 16 0, ent 45 17 1] 2)) = .ok () (W2.alloc (.map #[ent 43 16 0, ent 45 17 1, ent 42 18 2] 3)) := insert_last W2 _ 2 ⟨#[42]⟩ _ rfl
  go_simp
  go_wp2_with fail
  clear m0 i1 i2 i3
  have HS3 : Hid (RT w.heap.size ⟨k, n, s⟩ ⟨k', n', s'⟩ (W2.alloc (.map (table 16 17 18) 3)) ∧ Below w.heap.size w (W2.alloc (.map (table 16 17 18) 3))) := by
    obtain ⟨h1, h2, h3, h4⟩ := HS2.out
    have hb : Below W2.heap.size W2 (W2.alloc (.map (table 16 17 18) 3)) := (Below.refl W2.heap.size W2).alloc (Nat.le_refl _) _
    refine ⟨⟨h1.below hb (by omega), by simp; omega, (hb.block _ (by omega)).trans h4, ?_⟩, h3.alloc (by omega) _⟩
    rw [show w.heap.size + 1 + 1 + 1 + 1 + 1 = W2.heap.size by omega]; exact (MapKept.heap_alloc W2 _).1
  have hsz : W2.heap.size = w.heap.size + 1 + 1 + 1 + 1 + 1 := HS2.out.2.1
  rw [hsz]
  clear HS2 hsz
  revert HS3
  unfold table
  generalize W2.alloc (.map #[ent 43 16 0, ent 45 17 1, ent 42 18 2] 3) = W3
  intro HS3
  have l1 : (Instr.lookup 40 (.map (some (w.heap.size + 1 + 1 + 1 + 1))) (.string ⟨#[42]⟩) false).run Try.prog W3 = .ok (.func (.func 22) #[] #[]) W3 := lookup_at W3 _ _ _ HS3.out.1.m1 _ _ 2 rfl
  have q1 : ∀ w, (binOp .eql 35 (.func (.func 22) #[] #[]) .nilFunc).run Try.prog w = .ok (.bool false) w := fun _ => by rfl
  obtain ⟨⟨a0, a1, a2, b0, b1, b2, v0, v1, v2, e0, fv0, fv1, fv2, fe0⟩, hsz, m1, m2⟩ := HS3.out.1
  have HSZ := Lib.hid hsz
  have M1 := Lib.hid m1
  have M2 := Lib.hid m2
  clear hsz m1 m2
  go_wp2_with fail
  refine (vright_any ⟨k, n, s⟩ HA.out _).mono ?_; rintro e W4 ⟨rfl, hb⟩
  have HS4 := Lib.hid (RT.next HS3.out hb)
  clear hb
  clear a0 a1 a2 b0 b1 b2 v0 v1 v2 e0 fv0 fv1 fv2 fe0 HSZ M1 M2
  obtain ⟨⟨a0, a1, a2, b0, b1, b2, v0, v1, v2, e0, fv0, fv1, fv2, fe0⟩, hsz, m1, m2⟩ := HS4.out.1
  have HSZ := Lib.hid hsz
  have M1 := Lib.hid m1
  have M2 := Lib.hid m2
  clear hsz m1 m2
  go_wp2_with fail
  refine (vright_any ⟨k', n', s'⟩ HB.out _).mono ?_; rintro e W5 ⟨rfl, hb⟩
  have HS5 := Lib.hid (RT.next HS4.out hb)
  clear hb
  clear a0 a1 a2 b0 b1 b2 v0 v1 v2 e0 fv0 fv1 fv2 fe0 HSZ M1 M2
  obtain ⟨⟨a0, a1, a2, b0, b1, b2, v0, v1, v2, e0, fv0, fv1, fv2, fe0⟩, hsz, m1, m2⟩ := HS5.out.1
  have HSZ := Lib.hid hsz
  have M1 := Lib.hid m1
  have M2 := Lib.hid m2
  clear hsz m1 m2
  have l2 : (Instr.lookup 40 (.map (some (w.heap.size + 1 + 1 + 1 + 1 + 1))) (.string ⟨#[42]⟩) false).run Try.prog W5 = .ok (.func (.func 18) #[] #[]) W5 := lookup_at W5 _ _ _ HS5.out.1.m2 _ _ 2 rfl
  clear l1 q1
  have ne2 : (w.heap.size + 1 + 1 = w.heap.size) = False := eq_false (by omega)
  have ne3 : (w.heap.size + 1 + 1 + 1 = w.heap.size) = False := eq_false (by omega)
  go_wp2_with fail
  go_region_held3 (fun w' => w'.cell? ⟨w.heap.size, 0, none⟩ = some (.int .i64 k) ∧ w'.cell? ⟨w.heap.size, 1, none⟩ = some (.int .i64 n) ∧ w'.cell? ⟨w.heap.size + 1, 1, none⟩ = some (.int .i64 n')) (go_keep) (first | (go_at_call 18; refine (mul_c NA.out NB.out _).mono ?_; rintro e w' ⟨rfl, j, rfl⟩))
  refine (‹∀ (a : Act) (w : World), Code.wp Try.prog Code.ret _ a w → _›) _ _ (wp_ret ?_)
  exact door_idle (W := W5.drewN (1 + j)) (n := w.heap.size) rfl rfl v0 v1 v2 e0 (below_drewN HS5.out.2 _) (Nat.le_refl _) ⟨k, gMul n n', ⟨#[]⟩⟩ 0

set_option maxHeartbeats 800000 in
theorem reckon_int_add (a b : V) (ha : a.s.size ≤ maxLen) (hb : b.s.size ≤ maxLen) (na : -9223372036854775808 ≤ a.n ∧ a.n ≤ 9223372036854775807) (nb : -9223372036854775808 ≤ b.n ∧ b.n ≤ 9223372036854775807) (ra : vright a = true) (rb : vright b = true) (hk : (a.k != b.k) = false) (hk3 : (a.k == 3) = false) (hk2 : (a.k == 2) = false) (hf : fits (a.n + b.n) = true) (w : World) :
    Calls Try.prog 10 #[.string ⟨#[43]⟩, ev a, ev b] w fun e w' => e = .returned (.tuple #[ev ⟨a.k, a.n + b.n, ⟨#[]⟩⟩, .int .i64 0]) ∧ Below w.heap.size w w' := by
  have HA := Lib.hid ha
  have HB := Lib.hid hb
  have NA := Lib.hid na
  have NB := Lib.hid nb
  clear ha hb na nb
  have hs := start_is w a b
  unfold start at hs
  obtain ⟨k, n, s⟩ := a
  obtain ⟨k', n', s'⟩ := b
  unfold ev
  simp only at hs HA HB NA NB ra rb hk hk3 hk2 hf ⊢
  have hmf : ∀ (fn : Fn) (first cap : Array Value) (w : World), (Instr.makeFunc fn first cap).run Try.prog w = .ok (.func fn first cap) w := fun _ _ _ _ => rfl
  have HS := Lib.hid hs
  clear hs
  go_enter_defers Try.func10, Try.ntmps10
  go_wp2_with fail
  revert HS
  generalize (((w.alloc (.cells #[.int .i64 k, .int .i64 n, .string s] 23)).alloc (.cells #[.int .i64 k', .int .i64 n', .string s'] 23)).alloc
    (.cells #[.int .i64 0, .int .i64 0, .string ⟨#[]⟩] 23)).alloc (.cells #[.int .i64 0] 25) = W
  intro HS
  have m0 : (Instr.makeMap 40 none).run Try.prog W = .ok (.map (some W.heap.size)) (W.alloc (.map #[] 0)) := run_makeMap 40 W
  have i1 : (Instr.mapUpdate 40 (.map (some W.heap.size)) (.string ⟨#[43]⟩) (.func (.func 20) #[] #[])).run Try.prog (W.alloc (.map #[] 0)) = .ok () (W.alloc (.map #[ent 43 20 0] 1)) := insert_last W #[] 0 ⟨#[43]⟩ _ rfl
  have i2 : (Instr.mapUpdate 40 (.map (some W.heap.size)) (.string ⟨#[45]⟩) (.func (.func 21) #[] #[])).run Try.prog (W.alloc (.map #[ent 43 20 0] 1)) = .ok () (W.alloc (.map #[ent 43 20 0, ent 45 21 1] 2)) := insert_last W _ 1 ⟨#[45]⟩ _ rfl
  have i3 : (Instr.mapUpdate 40 (.map (some W.heap.size)) (.string ⟨#[42]⟩) (.func (.func 22) #[] #[])).run Try.prog (W.alloc (.map #[ent 43 20 0, ent 45 21 1] 2)) = .ok () (W.alloc (.map #[ent 43 20 0, ent 45 21 1, ent 42 22 2] 3)) := insert_last W _ 2 ⟨#[42]⟩ _ rfl
  go_simp
  go_wp2_with fail
  clear m0 i1 i2 i3
  have HS2 : Hid (RS w.heap.size ⟨k, n, s⟩ ⟨k', n', s'⟩ (W.alloc (.map (table 20 21 22) 3)) ∧ (W.alloc (.map (table 20 21 22) 3)).heap.size = w.heap.size + 5 ∧ Below w.heap.size w (W.alloc (.map (table 20 21 22) 3)) ∧
      (W.alloc (.map (table 20 21 22) 3)).heap[w.heap.size + 1 + 1 + 1 + 1]? = some (.map (table 20 21 22) 3)) := by
    obtain ⟨h1, h2, h3⟩ := HS.out
    refine ⟨h1.below ((Below.refl W.heap.size W).alloc (Nat.le_refl _) _) (by omega), by simp; omega, h3.alloc (by omega) _, ?_⟩
    rw [show w.heap.size + 1 + 1 + 1 + 1 = W.heap.size by omega]; exact (MapKept.heap_alloc W _).1
  have hsz : W.heap.size = w.heap.size + 1 + 1 + 1 + 1 := HS.out.2.1
  rw [hsz]
  clear HS hsz
  revert HS2
  unfold table
  generalize W.alloc (.map #[ent 43 20 0, ent 45 21 1, ent 42 22 2] 3) = W2
  intro HS2
  have m0 : (Instr.makeMap 40 none).run Try.prog W2 = .ok (.map (some W2.heap.size)) (W2.alloc (.map #[] 0)) := run_makeMap 40 W2
  have i1 : (Instr.mapUpdate 40 (.map (some W2.heap.size)) (.string ⟨#[43]⟩) (.func (.func 16) #[] #[])).run Try.prog (W2.alloc (.map #[] 0)) = .ok () (W2.alloc (.map #[ent 43 16 0] 1)) := insert_last W2 #[] 0 ⟨#[43]⟩ _ rfl
  have i2 : (Instr.mapUpdate 40 (.map (some W2.heap.size)) (.string ⟨#[45]⟩) (.func (.func 17) #[] #[])).run Try.prog (W2.alloc (.map #[ent 43 16 0] 1)) = .ok () (W2.alloc (.map #[ent 43 16 0, ent 45 17 1] 2)) := insert_last W2 _ 1 ⟨#[45]⟩ _ rfl
  have i3 : (Instr.mapUpdate 40 (.map (some W2.heap.size)) (.string ⟨#[42]⟩) (.func (.func 18) #[] #[])).run Try.prog (W2.alloc (.map #[ent 43 16 0, ent 45 17 1] 2)) = .ok () (W2.alloc (.map #[ent 43 16 0, ent 45 17 1, ent 42 18 2] 3)) := insert_last W2 _ 2 ⟨#[42]⟩ _ rfl
  go_simp
  go_wp2_with fail
  clear m0 i1 i2 i3
  have HS3 : Hid (RT w.heap.size ⟨k, n, s⟩ ⟨k', n', s'⟩ (W2.alloc (.map (table 16 17 18) 3)) ∧ Below w.heap.size w (W2.alloc (.map (table 16 17 18) 3))) := by
    obtain ⟨h1, h2, h3, h4⟩ := HS2.out
    have hb : Below W2.heap.size W2 (W2.alloc (.map (table 16 17 18) 3)) := (Below.refl W2.heap.size W2).alloc (Nat.le_refl _) _
    refine ⟨⟨h1.below hb (by omega), by simp; omega, (hb.block _ (by omega)).trans h4, ?_⟩, h3.alloc (by omega) _⟩
    rw [show w.heap.size + 1 + 1 + 1 + 1 + 1 = W2.heap.size by omega]; exact (MapKept.heap_alloc W2 _).1
  have hsz : W2.heap.size = w.heap.size + 1 + 1 + 1 + 1 + 1 := HS2.out.2.1
  rw [hsz]
  clear HS2 hsz
  revert HS3
  unfold table
  generalize W2.alloc (.map #[ent 43 16 0, ent 45 17 1, ent 42 18 2] 3) = W3
  intro HS3
  have HF := Lib.hid hf
  clear hf
  have l1 : (Instr.lookup 40 (.map (some (w.heap.size + 1 + 1 + 1 + 1))) (.string ⟨#[43]⟩) false).run Try.prog W3 = .ok (.func (.func 20) #[] #[]) W3 := lookup_at W3 _ _ _ HS3.out.1.m1 _ _ 0 rfl
  have q1 : ∀ w, (binOp .eql 35 (.func (.func 20) #[] #[]) .nilFunc).run Try.prog w = .ok (.bool false) w := fun _ => by rfl
  obtain ⟨⟨a0, a1, a2, b0, b1, b2, v0, v1, v2, e0, fv0, fv1, fv2, fe0⟩, hsz, m1, m2⟩ := HS3.out.1
  have HSZ := Lib.hid hsz
  have M1 := Lib.hid m1
  have M2 := Lib.hid m2
  clear hsz m1 m2
  go_wp2_with fail
  refine (vright_any ⟨k, n, s⟩ HA.out _).mono ?_; rintro e W4 ⟨rfl, hb⟩
  have HS4 := Lib.hid (RT.next HS3.out hb)
  clear hb
  clear a0 a1 a2 b0 b1 b2 v0 v1 v2 e0 fv0 fv1 fv2 fe0 HSZ M1 M2
  obtain ⟨⟨a0, a1, a2, b0, b1, b2, v0, v1, v2, e0, fv0, fv1, fv2, fe0⟩, hsz, m1, m2⟩ := HS4.out.1
  have HSZ := Lib.hid hsz
  have M1 := Lib.hid m1
  have M2 := Lib.hid m2
  clear hsz m1 m2
  go_wp2_with fail
  refine (vright_any ⟨k', n', s'⟩ HB.out _).mono ?_; rintro e W5 ⟨rfl, hb⟩
  have HS5 := Lib.hid (RT.next HS4.out hb)
  clear hb
  clear a0 a1 a2 b0 b1 b2 v0 v1 v2 e0 fv0 fv1 fv2 fe0 HSZ M1 M2
  obtain ⟨⟨a0, a1, a2, b0, b1, b2, v0, v1, v2, e0, fv0, fv1, fv2, fe0⟩, hsz, m1, m2⟩ := HS5.out.1
  have HSZ := Lib.hid hsz
  have M1 := Lib.hid m1
  have M2 := Lib.hid m2
  clear hsz m1 m2
  clear l1 q1
  have ne2 : (w.heap.size + 1 + 1 = w.heap.size) = False := eq_false (by omega)
  have ne3 : (w.heap.size + 1 + 1 + 1 = w.heap.size) = False := eq_false (by omega)
  go_wp2_with fail
  go_region_held3 (fun w' => w'.cell? ⟨w.heap.size, 0, none⟩ = some (.int .i64 k) ∧ w'.cell? ⟨w.heap.size, 1, none⟩ = some (.int .i64 n) ∧ w'.cell? ⟨w.heap.size + 1, 1, none⟩ = some (.int .i64 n')) (go_keep) (first | (go_at_call 20; refine (sum_fits NA.out NB.out HF.out _).mono ?_; rintro e w' ⟨rfl, rfl⟩))
  refine (‹∀ (a : Act) (w : World), Code.wp Try.prog Code.ret _ a w → _›) _ _ (wp_ret ?_)
  exact door_idle (W := W5.drew) (n := w.heap.size) rfl rfl v0 v1 v2 e0 HS5.out.2.drew (Nat.le_refl _) ⟨k, n + n', ⟨#[]⟩⟩ 0

set_option maxHeartbeats 800000 in
theorem reckon_int_sub (a b : V) (ha : a.s.size ≤ maxLen) (hb : b.s.size ≤ maxLen) (na : -9223372036854775808 ≤ a.n ∧ a.n ≤ 9223372036854775807) (nb : -9223372036854775808 ≤ b.n ∧ b.n ≤ 9223372036854775807) (ra : vright a = true) (rb : vright b = true) (hk : (a.k != b.k) = false) (hk3 : (a.k == 3) = false) (hk2 : (a.k == 2) = false) (hf : fits (a.n - b.n) = true) (w : World) :
    Calls Try.prog 10 #[.string ⟨#[45]⟩, ev a, ev b] w fun e w' => e = .returned (.tuple #[ev ⟨a.k, a.n - b.n, ⟨#[]⟩⟩, .int .i64 0]) ∧ Below w.heap.size w w' := by
  have HA := Lib.hid ha
  have HB := Lib.hid hb
  have NA := Lib.hid na
  have NB := Lib.hid nb
  clear ha hb na nb
  have hs := start_is w a b
  unfold start at hs
  obtain ⟨k, n, s⟩ := a
  obtain ⟨k', n', s'⟩ := b
  unfold ev
  simp only at hs HA HB NA NB ra rb hk hk3 hk2 hf ⊢
  have hmf : ∀ (fn : Fn) (first cap : Array Value) (w : World), (Instr.makeFunc fn first cap).run Try.prog w = .ok (.func fn first cap) w := fun _ _ _ _ => rfl
  have HS := Lib.hid hs
  clear hs
  go_enter_defers Try.func10, Try.ntmps10
  go_wp2_with fail
  revert HS
  generalize (((w.alloc (.cells #[.int .i64 k, .int .i64 n, .string s] 23)).alloc (.cells #[.int .i64 k', .int .i64 n', .string s'] 23)).alloc
    (.cells #[.int .i64 0, .int .i64 0, .string ⟨#[]⟩] 23)).alloc (.cells #[.int .i64 0] 25) = W
  intro HS
  have m0 : (Instr.makeMap 40 none).run Try.prog W = .ok (.map (some W.heap.size)) (W.alloc (.map #[] 0)) := run_makeMap 40 W
  have i1 : (Instr.mapUpdate 40 (.map (some W.heap.size)) (.string ⟨#[43]⟩) (.func (.func 20) #[] #[])).run Try.prog (W.alloc (.map #[] 0)) = .ok () (W.alloc (.map #[ent 43 20 0] 1)) := insert_last W #[] 0 ⟨#[43]⟩ _ rfl
  have i2 : (Instr.mapUpdate 40 (.map (some W.heap.size)) (.string ⟨#[45]⟩) (.func (.func 21) #[] #[])).run Try.prog (W.alloc (.map #[ent 43 20 0] 1)) = .ok () (W.alloc (.map #[ent 43 20 0, ent 45 21 1] 2)) := insert_last W _ 1 ⟨#[45]⟩ _ rfl
  have i3 : (Instr.mapUpdate 40 (.map (some W.heap.size)) (.string ⟨#[42]⟩) (.func (.func 22) #[] #[])).run Try.prog (W.alloc (.map #[ent 43 20 0, ent 45 21 1] 2)) = .ok () (W.alloc (.map #[ent 43 20 0, ent 45 21 1, ent 42 22 2] 3)) := insert_last W _ 2 ⟨#[42]⟩ _ rfl
  go_simp
  go_wp2_with fail
  clear m0 i1 i2 i3
  have HS2 : Hid (RS w.heap.size ⟨k, n, s⟩ ⟨k', n', s'⟩ (W.alloc (.map (table 20 21 22) 3)) ∧ (W.alloc (.map (table 20 21 22) 3)).heap.size = w.heap.size + 5 ∧ Below w.heap.size w (W.alloc (.map (table 20 21 22) 3)) ∧
      (W.alloc (.map (table 20 21 22) 3)).heap[w.heap.size + 1 + 1 + 1 + 1]? = some (.map (table 20 21 22) 3)) := by
    obtain ⟨h1, h2, h3⟩ := HS.out
    refine ⟨h1.below ((Below.refl W.heap.size W).alloc (Nat.le_refl _) _) (by omega), by simp; omega, h3.alloc (by omega) _, ?_⟩
    rw [show w.heap.size + 1 + 1 + 1 + 1 = W.heap.size by omega]; exact (MapKept.heap_alloc W _).1
  have hsz : W.heap.size = w.heap.size + 1 + 1 + 1 + 1 := HS.out.2.1
  rw [hsz]
  clear HS hsz
  revert HS2
  unfold table
  generalize W.alloc (.map #[ent 43 20 0, ent 45 21 1, ent 42 22 2] 3) = W2
  intro HS2
  have m0 : (Instr.makeMap 40 none).run Try.prog W2 = .ok (.map (some W2.heap.size)) (W2.alloc (.map #[] 0)) := run_makeMap 40 W2
  have i1 : (Instr.mapUpdate 40 (.map (some W2.heap.size)) (.string ⟨#[43]⟩) (.func (.func 16) #[] #[])).run Try.prog (W2.alloc (.map #[] 0)) = .ok () (W2.alloc (.map #[ent 43 16 0] 1)) := insert_last W2 #[] 0 ⟨#[43]⟩ _ rfl
  have i2 : (Instr.mapUpdate 40 (.map (some W2.heap.size)) (.string ⟨#[45]⟩) (.func (.func 17) #[] #[])).run Try.prog (W2.alloc (.map #[ent 43 16 0] 1)) = .ok () (W2.alloc (.map #[ent 43 16 0, ent 45 17 1] 2)) := insert_last W2 _ 1 ⟨#[45]⟩ _ rfl
  have i3 : (Instr.mapUpdate 40 (.map (some W2.heap.size)) (.string ⟨#[42]⟩) (.func (.func 18) #[] #[])).run Try.prog (W2.alloc (.map #[ent 43 16 0, ent 45 17 1] 2)) = .ok () (W2.alloc (.map #[ent 43 16 0, ent 45 17 1, ent 42 18 2] 3)) := insert_last W2 _ 2 ⟨#[42]⟩ _ rfl
  go_simp
  go_wp2_with fail
  clear m0 i1 i2 i3
  have HS3 : Hid (RT w.heap.size ⟨k, n, s⟩ ⟨k', n', s'⟩ (W2.alloc (.map (table 16 17 18) 3)) ∧ Below w.heap.size w (W2.alloc (.map (table 16 17 18) 3))) := by
    obtain ⟨h1, h2, h3, h4⟩ := HS2.out
    have hb : Below W2.heap.size W2 (W2.alloc (.map (table 16 17 18) 3)) := (Below.refl W2.heap.size W2).alloc (Nat.le_refl _) _
    refine ⟨⟨h1.below hb (by omega), by simp; omega, (hb.block _ (by omega)).trans h4, ?_⟩, h3.alloc (by omega) _⟩
    rw [show w.heap.size + 1 + 1 + 1 + 1 + 1 = W2.heap.size by omega]; exact (MapKept.heap_alloc W2 _).1
  have hsz : W2.heap.size = w.heap.size + 1 + 1 + 1 + 1 + 1 := HS2.out.2.1
  rw [hsz]
  clear HS2 hsz
  revert HS3
  unfold table
  generalize W2.alloc (.map #[ent 43 16 0, ent 45 17 1, ent 42 18 2] 3) = W3
  intro HS3
  have HF := Lib.hid hf
  clear hf
  have l1 : (Instr.lookup 40 (.map (some (w.heap.size + 1 + 1 + 1 + 1))) (.string ⟨#[45]⟩) false).run Try.prog W3 = .ok (.func (.func 21) #[] #[]) W3 := lookup_at W3 _ _ _ HS3.out.1.m1 _ _ 1 rfl
  have q1 : ∀ w, (binOp .eql 35 (.func (.func 21) #[] #[]) .nilFunc).run Try.prog w = .ok (.bool false) w := fun _ => by rfl
  obtain ⟨⟨a0, a1, a2, b0, b1, b2, v0, v1, v2, e0, fv0, fv1, fv2, fe0⟩, hsz, m1, m2⟩ := HS3.out.1
  have HSZ := Lib.hid hsz
  have M1 := Lib.hid m1
  have M2 := Lib.hid m2
  clear hsz m1 m2
  go_wp2_with fail
  refine (vright_any ⟨k, n, s⟩ HA.out _).mono ?_; rintro e W4 ⟨rfl, hb⟩
  have HS4 := Lib.hid (RT.next HS3.out hb)
  clear hb
  clear a0 a1 a2 b0 b1 b2 v0 v1 v2 e0 fv0 fv1 fv2 fe0 HSZ M1 M2
  obtain ⟨⟨a0, a1, a2, b0, b1, b2, v0, v1, v2, e0, fv0, fv1, fv2, fe0⟩, hsz, m1, m2⟩ := HS4.out.1
  have HSZ := Lib.hid hsz
  have M1 := Lib.hid m1
  have M2 := Lib.hid m2
  clear hsz m1 m2
  go_wp2_with fail
  refine (vright_any ⟨k', n', s'⟩ HB.out _).mono ?_; rintro e W5 ⟨rfl, hb⟩
  have HS5 := Lib.hid (RT.next HS4.out hb)
  clear hb
  clear a0 a1 a2 b0 b1 b2 v0 v1 v2 e0 fv0 fv1 fv2 fe0 HSZ M1 M2
  obtain ⟨⟨a0, a1, a2, b0, b1, b2, v0, v1, v2, e0, fv0, fv1, fv2, fe0⟩, hsz, m1, m2⟩ := HS5.out.1
  have HSZ := Lib.hid hsz
  have M1 := Lib.hid m1
  have M2 := Lib.hid m2
  clear hsz m1 m2
  clear l1 q1
  have ne2 : (w.heap.size + 1 + 1 = w.heap.size) = False := eq_false (by omega)
  have ne3 : (w.heap.size + 1 + 1 + 1 = w.heap.size) = False := eq_false (by omega)
  go_wp2_with fail
  go_region_held3 (fun w' => w'.cell? ⟨w.heap.size, 0, none⟩ = some (.int .i64 k) ∧ w'.cell? ⟨w.heap.size, 1, none⟩ = some (.int .i64 n) ∧ w'.cell? ⟨w.heap.size + 1, 1, none⟩ = some (.int .i64 n')) (go_keep) (first | (go_at_call 21; refine (less_fits NA.out NB.out HF.out _).mono ?_; rintro e w' ⟨rfl, rfl⟩))
  refine (‹∀ (a : Act) (w : World), Code.wp Try.prog Code.ret _ a w → _›) _ _ (wp_ret ?_)
  exact door_idle (W := W5.drew) (n := w.heap.size) rfl rfl v0 v1 v2 e0 HS5.out.2.drew (Nat.le_refl _) ⟨k, n - n', ⟨#[]⟩⟩ 0

set_option maxHeartbeats 800000 in
theorem reckon_int_mul (a b : V) (ha : a.s.size ≤ maxLen) (hb : b.s.size ≤ maxLen) (na : -9223372036854775808 ≤ a.n ∧ a.n ≤ 9223372036854775807) (nb : -9223372036854775808 ≤ b.n ∧ b.n ≤ 9223372036854775807) (ra : vright a = true) (rb : vright b = true) (hk : (a.k != b.k) = false) (hk3 : (a.k == 3) = false) (hk2 : (a.k == 2) = false) (hf : fits (a.n * b.n) = true) (w : World) :
    Calls Try.prog 10 #[.string ⟨#[42]⟩, ev a, ev b] w fun e w' => e = .returned (.tuple #[ev ⟨a.k, a.n * b.n, ⟨#[]⟩⟩, .int .i64 0]) ∧ Below w.heap.size w w' := by
  have HA := Lib.hid ha
  have HB := Lib.hid hb
  have NA := Lib.hid na
  have NB := Lib.hid nb
  clear ha hb na nb
  have hs := start_is w a b
  unfold start at hs
  obtain ⟨k, n, s⟩ := a
  obtain ⟨k', n', s'⟩ := b
  unfold ev
  simp only at hs HA HB NA NB ra rb hk hk3 hk2 hf ⊢
  have hmf : ∀ (fn : Fn) (first cap : Array Value) (w : World), (Instr.makeFunc fn first cap).run Try.prog w = .ok (.func fn first cap) w := fun _ _ _ _ => rfl
  have HS := Lib.hid hs
  clear hs
  go_enter_defers Try.func10, Try.ntmps10
  go_wp2_with fail
  revert HS
  generalize (((w.alloc (.cells #[.int .i64 k, .int .i64 n, .string s] 23)).alloc (.cells #[.int .i64 k', .int .i64 n', .string s'] 23)).alloc
    (.cells #[.int .i64 0, .int .i64 0, .string ⟨#[]⟩] 23)).alloc (.cells #[.int .i64 0] 25) = W
  intro HS
  have m0 : (Instr.makeMap 40 none).run Try.prog W = .ok (.map (some W.heap.size)) (W.alloc (.map #[] 0)) := run_makeMap 40 W
  have i1 : (Instr.mapUpdate 40 (.map (some W.heap.size)) (.string ⟨#[43]⟩) (.func (.func 20) #[] #[])).run Try.prog (W.alloc (.map #[] 0)) = .ok () (W.alloc (.map #[ent 43 20 0] 1)) := insert_last W #[] 0 ⟨#[43]⟩ _ rfl
  have i2 : (Instr.mapUpdate 40 (.map (some W.heap.size)) (.string ⟨#[45]⟩) (.func (.func 21) #[] #[])).run Try.prog (W.alloc (.map #[ent 43 20 0] 1)) = .ok () (W.alloc (.map #[ent 43 20 0, ent 45 21 1] 2)) := insert_last W _ 1 ⟨#[45]⟩ _ rfl
  have i3 : (Instr.mapUpdate 40 (.map (some W.heap.size)) (.string ⟨#[42]⟩) (.func (.func 22) #[] #[])).run Try.prog (W.alloc (.map #[ent 43 20 0, ent 45 21 1] 2)) = .ok () (W.alloc (.map #[ent 43 20 0, ent 45 21 1, ent 42 22 2] 3)) := insert_last W _ 2 ⟨#[42]⟩ _ rfl
  go_simp
  go_wp2_with fail
  clear m0 i1 i2 i3
  have HS2 : Hid (RS w.heap.size ⟨k, n, s⟩ ⟨k', n', s'⟩ (W.alloc (.map (table 20 21 22) 3)) ∧ (W.alloc (.map (table 20 21 22) 3)).heap.size = w.heap.size + 5 ∧ Below w.heap.size w (W.alloc (.map (table 20 21 22) 3)) ∧
      (W.alloc (.map (table 20 21 22) 3)).heap[w.heap.size + 1 + 1 + 1 + 1]? = some (.map (table 20 21 22) 3)) := by
    obtain ⟨h1, h2, h3⟩ := HS.out
    refine ⟨h1.below ((Below.refl W.heap.size W).alloc (Nat.le_refl _) _) (by omega), by simp; omega, h3.alloc (by omega) _, ?_⟩
    rw [show w.heap.size + 1 + 1 + 1 + 1 = W.heap.size by omega]; exact (MapKept.heap_alloc W _).1
  have hsz : W.heap.size = w.heap.size + 1 + 1 + 1 + 1 := HS.out.2.1
  rw [hsz]
  clear HS hsz
  revert HS2
  unfold table
  generalize W.alloc (.map #[ent 43 20 0, ent 45 21 1, ent 42 22 2] 3) = W2
  intro HS2
  have m0 : (Instr.makeMap 40 none).run Try.prog W2 = .ok (.map (some W2.heap.size)) (W2.alloc (.map #[] 0)) := run_makeMap 40 W2
  have i1 : (Instr.mapUpdate 40 (.map (some W2.heap.size)) (.string ⟨#[43]⟩) (.func (.func 16) #[] #[])).run Try.prog (W2.alloc (.map #[] 0)) = .ok () (W2.alloc (.map #[ent 43 16 0] 1)) := insert_last W2 #[] 0 ⟨#[43]⟩ _ rfl
  have i2 : (Instr.mapUpdate 40 (.map (some W2.heap.size)) (.string ⟨#[45]⟩) (.func (.func 17) #[] #[])).run Try.prog (W2.alloc (.map #[ent 43 16 0] 1)) = .ok () (W2.alloc (.map #[ent 43 16 0, ent 45 17 1] 2)) := insert_last W2 _ 1 ⟨#[45]⟩ _ rfl
  have i3 : (Instr.mapUpdate 40 (.map (some W2.heap.size)) (.string ⟨#[42]⟩) (.func (.func 18) #[] #[])).run Try.prog (W2.alloc (.map #[ent 43 16 0, ent 45 17 1] 2)) = .ok () (W2.alloc (.map #[ent 43 16 0, ent 45 17 1, ent 42 18 2] 3)) := insert_last W2 _ 2 ⟨#[42]⟩ _ rfl
  go_simp
  go_wp2_with fail
  clear m0 i1 i2 i3
  have HS3 : Hid (RT w.heap.size ⟨k, n, s⟩ ⟨k', n', s'⟩ (W2.alloc (.map (table 16 17 18) 3)) ∧ Below w.heap.size w (W2.alloc (.map (table 16 17 18) 3))) := by
    obtain ⟨h1, h2, h3, h4⟩ := HS2.out
    have hb : Below W2.heap.size W2 (W2.alloc (.map (table 16 17 18) 3)) := (Below.refl W2.heap.size W2).alloc (Nat.le_refl _) _
    refine ⟨⟨h1.below hb (by omega), by simp; omega, (hb.block _ (by omega)).trans h4, ?_⟩, h3.alloc (by omega) _⟩
    rw [show w.heap.size + 1 + 1 + 1 + 1 + 1 = W2.heap.size by omega]; exact (MapKept.heap_alloc W2 _).1
  have hsz : W2.heap.size = w.heap.size + 1 + 1 + 1 + 1 + 1 := HS2.out.2.1
  rw [hsz]
  clear HS2 hsz
  revert HS3
  unfold table
  generalize W2.alloc (.map #[ent 43 16 0, ent 45 17 1, ent 42 18 2] 3) = W3
  intro HS3
  have HF := Lib.hid hf
  clear hf
  have l1 : (Instr.lookup 40 (.map (some (w.heap.size + 1 + 1 + 1 + 1))) (.string ⟨#[42]⟩) false).run Try.prog W3 = .ok (.func (.func 22) #[] #[]) W3 := lookup_at W3 _ _ _ HS3.out.1.m1 _ _ 2 rfl
  have q1 : ∀ w, (binOp .eql 35 (.func (.func 22) #[] #[]) .nilFunc).run Try.prog w = .ok (.bool false) w := fun _ => by rfl
  obtain ⟨⟨a0, a1, a2, b0, b1, b2, v0, v1, v2, e0, fv0, fv1, fv2, fe0⟩, hsz, m1, m2⟩ := HS3.out.1
  have HSZ := Lib.hid hsz
  have M1 := Lib.hid m1
  have M2 := Lib.hid m2
  clear hsz m1 m2
  go_wp2_with fail
  refine (vright_any ⟨k, n, s⟩ HA.out _).mono ?_; rintro e W4 ⟨rfl, hb⟩
  have HS4 := Lib.hid (RT.next HS3.out hb)
  clear hb
  clear a0 a1 a2 b0 b1 b2 v0 v1 v2 e0 fv0 fv1 fv2 fe0 HSZ M1 M2
  obtain ⟨⟨a0, a1, a2, b0, b1, b2, v0, v1, v2, e0, fv0, fv1, fv2, fe0⟩, hsz, m1, m2⟩ := HS4.out.1
  have HSZ := Lib.hid hsz
  have M1 := Lib.hid m1
  have M2 := Lib.hid m2
  clear hsz m1 m2
  go_wp2_with fail
  refine (vright_any ⟨k', n', s'⟩ HB.out _).mono ?_; rintro e W5 ⟨rfl, hb⟩
  have HS5 := Lib.hid (RT.next HS4.out hb)
  clear hb
  clear a0 a1 a2 b0 b1 b2 v0 v1 v2 e0 fv0 fv1 fv2 fe0 HSZ M1 M2
  obtain ⟨⟨a0, a1, a2, b0, b1, b2, v0, v1, v2, e0, fv0, fv1, fv2, fe0⟩, hsz, m1, m2⟩ := HS5.out.1
  have HSZ := Lib.hid hsz
  have M1 := Lib.hid m1
  have M2 := Lib.hid m2
  clear hsz m1 m2
  clear l1 q1
  have ne2 : (w.heap.size + 1 + 1 = w.heap.size) = False := eq_false (by omega)
  have ne3 : (w.heap.size + 1 + 1 + 1 = w.heap.size) = False := eq_false (by omega)
  go_wp2_with fail
  go_region_held3 (fun w' => w'.cell? ⟨w.heap.size, 0, none⟩ = some (.int .i64 k) ∧ w'.cell? ⟨w.heap.size, 1, none⟩ = some (.int .i64 n) ∧ w'.cell? ⟨w.heap.size + 1, 1, none⟩ = some (.int .i64 n')) (go_keep) (first | (go_at_call 22; refine (times_fits NA.out NB.out HF.out _).mono ?_; rintro e w' ⟨rfl, rfl⟩))
  refine (‹∀ (a : Act) (w : World), Code.wp Try.prog Code.ret _ a w → _›) _ _ (wp_ret ?_)
  exact door_idle (W := W5.drew) (n := w.heap.size) rfl rfl v0 v1 v2 e0 HS5.out.2.drew (Nat.le_refl _) ⟨k, n * n', ⟨#[]⟩⟩ 0

end Go.Proofs.Ytcoidmkaddnkdaa
