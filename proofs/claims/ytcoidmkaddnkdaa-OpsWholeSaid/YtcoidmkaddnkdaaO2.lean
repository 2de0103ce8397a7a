/- THE WALK OF ops.Reckon. No condition. -/
import Derived.Test.YtcoidmkaddnkdaaO1
import Derived.Recover
import Derived.Deep.RegionWith
namespace Go.Proofs.Ytcoidmkaddnkdaa
open Go.RowKit AnteFlo AnteVal AnteOps

/-! ### The maps of functions -/
def fnv (f : Nat) : Value := .func (.func f) #[] #[]
def ent (k : UInt8) (f : Nat) (b : Nat) : MapEntry := { key := .string ⟨#[k]⟩, val := fnv f, born := b }
def table (p q r : Nat) : Array MapEntry := #[ent 43 p 0, ent 45 q 1, ent 42 r 2]

theorem heap_set_last (W : World) (o o' : Obj) : { W.alloc o with heap := (W.alloc o).heap.setIfInBounds W.heap.size o' } = W.alloc o' := by
  simp only [World.alloc]
  congr 1
  apply Array.ext'
  simp [Array.setIfInBounds, Array.toList_push]

theorem insert_last (W : World) (es : Array MapEntry) (clock : Nat) (k : ByteArray) (v : Value) (h1 : Instr.findNow .string (.string k) es.toList 0 = some none) :
    (Instr.mapUpdate 40 (.map (some W.heap.size)) (.string k) v).run Try.prog (W.alloc (.map es clock)) = .ok () (W.alloc (.map (es.push { key := .string k, val := v, born := clock }) (clock + 1))) := by
  have hb : (W.alloc (.map es clock)).heap[W.heap.size]? = some (.map es clock) := (MapKept.heap_alloc W _).1
  have hk := Try.underlying9
  have hc : (Instr.checkKey false 10000 9 (.string k)).run Try.prog (W.alloc (.map es clock)) = .ok () (W.alloc (.map es clock)) := MapKept.run_checkKey (k := .string k) hk (by simp [MapKept.IsKey]) false 9999
  simp [Instr.mapUpdate, run_underlying Try.underlying40, MapKept.run_getObj_map hb, hc, MapKept.run_findKey hk h1, MapKept.run_setObj_map _ hb, Result.andThen]
  exact heap_set_last ..

theorem lookup_at (W : World) (r : Nat) (es : Array MapEntry) (clock : Nat) (hb : W.heap[r]? = some (.map es clock)) (k : ByteArray) (v : Value) (i : Nat)
    (h1 : Instr.findNow .string (.string k) es.toList 0 = some (some (i, v))) :
    (Instr.lookup 40 (.map (some r)) (.string k) false).run Try.prog W = .ok v W := by
  have hk := Try.underlying9
  have hc : (Instr.checkKey es.isEmpty 10000 9 (.string k)).run Try.prog W = .ok () W := MapKept.run_checkKey (k := .string k) hk (by simp [MapKept.IsKey]) _ 9999
  simp [Instr.lookup, run_underlying Try.underlying40, MapKept.run_getObj_map hb, hc, MapKept.run_findKey hk h1, Result.andThen]

theorem lookup_none (W : World) (r : Nat) (es : Array MapEntry) (clock : Nat) (hb : W.heap[r]? = some (.map es clock)) (k : ByteArray)
    (h1 : Instr.findNow .string (.string k) es.toList 0 = some none) :
    (Instr.lookup 40 (.map (some r)) (.string k) false).run Try.prog W = .ok .nilFunc W := by
  have hk := Try.underlying9
  have hc : (Instr.checkKey es.isEmpty 10000 9 (.string k)).run Try.prog W = .ok () W := MapKept.run_checkKey (k := .string k) hk (by simp [MapKept.IsKey]) _ 9999
  have hz : (zeroValue 35).run Try.prog W = .ok .nilFunc W := by kernel_rfl
  simp [Instr.lookup, run_underlying Try.underlying40, MapKept.run_getObj_map hb, hc, MapKept.run_findKey hk h1, Result.andThen, hz]

def isOp (op : ByteArray) : Bool := op == ⟨#[43]⟩ || op == ⟨#[45]⟩ || op == ⟨#[42]⟩
theorem find_none {op : ByteArray} (p q r : Nat) (h : isOp op = false) : Instr.findNow .string (.string op) (table p q r).toList 0 = some none := by
  unfold isOp at h
  simp only [Bool.or_eq_false_iff] at h
  simp [table, ent, Instr.findNow, Instr.sameNow, h.1.1, h.1.2, h.2]

/-! ### Where things lie -/
structure RS (n : Nat) (a b : V) (W : World) : Prop where
  a0 : W.cell? ⟨n, 0, none⟩ = some (.int .i64 a.k)
  a1 : W.cell? ⟨n, 1, none⟩ = some (.int .i64 a.n)
  a2 : W.cell? ⟨n, 2, none⟩ = some (.string a.s)
  b0 : W.cell? ⟨n + 1, 0, none⟩ = some (.int .i64 b.k)
  b1 : W.cell? ⟨n + 1, 1, none⟩ = some (.int .i64 b.n)
  b2 : W.cell? ⟨n + 1, 2, none⟩ = some (.string b.s)
  v0 : W.cell? ⟨n + 1 + 1, 0, none⟩ = some (.int .i64 0)
  v1 : W.cell? ⟨n + 1 + 1, 1, none⟩ = some (.int .i64 0)
  v2 : W.cell? ⟨n + 1 + 1, 2, none⟩ = some (.string ⟨#[]⟩)
  e0 : W.cell? ⟨n + 1 + 1 + 1, 0, none⟩ = some (.int .i64 0)
  fv0 : W.frozen? ⟨n + 1 + 1, 0, none⟩ = false
  fv1 : W.frozen? ⟨n + 1 + 1, 1, none⟩ = false
  fv2 : W.frozen? ⟨n + 1 + 1, 2, none⟩ = false
  fe0 : W.frozen? ⟨n + 1 + 1 + 1, 0, none⟩ = false

theorem RS.below {n : Nat} {a b : V} {W W' : World} {B : Nat} (h : RS n a b W) (hb : Below B W W') (hB : n + 4 ≤ B) : RS n a b W' := by
  obtain ⟨a0, a1, a2, b0, b1, b2, v0, v1, v2, e0, f0, f1, f2, f3⟩ := h
  exact ⟨(hb.cell (by simp; omega)).trans a0, (hb.cell (by simp; omega)).trans a1, (hb.cell (by simp; omega)).trans a2,
    (hb.cell (by simp; omega)).trans b0, (hb.cell (by simp; omega)).trans b1, (hb.cell (by simp; omega)).trans b2,
    (hb.cell (by simp; omega)).trans v0, (hb.cell (by simp; omega)).trans v1, (hb.cell (by simp; omega)).trans v2, (hb.cell (by simp; omega)).trans e0,
    (hb.frozen (by simp; omega)).trans f0, (hb.frozen (by simp; omega)).trans f1, (hb.frozen (by simp; omega)).trans f2, (hb.frozen (by simp; omega)).trans f3⟩

def start (w : World) (a b : V) : World := (((w.alloc (.cells #[.int .i64 a.k, .int .i64 a.n, .string a.s] 23)).alloc (.cells #[.int .i64 b.k, .int .i64 b.n, .string b.s] 23)).alloc
  (.cells #[.int .i64 0, .int .i64 0, .string ⟨#[]⟩] 23)).alloc (.cells #[.int .i64 0] 25)

theorem start_is (w : World) (a b : V) : RS w.heap.size a b (start w a b) ∧ (start w a b).heap.size = w.heap.size + 4 ∧ Below w.heap.size w (start w a b) := by
  unfold start
  refine ⟨⟨?_, ?_, ?_, ?_, ?_, ?_, ?_, ?_, ?_, ?_, ?_, ?_, ?_, ?_⟩, by simp, ((((Below.refl _ _).alloc (Nat.le_refl _) _).alloc (by simp) _).alloc (by simp; omega) _).alloc (by simp; omega) _⟩ <;> simp [go_sem]

/-- .. and both maps behind them -/
structure RT (n : Nat) (a b : V) (W : World) : Prop where
  rs : RS n a b W
  size : n + 6 ≤ W.heap.size
  m1 : W.heap[n + 1 + 1 + 1 + 1]? = some (.map (table 20 21 22) 3)
  m2 : W.heap[n + 1 + 1 + 1 + 1 + 1]? = some (.map (table 16 17 18) 3)

theorem RT.below {n : Nat} {a b : V} {W W' : World} (h : RT n a b W) (hb : Below W.heap.size W W') : RT n a b W' := by
  obtain ⟨h1, h2, h3, h4⟩ := h
  have := hb.size
  exact ⟨h1.below hb (by omega), by omega, (hb.block _ (by omega)).trans h3, (hb.block _ (by omega)).trans h4⟩

/-- what is laid into the results' cells -/
def st (W : World) (n : Nat) (v : V) (e : Int) : World := (((W.setCell ⟨n + 1 + 1, 0, none⟩ (.int .i64 v.k)).setCell ⟨n + 1 + 1, 1, none⟩ (.int .i64 v.n)).setCell ⟨n + 1 + 1, 2, none⟩ (.string v.s)).setCell ⟨n + 1 + 1 + 1, 0, none⟩ (.int .i64 e)

theorem st_cells {W : World} {n : Nat} {x y z u : Value} (v0 : W.cell? ⟨n + 1 + 1, 0, none⟩ = some x) (v1 : W.cell? ⟨n + 1 + 1, 1, none⟩ = some y) (v2 : W.cell? ⟨n + 1 + 1, 2, none⟩ = some z)
    (e0 : W.cell? ⟨n + 1 + 1 + 1, 0, none⟩ = some u) (v : V) (e : Int) :
    (st W n v e).cell? ⟨n + 1 + 1, 0, none⟩ = some (.int .i64 v.k) ∧ (st W n v e).cell? ⟨n + 1 + 1, 1, none⟩ = some (.int .i64 v.n) ∧ (st W n v e).cell? ⟨n + 1 + 1, 2, none⟩ = some (.string v.s) ∧ (st W n v e).cell? ⟨n + 1 + 1 + 1, 0, none⟩ = some (.int .i64 e) := by
  unfold st
  refine ⟨?_, ?_, ?_, ?_⟩ <;> simp [go_sem, v0, v1, v2, e0]

theorem st_below {W w : World} {B n : Nat} (h : Below B w W) (hn : B ≤ n) (v : V) (e : Int) : Below B w (st W n v e) :=
  (((h.setCell (by simp; omega) _).setCell (by simp; omega) _).setCell (by simp; omega) _).setCell (by simp; omega) _

theorem results_are {W : World} {n : Nat} {tmps : Array Value} (h6 : tmps[6]?.getD undef = .pointer (some ⟨n + 1 + 1, 0, none⟩)) (h7 : tmps[7]?.getD undef = .pointer (some ⟨n + 1 + 1 + 1, 0, none⟩))
    {v : V} {e : Int} (c0 : W.cell? ⟨n + 1 + 1, 0, none⟩ = some (.int .i64 v.k)) (c1 : W.cell? ⟨n + 1 + 1, 1, none⟩ = some (.int .i64 v.n)) (c2 : W.cell? ⟨n + 1 + 1, 2, none⟩ = some (.string v.s)) (d0 : W.cell? ⟨n + 1 + 1 + 1, 0, none⟩ = some (.int .i64 e)) :
    (results Try.f10 tmps).run Try.prog W = .ok (.tuple #[ev v, .int .i64 e]) W := by
  simp [results, Try.results10, go_sem, h6, h7, c0, c1, c2, d0, ev]

def vnil : V := ⟨0, 0, ⟨#[]⟩⟩

theorem RT.next {n : Nat} {a b : V} {w W W' : World} (h : RT n a b W ∧ Below w.heap.size w W) (hb : Below W.heap.size W W') : RT n a b W' ∧ Below w.heap.size w W' :=
  ⟨h.1.below hb, h.2.trans (hb.mono h.2.size)⟩

theorem bytes_eq {a b : ByteArray} (h : (a == b) = true) : a = b := by
  obtain ⟨x⟩ := a
  obtain ⟨y⟩ := b
  exact congrArg ByteArray.mk (eq_of_beq (show (x == y) = true from h))

theorem op_is {op : ByteArray} (h : isOp op = true) : ∃ p i, Instr.findNow .string (.string op) (table 20 21 22).toList 0 = some (some (i, .func (.func p) #[] #[])) := by
  unfold isOp at h
  simp only [Bool.or_eq_true] at h
  rcases h with (h | h) | h
  · obtain rfl := bytes_eq h; exact ⟨20, 0, rfl⟩
  · obtain rfl := bytes_eq h; exact ⟨21, 1, rfl⟩
  · obtain rfl := bytes_eq h; exact ⟨22, 2, rfl⟩

theorem reckon_op (op : ByteArray) (a b : V) (hop : isOp op = false) (w : World) : Calls Try.prog 10 #[.string op, ev a, ev b] w fun e w' => e = .returned (.tuple #[ev vnil, .int .i64 1]) ∧ Below w.heap.size w w' := by
  have hs := start_is w a b
  unfold start at hs
  obtain ⟨k, n, s⟩ := a
  obtain ⟨k', n', s'⟩ := b
  unfold ev
  simp only at hs ⊢
  have hmf : ∀ (fn : Fn) (first cap : Array Value) (w : World), (Instr.makeFunc fn first cap).run Try.prog w = .ok (.func fn first cap) w := fun _ _ _ _ => rfl
  have HS := Lib.hid hs
  clear hs
  go_enter_defers Try.func10, Try.ntmps10
  go_wp2_with fail
  revert HS
  generalize (((w.alloc (.cells #[.int .i64 k, .int .i64 n, .string s] 23)).alloc (.cells #[.int .i64 k', .int .i64 n', .string s'] 23)).alloc
    (.cells #[.int .i64 0, .int .i64 0, .string ⟨#[]⟩] 23)).alloc (.cells #[.int .i64 0] 25) = W
  intro HS
  have m0 : (Instr.makeMap 40 none).run Try.prog W = .ok (.map (some W.heap.size)) (W.alloc (.map #[] 0)) := run_makeMap 40 W
  have i1 : (Instr.mapUpdate 40 (.map (some W.heap.size)) (.string ⟨#[43]⟩) (.func (.func 20) #[] #[])).run Try.prog (W.alloc (.map #[] 0)) = .ok () (W.alloc (.map #[ent 43 20 0] 1)) := insert_last W #[] 0 ⟨#[43]⟩ _ rfl
  have i2 : (Instr.mapUpdate 40 (.map (some W.heap.size)) (.string ⟨#[45]⟩) (.func (.func 21) #[] #[])).run Try.prog (W.alloc (.map #[ent 43 20 0] 1)) = .ok () (W.alloc (.map #[ent 43 20 0, ent 45 21 1] 2)) := insert_last W _ 1 ⟨#[45]⟩ _ rfl
  have i3 : (Instr.mapUpdate 40 (.map (some W.heap.size)) (.string ⟨#[42]⟩) (.func (.func 22) #[] #[])).run Try.prog (W.alloc (.map #[ent 43 20 0, ent 45 21 1] 2)) = .ok () (W.alloc (.map #[ent 43 20 0, ent 45 21 1, ent 42 22 2] 3)) := insert_last W _ 2 ⟨#[42]⟩ _ rfl
  go_simp
  go_wp2_with fail
  clear m0 i1 i2 i3
  have HS2 : Hid (RS w.heap.size ⟨k, n, s⟩ ⟨k', n', s'⟩ (W.alloc (.map (table 20 21 22) 3)) ∧ (W.alloc (.map (table 20 21 22) 3)).heap.size = w.heap.size + 5 ∧ Below w.heap.size w (W.alloc (.map (table 20 21 22) 3)) ∧
      (W.alloc (.map (table 20 21 22) 3)).heap[w.heap.size + 1 + 1 + 1 + 1]? = some (.map (table 20 21 22) 3)) := by
    obtain ⟨h1, h2, h3⟩ := HS.out
    refine ⟨h1.below ((Below.refl W.heap.size W).alloc (Nat.le_refl _) _) (by omega), by simp; omega, h3.alloc (by omega) _, ?_⟩
    rw [show w.heap.size + 1 + 1 + 1 + 1 = W.heap.size by omega]; exact (MapKept.heap_alloc W _).1
  have hsz : W.heap.size = w.heap.size + 1 + 1 + 1 + 1 := HS.out.2.1
  rw [hsz]
  clear HS hsz
  revert HS2
  unfold table
  generalize W.alloc (.map #[ent 43 20 0, ent 45 21 1, ent 42 22 2] 3) = W2
  intro HS2
  have m0 : (Instr.makeMap 40 none).run Try.prog W2 = .ok (.map (some W2.heap.size)) (W2.alloc (.map #[] 0)) := run_makeMap 40 W2
  have i1 : (Instr.mapUpdate 40 (.map (some W2.heap.size)) (.string ⟨#[43]⟩) (.func (.func 16) #[] #[])).run Try.prog (W2.alloc (.map #[] 0)) = .ok () (W2.alloc (.map #[ent 43 16 0] 1)) := insert_last W2 #[] 0 ⟨#[43]⟩ _ rfl
  have i2 : (Instr.mapUpdate 40 (.map (some W2.heap.size)) (.string ⟨#[45]⟩) (.func (.func 17) #[] #[])).run Try.prog (W2.alloc (.map #[ent 43 16 0] 1)) = .ok () (W2.alloc (.map #[ent 43 16 0, ent 45 17 1] 2)) := insert_last W2 _ 1 ⟨#[45]⟩ _ rfl
  have i3 : (Instr.mapUpdate 40 (.map (some W2.heap.size)) (.string ⟨#[42]⟩) (.func (.func 18) #[] #[])).run Try.prog (W2.alloc (.map #[ent 43 16 0, ent 45 17 1] 2)) = .ok () (W2.alloc (.map #[ent 43 16 0, ent 45 17 1, ent 42 18 2] 3)) := insert_last W2 _ 2 ⟨#[42]⟩ _ rfl
  go_simp
  go_wp2_with fail
  clear m0 i1 i2 i3
  have HS3 : Hid (RT w.heap.size ⟨k, n, s⟩ ⟨k', n', s'⟩ (W2.alloc (.map (table 16 17 18) 3)) ∧ Below w.heap.size w (W2.alloc (.map (table 16 17 18) 3))) := by
    obtain ⟨h1, h2, h3, h4⟩ := HS2.out
    have hb : Below W2.heap.size W2 (W2.alloc (.map (table 16 17 18) 3)) := (Below.refl W2.heap.size W2).alloc (Nat.le_refl _) _
    refine ⟨⟨h1.below hb (by omega), by simp; omega, (hb.block _ (by omega)).trans h4, ?_⟩, h3.alloc (by omega) _⟩
    rw [show w.heap.size + 1 + 1 + 1 + 1 + 1 = W2.heap.size by omega]; exact (MapKept.heap_alloc W2 _).1
  have hsz : W2.heap.size = w.heap.size + 1 + 1 + 1 + 1 + 1 := HS2.out.2.1
  rw [hsz]
  clear HS2 hsz
  revert HS3
  unfold table
  generalize W2.alloc (.map #[ent 43 16 0, ent 45 17 1, ent 42 18 2] 3) = W3
  intro HS3
  have l1 : (Instr.lookup 40 (.map (some (w.heap.size + 1 + 1 + 1 + 1))) (.string op) false).run Try.prog W3 = .ok .nilFunc W3 := lookup_none W3 _ _ _ HS3.out.1.m1 op (find_none 20 21 22 hop)
  have q1 : ∀ w, (binOp .eql 35 .nilFunc .nilFunc).run Try.prog w = .ok (.bool true) w := fun _ => by kernel_rfl
  obtain ⟨⟨a0, a1, a2, b0, b1, b2, v0, v1, v2, e0, fv0, fv1, fv2, fe0⟩, hsz, m1, m2⟩ := HS3.out.1
  have HSZ := Lib.hid hsz
  have M1 := Lib.hid m1
  have M2 := Lib.hid m2
  clear hsz m1 m2
  go_wp2_with fail
  have hc := st_cells v0 v1 v2 e0 vnil 1
  refine ⟨_, results_are (n := w.heap.size) (v := vnil) rfl rfl hc.1 hc.2.1 hc.2.2.1 hc.2.2.2, rfl, ?_⟩
  exact st_below (v := vnil) HS3.out.2 (Nat.le_refl _) _

theorem reckon_a (op : ByteArray) (a b : V) (ha : a.s.size ≤ maxLen) (hb : b.s.size ≤ maxLen) (hop : isOp op = true) (ra : vright a = false) (w : World) : Calls Try.prog 10 #[.string op, ev a, ev b] w fun e w' => e = .returned (.tuple #[ev vnil, .int .i64 1]) ∧ Below w.heap.size w w' := by
  have HA := Lib.hid ha
  have HB := Lib.hid hb
  clear ha hb
  have hs := start_is w a b
  unfold start at hs
  obtain ⟨k, n, s⟩ := a
  obtain ⟨k', n', s'⟩ := b
  unfold ev
  simp only at hs HA HB ra ⊢
  have hmf : ∀ (fn : Fn) (first cap : Array Value) (w : World), (Instr.makeFunc fn first cap).run Try.prog w = .ok (.func fn first cap) w := fun _ _ _ _ => rfl
  have HS := Lib.hid hs
  clear hs
  go_enter_defers Try.func10, Try.ntmps10
  go_wp2_with fail
  revert HS
  generalize (((w.alloc (.cells #[.int .i64 k, .int .i64 n, .string s] 23)).alloc (.cells #[.int .i64 k', .int .i64 n', .string s'] 23)).alloc
    (.cells #[.int .i64 0, .int .i64 0, .string ⟨#[]⟩] 23)).alloc (.cells #[.int .i64 0] 25) = W
  intro HS
  have m0 : (Instr.makeMap 40 none).run Try.prog W = .ok (.map (some W.heap.size)) (W.alloc (.map #[] 0)) := run_makeMap 40 W
  have i1 : (Instr.mapUpdate 40 (.map (some W.heap.size)) (.string ⟨#[43]⟩) (.func (.func 20) #[] #[])).run Try.prog (W.alloc (.map #[] 0)) = .ok () (W.alloc (.map #[ent 43 20 0] 1)) := insert_last W #[] 0 ⟨#[43]⟩ _ rfl
  have i2 : (Instr.mapUpdate 40 (.map (some W.heap.size)) (.string ⟨#[45]⟩) (.func (.func 21) #[] #[])).run Try.prog (W.alloc (.map #[ent 43 20 0] 1)) = .ok () (W.alloc (.map #[ent 43 20 0, ent 45 21 1] 2)) := insert_last W _ 1 ⟨#[45]⟩ _ rfl
  have i3 : (Instr.mapUpdate 40 (.map (some W.heap.size)) (.string ⟨#[42]⟩) (.func (.func 22) #[] #[])).run Try.prog (W.alloc (.map #[ent 43 20 0, ent 45 21 1] 2)) = .ok () (W.alloc (.map #[ent 43 20 0, ent 45 21 1, ent 42 22 2] 3)) := insert_last W _ 2 ⟨#[42]⟩ _ rfl
  go_simp
  go_wp2_with fail
  clear m0 i1 i2 i3
  have HS2 : Hid (RS w.heap.size ⟨k, n, s⟩ ⟨k', n', s'⟩ (W.alloc (.map (table 20 21 22) 3)) ∧ (W.alloc (.map (table 20 21 22) 3)).heap.size = w.heap.size + 5 ∧ Below w.heap.size w (W.alloc (.map (table 20 21 22) 3)) ∧
      (W.alloc (.map (table 20 21 22) 3)).heap[w.heap.size + 1 + 1 + 1 + 1]? = some (.map (table 20 21 22) 3)) := by
    obtain ⟨h1, h2, h3⟩ := HS.out
    refine ⟨h1.below ((Below.refl W.heap.size W).alloc (Nat.le_refl _) _) (by omega), by simp; omega, h3.alloc (by omega) _, ?_⟩
    rw [show w.heap.size + 1 + 1 + 1 + 1 = W.heap.size by omega]; exact (MapKept.heap_alloc W _).1
  have hsz : W.heap.size = w.heap.size + 1 + 1 + 1 + 1 := HS.out.2.1
  rw [hsz]
  clear HS hsz
  revert HS2
  unfold table
  generalize W.alloc (.map #[ent 43 20 0, ent 45 21 1, ent 42 22 2] 3) = W2
  intro HS2
  have m0 : (Instr.makeMap 40 none).run Try.prog W2 = .ok (.map (some W2.heap.size)) (W2.alloc (.map #[] 0)) := run_makeMap 40 W2
  have i1 : (Instr.mapUpdate 40 (.map (some W2.heap.size)) (.string ⟨#[43]⟩) (.func (.func 16) #[] #[])).run Try.prog (W2.alloc (.map #[] 0)) = .ok () (W2.alloc (.map #[ent 43 16 0] 1)) := insert_last W2 #[] 0 ⟨#[43]⟩ _ rfl
  have i2 : (Instr.mapUpdate 40 (.map (some W2.heap.size)) (.string ⟨#[45]⟩) (.func (.func 17) #[] #[])).run Try.prog (W2.alloc (.map #[ent 43 16 0] 1)) = .ok () (W2.alloc (.map #[ent 43 16 0, ent 45 17 1] 2)) := insert_last W2 _ 1 ⟨#[45]⟩ _ rfl
  have i3 : (Instr.mapUpdate 40 (.map (some W2.heap.size)) (.string ⟨#[42]⟩) (.func (.func 18) #[] #[])).run Try.prog (W2.alloc (.map #[ent 43 16 0, ent 45 17 1] 2)) = .ok () (W2.alloc (.map #[ent 43 16 0, ent 45 17 1, ent 42 18 2] 3)) := insert_last W2 _ 2 ⟨#[42]⟩ _ rfl
  go_simp
  go_wp2_with fail
  clear m0 i1 i2 i3
  have HS3 : Hid (RT w.heap.size ⟨k, n, s⟩ ⟨k', n', s'⟩ (W2.alloc (.map (table 16 17 18) 3)) ∧ Below w.heap.size w (W2.alloc (.map (table 16 17 18) 3))) := by
    obtain ⟨h1, h2, h3, h4⟩ := HS2.out
    have hb : Below W2.heap.size W2 (W2.alloc (.map (table 16 17 18) 3)) := (Below.refl W2.heap.size W2).alloc (Nat.le_refl _) _
    refine ⟨⟨h1.below hb (by omega), by simp; omega, (hb.block _ (by omega)).trans h4, ?_⟩, h3.alloc (by omega) _⟩
    rw [show w.heap.size + 1 + 1 + 1 + 1 + 1 = W2.heap.size by omega]; exact (MapKept.heap_alloc W2 _).1
  have hsz : W2.heap.size = w.heap.size + 1 + 1 + 1 + 1 + 1 := HS2.out.2.1
  rw [hsz]
  clear HS2 hsz
  revert HS3
  unfold table
  generalize W2.alloc (.map #[ent 43 16 0, ent 45 17 1, ent 42 18 2] 3) = W3
  intro HS3
  obtain ⟨p, i, hp⟩ := op_is hop
  have l1 : (Instr.lookup 40 (.map (some (w.heap.size + 1 + 1 + 1 + 1))) (.string op) false).run Try.prog W3 = .ok (.func (.func p) #[] #[]) W3 := lookup_at W3 _ _ _ HS3.out.1.m1 op _ i hp
  have q1 : ∀ w, (binOp .eql 35 (.func (.func p) #[] #[]) .nilFunc).run Try.prog w = .ok (.bool false) w := fun _ => by rfl
  clear hp hop
  obtain ⟨⟨a0, a1, a2, b0, b1, b2, v0, v1, v2, e0, fv0, fv1, fv2, fe0⟩, hsz, m1, m2⟩ := HS3.out.1
  have HSZ := Lib.hid hsz
  have M1 := Lib.hid m1
  have M2 := Lib.hid m2
  clear hsz m1 m2
  go_wp2_with fail
  refine (vright_any ⟨k, n, s⟩ HA.out _).mono ?_; rintro e W4 ⟨rfl, hb⟩
  have HS4 := Lib.hid (RT.next HS3.out hb)
  clear hb
  clear a0 a1 a2 b0 b1 b2 v0 v1 v2 e0 fv0 fv1 fv2 fe0 HSZ M1 M2
  obtain ⟨⟨a0, a1, a2, b0, b1, b2, v0, v1, v2, e0, fv0, fv1, fv2, fe0⟩, hsz, m1, m2⟩ := HS4.out.1
  have HSZ := Lib.hid hsz
  have M1 := Lib.hid m1
  have M2 := Lib.hid m2
  clear hsz m1 m2
  go_wp2_with fail
  have hc := st_cells v0 v1 v2 e0 vnil 1
  refine ⟨_, results_are (n := w.heap.size) (v := vnil) rfl rfl hc.1 hc.2.1 hc.2.2.1 hc.2.2.2, rfl, ?_⟩
  exact st_below (v := vnil) HS4.out.2 (Nat.le_refl _) _

theorem reckon_b (op : ByteArray) (a b : V) (ha : a.s.size ≤ maxLen) (hb : b.s.size ≤ maxLen) (hop : isOp op = true) (ra : vright a = true) (rb : vright b = false) (w : World) : Calls Try.prog 10 #[.string op, ev a, ev b] w fun e w' => e = .returned (.tuple #[ev vnil, .int .i64 1]) ∧ Below w.heap.size w w' := by
  have HA := Lib.hid ha
  have HB := Lib.hid hb
  clear ha hb
  have hs := start_is w a b
  unfold start at hs
  obtain ⟨k, n, s⟩ := a
  obtain ⟨k', n', s'⟩ := b
  unfold ev
  simp only at hs HA HB ra rb ⊢
  have hmf : ∀ (fn : Fn) (first cap : Array Value) (w : World), (Instr.makeFunc fn first cap).run Try.prog w = .ok (.func fn first cap) w := fun _ _ _ _ => rfl
  have HS := Lib.hid hs
  clear hs
  go_enter_defers Try.func10, Try.ntmps10
  go_wp2_with fail
  revert HS
  generalize (((w.alloc (.cells #[.int .i64 k, .int .i64 n, .string s] 23)).alloc (.cells #[.int .i64 k', .int .i64 n', .string s'] 23)).alloc
    (.cells #[.int .i64 0, .int .i64 0, .string ⟨#[]⟩] 23)).alloc (.cells #[.int .i64 0] 25) = W
  intro HS
  have m0 : (Instr.makeMap 40 none).run Try.prog W = .ok (.map (some W.heap.size)) (W.alloc (.map #[] 0)) := run_makeMap 40 W
  have i1 : (Instr.mapUpdate 40 (.map (some W.heap.size)) (.string ⟨#[43]⟩) (.func (.func 20) #[] #[])).run Try.prog (W.alloc (.map #[] 0)) = .ok () (W.alloc (.map #[ent 43 20 0] 1)) := insert_last W #[] 0 ⟨#[43]⟩ _ rfl
  have i2 : (Instr.mapUpdate 40 (.map (some W.heap.size)) (.string ⟨#[45]⟩) (.func (.func 21) #[] #[])).run Try.prog (W.alloc (.map #[ent 43 20 0] 1)) = .ok () (W.alloc (.map #[ent 43 20 0, ent 45 21 1] 2)) := insert_last W _ 1 ⟨#[45]⟩ _ rfl
  have i3 : (Instr.mapUpdate 40 (.map (some W.heap.size)) (.string ⟨#[42]⟩) (.func (.func 22) #[] #[])).run Try.prog (W.alloc (.map #[ent 43 20 0, ent 45 21 1] 2)) = .ok () (W.alloc (.map #[ent 43 20 0, ent 45 21 1, ent 42 22 2] 3)) := insert_last W _ 2 ⟨#[42]⟩ _ rfl
  go_simp
  go_wp2_with fail
  clear m0 i1 i2 i3
  have HS2 : Hid (RS w.heap.size ⟨k, n, s⟩ ⟨k', n', s'⟩ (W.alloc (.map (table 20 21 22) 3)) ∧ (W.alloc (.map (table 20 21 22) 3)).heap.size = w.heap.size + 5 ∧ Below w.heap.size w (W.alloc (.map (table 20 21 22) 3)) ∧
      (W.alloc (.map (table 20 21 22) 3)).heap[w.heap.size + 1 + 1 + 1 + 1]? = some (.map (table 20 21 22) 3)) := by
    obtain ⟨h1, h2, h3⟩ := HS.out
    refine ⟨h1.below ((Below.refl W.heap.size W).alloc (Nat.le_refl _) _) (by omega), by simp; omega, h3.alloc (by omega) _, ?_⟩
    rw [show w.heap.size + 1 + 1 + 1 + 1 = W.heap.size by omega]; exact (MapKept.heap_alloc W _).1
  have hsz : W.heap.size = w.heap.size + 1 + 1 + 1 + 1 := HS.out.2.1
  rw [hsz]
  clear HS hsz
  revert HS2
  unfold table
  generalize W.alloc (.map #[ent 43 20 0, ent 45 21 1, ent 42 22 2] 3) = W2
  intro HS2
  have m0 : (Instr.makeMap 40 none).run Try.prog W2 = .ok (.map (some W2.heap.size)) (W2.alloc (.map #[] 0)) := run_makeMap 40 W2
  have i1 : (Instr.mapUpdate 40 (.map (some W2.heap.size)) (.string ⟨#[43]⟩) (.func (.func 16) #[] #[])).run Try.prog (W2.alloc (.map #[] 0)) = .ok () (W2.alloc (.map #[ent 43 16 0] 1)) := insert_last W2 #[] 0 ⟨#[43]⟩ _ rfl
  have i2 : (Instr.mapUpdate 40 (.map (some W2.heap.size)) (.string ⟨#[45]⟩) (.func (.func 17) #[] #[])).run Try.prog (W2.alloc (.map #[ent 43 16 0] 1)) = .ok () (W2.alloc (.map #[ent 43 16 0, ent 45 17 1] 2)) := insert_last W2 _ 1 ⟨#[45]⟩ _ rfl
  have i3 : (Instr.mapUpdate 40 (.map (some W2.heap.size)) (.string ⟨#[42]⟩) (.func (.func 18) #[] #[])).run Try.prog (W2.alloc (.map #[ent 43 16 0, ent 45 17 1] 2)) = .ok () (W2.alloc (.map #[ent 43 16 0, ent 45 17 1, ent 42 18 2] 3)) := insert_last W2 _ 2 ⟨#[42]⟩ _ rfl
  go_simp
  go_wp2_with fail
  clear m0 i1 i2 i3
  have HS3 : Hid (RT w.heap.size ⟨k, n, s⟩ ⟨k', n', s'⟩ (W2.alloc (.map (table 16 17 18) 3)) ∧ Below w.heap.size w (W2.alloc (.map (table 16 17 18) 3))) := by
    obtain ⟨h1, h2, h3, h4⟩ := HS2.out
    have hb : Below W2.heap.size W2 (W2.alloc (.map (table 16 17 18) 3)) := (Below.refl W2.heap.size W2).alloc (Nat.le_refl _) _
    refine ⟨⟨h1.below hb (by omega), by simp; omega, (hb.block _ (by omega)).trans h4, ?_⟩, h3.alloc (by omega) _⟩
    rw [show w.heap.size + 1 + 1 + 1 + 1 + 1 = W2.heap.size by omega]; exact (MapKept.heap_alloc W2 _).1
  have hsz : W2.heap.size = w.heap.size + 1 + 1 + 1 + 1 + 1 := HS2.out.2.1
  rw [hsz]
  clear HS2 hsz
  revert HS3
  unfold table
  generalize W2.alloc (.map #[ent 43 16 0, ent 45 17 1, ent 42 18 2] 3) = W3
  intro HS3
  obtain ⟨p, i, hp⟩ := op_is hop
  have l1 : (Instr.lookup 40 (.map (some (w.heap.size + 1 + 1 + 1 + 1))) (.string op) false).run Try.prog W3 = .ok (.func (.func p) #[] #[]) W3 := lookup_at W3 _ _ _ HS3.out.1.m1 op _ i hp
  have q1 : ∀ w, (binOp .eql 35 (.func (.func p) #[] #[]) .nilFunc).run Try.prog w = .ok (.bool false) w := fun _ => by rfl
  clear hp hop
  obtain ⟨⟨a0, a1, a2, b0, b1, b2, v0, v1, v2, e0, fv0, fv1, fv2, fe0⟩, hsz, m1, m2⟩ := HS3.out.1
  have HSZ := Lib.hid hsz
  have M1 := Lib.hid m1
  have M2 := Lib.hid m2
  clear hsz m1 m2
  go_wp2_with fail
  refine (vright_any ⟨k, n, s⟩ HA.out _).mono ?_; rintro e W4 ⟨rfl, hb⟩
  have HS4 := Lib.hid (RT.next HS3.out hb)
  clear hb
  clear a0 a1 a2 b0 b1 b2 v0 v1 v2 e0 fv0 fv1 fv2 fe0 HSZ M1 M2
  obtain ⟨⟨a0, a1, a2, b0, b1, b2, v0, v1, v2, e0, fv0, fv1, fv2, fe0⟩, hsz, m1, m2⟩ := HS4.out.1
  have HSZ := Lib.hid hsz
  have M1 := Lib.hid m1
  have M2 := Lib.hid m2
  clear hsz m1 m2
  go_wp2_with fail
  refine (vright_any ⟨k', n', s'⟩ HB.out _).mono ?_; rintro e W5 ⟨rfl, hb⟩
  have HS5 := Lib.hid (RT.next HS4.out hb)
  clear hb
  clear a0 a1 a2 b0 b1 b2 v0 v1 v2 e0 fv0 fv1 fv2 fe0 HSZ M1 M2
  obtain ⟨⟨a0, a1, a2, b0, b1, b2, v0, v1, v2, e0, fv0, fv1, fv2, fe0⟩, hsz, m1, m2⟩ := HS5.out.1
  have HSZ := Lib.hid hsz
  have M1 := Lib.hid m1
  have M2 := Lib.hid m2
  clear hsz m1 m2
  go_wp2_with fail
  have hc := st_cells v0 v1 v2 e0 vnil 1
  refine ⟨_, results_are (n := w.heap.size) (v := vnil) rfl rfl hc.1 hc.2.1 hc.2.2.1 hc.2.2.2, rfl, ?_⟩
  exact st_below (v := vnil) HS5.out.2 (Nat.le_refl _) _

theorem reckon_kinds (op : ByteArray) (a b : V) (ha : a.s.size ≤ maxLen) (hb : b.s.size ≤ maxLen) (hop : isOp op = true) (ra : vright a = true) (rb : vright b = true) (hk : (a.k != b.k) = true) (w : World) : Calls Try.prog 10 #[.string op, ev a, ev b] w fun e w' => e = .returned (.tuple #[ev vnil, .int .i64 6]) ∧ Below w.heap.size w w' := by
  have HA := Lib.hid ha
  have HB := Lib.hid hb
  clear ha hb
  have hs := start_is w a b
  unfold start at hs
  obtain ⟨k, n, s⟩ := a
  obtain ⟨k', n', s'⟩ := b
  unfold ev
  simp only at hs HA HB ra rb hk ⊢
  have hmf : ∀ (fn : Fn) (first cap : Array Value) (w : World), (Instr.makeFunc fn first cap).run Try.prog w = .ok (.func fn first cap) w := fun _ _ _ _ => rfl
  have HS := Lib.hid hs
  clear hs
  go_enter_defers Try.func10, Try.ntmps10
  go_wp2_with fail
  revert HS
  generalize (((w.alloc (.cells #[.int .i64 k, .int .i64 n, .string s] 23)).alloc (.cells #[.int .i64 k', .int .i64 n', .string s'] 23)).alloc
    (.cells #[.int .i64 0, .int .i64 0, .string ⟨#[]⟩] 23)).alloc (.cells #[.int .i64 0] 25) = W
  intro HS
  have m0 : (Instr.makeMap 40 none).run Try.prog W = .ok (.map (some W.heap.size)) (W.alloc (.map #[] 0)) := run_makeMap 40 W
  have i1 : (Instr.mapUpdate 40 (.map (some W.heap.size)) (.string ⟨#[43]⟩) (.func (.func 20) #[] #[])).run Try.prog (W.alloc (.map #[] 0)) = .ok () (W.alloc (.map #[ent 43 20 0] 1)) := insert_last W #[] 0 ⟨#[43]⟩ _ rfl
  have i2 : (Instr.mapUpdate 40 (.map (some W.heap.size)) (.string ⟨#[45]⟩) (.func (.func 21) #[] #[])).run Try.prog (W.alloc (.map #[ent 43 20 0] 1)) = .ok () (W.alloc (.map #[ent 43 20 0, ent 45 21 1] 2)) := insert_last W _ 1 ⟨#[45]⟩ _ rfl
  have i3 : (Instr.mapUpdate 40 (.map (some W.heap.size)) (.string ⟨#[42]⟩) (.func (.func 22) #[] #[])).run Try.prog (W.alloc (.map #[ent 43 20 0, ent 45 21 1] 2)) = .ok () (W.alloc (.map #[ent 43 20 0, ent 45 21 1, ent 42 22 2] 3)) := insert_last W _ 2 ⟨#[42]⟩ _ rfl
  go_simp
  go_wp2_with fail
  clear m0 i1 i2 i3
  have HS2 : Hid (RS w.heap.size ⟨k, n, s⟩ ⟨k', n', s'⟩ (W.alloc (.map (table 20 21 22) 3)) ∧ (W.alloc (.map (table 20 21 22) 3)).heap.size = w.heap.size + 5 ∧ Below w.heap.size w (W.alloc (.map (table 20 21 22) 3)) ∧
      (W.alloc (.map (table 20 21 22) 3)).heap[w.heap.size + 1 + 1 + 1 + 1]? = some (.map (table 20 21 22) 3)) := by
    obtain ⟨h1, h2, h3⟩ := HS.out
    refine ⟨h1.below ((Below.refl W.heap.size W).alloc (Nat.le_refl _) _) (by omega), by simp; omega, h3.alloc (by omega) _, ?_⟩
    rw [show w.heap.size + 1 + 1 + 1 + 1 = W.heap.size by omega]; exact (MapKept.heap_alloc W _).1
  have hsz : W.heap.size = w.heap.size + 1 + 1 + 1 + 1 := HS.out.2.1
  rw [hsz]
  clear HS hsz
  revert HS2
  unfold table
  generalize W.alloc (.map #[ent 43 20 0, ent 45 21 1, ent 42 22 2] 3) = W2
  intro HS2
  have m0 : (Instr.makeMap 40 none).run Try.prog W2 = .ok (.map (some W2.heap.size)) (W2.alloc (.map #[] 0)) := run_makeMap 40 W2
  have i1 : (Instr.mapUpdate 40 (.map (some W2.heap.size)) (.string ⟨#[43]⟩) (.func (.func 16) #[] #[])).run Try.prog (W2.alloc (.map #[] 0)) = .ok () (W2.alloc (.map #[ent 43 16 0] 1)) := insert_last W2 #[] 0 ⟨#[43]⟩ _ rfl
  have i2 : (Instr.mapUpdate 40 (.map (some W2.heap.size)) (.string ⟨#[45]⟩) (.func (.func 17) #[] #[])).run Try.prog (W2.alloc (.map #[ent 43 16 0] 1)) = .ok () (W2.alloc (.map #[ent 43 16 0, ent 45 17 1] 2)) := insert_last W2 _ 1 ⟨#[45]⟩ _ rfl
  have i3 : (Instr.mapUpdate 40 (.map (some W2.heap.size)) (.string ⟨#[42]⟩) (.func (.func 18) #[] #[])).run Try.prog (W2.alloc (.map #[ent 43 16 0, ent 45 17 1] 2)) = .ok () (W2.alloc (.map #[ent 43 16 0, ent 45 17 1, ent 42 18 2] 3)) := insert_last W2 _ 2 ⟨#[42]⟩ _ rfl
  go_simp
  go_wp2_with fail
  clear m0 i1 i2 i3
  have HS3 : Hid (RT w.heap.size ⟨k, n, s⟩ ⟨k', n', s'⟩ (W2.alloc (.map (table 16 17 18) 3)) ∧ Below w.heap.size w (W2.alloc (.map (table 16 17 18) 3))) := by
    obtain ⟨h1, h2, h3, h4⟩ := HS2.out
    have hb : Below W2.heap.size W2 (W2.alloc (.map (table 16 17 18) 3)) := (Below.refl W2.heap.size W2).alloc (Nat.le_refl _) _
    refine ⟨⟨h1.below hb (by omega), by simp; omega, (hb.block _ (by omega)).trans h4, ?_⟩, h3.alloc (by omega) _⟩
    rw [show w.heap.size + 1 + 1 + 1 + 1 + 1 = W2.heap.size by omega]; exact (MapKept.heap_alloc W2 _).1
  have hsz : W2.heap.size = w.heap.size + 1 + 1 + 1 + 1 + 1 := HS2.out.2.1
  rw [hsz]
  clear HS2 hsz
  revert HS3
  unfold table
  generalize W2.alloc (.map #[ent 43 16 0, ent 45 17 1, ent 42 18 2] 3) = W3
  intro HS3
  obtain ⟨p, i, hp⟩ := op_is hop
  have l1 : (Instr.lookup 40 (.map (some (w.heap.size + 1 + 1 + 1 + 1))) (.string op) false).run Try.prog W3 = .ok (.func (.func p) #[] #[]) W3 := lookup_at W3 _ _ _ HS3.out.1.m1 op _ i hp
  have q1 : ∀ w, (binOp .eql 35 (.func (.func p) #[] #[]) .nilFunc).run Try.prog w = .ok (.bool false) w := fun _ => by rfl
  clear hp hop
  obtain ⟨⟨a0, a1, a2, b0, b1, b2, v0, v1, v2, e0, fv0, fv1, fv2, fe0⟩, hsz, m1, m2⟩ := HS3.out.1
  have HSZ := Lib.hid hsz
  have M1 := Lib.hid m1
  have M2 := Lib.hid m2
  clear hsz m1 m2
  go_wp2_with fail
  refine (vright_any ⟨k, n, s⟩ HA.out _).mono ?_; rintro e W4 ⟨rfl, hb⟩
  have HS4 := Lib.hid (RT.next HS3.out hb)
  clear hb
  clear a0 a1 a2 b0 b1 b2 v0 v1 v2 e0 fv0 fv1 fv2 fe0 HSZ M1 M2
  obtain ⟨⟨a0, a1, a2, b0, b1, b2, v0, v1, v2, e0, fv0, fv1, fv2, fe0⟩, hsz, m1, m2⟩ := HS4.out.1
  have HSZ := Lib.hid hsz
  have M1 := Lib.hid m1
  have M2 := Lib.hid m2
  clear hsz m1 m2
  go_wp2_with fail
  refine (vright_any ⟨k', n', s'⟩ HB.out _).mono ?_; rintro e W5 ⟨rfl, hb⟩
  have HS5 := Lib.hid (RT.next HS4.out hb)
  clear hb
  clear a0 a1 a2 b0 b1 b2 v0 v1 v2 e0 fv0 fv1 fv2 fe0 HSZ M1 M2
  obtain ⟨⟨a0, a1, a2, b0, b1, b2, v0, v1, v2, e0, fv0, fv1, fv2, fe0⟩, hsz, m1, m2⟩ := HS5.out.1
  have HSZ := Lib.hid hsz
  have M1 := Lib.hid m1
  have M2 := Lib.hid m2
  clear hsz m1 m2
  go_wp2_with fail
  have hc := st_cells v0 v1 v2 e0 vnil 6
  refine ⟨_, results_are (n := w.heap.size) (v := vnil) rfl rfl hc.1 hc.2.1 hc.2.2.1 hc.2.2.2, rfl, ?_⟩
  exact st_below (v := vnil) HS5.out.2 (Nat.le_refl _) _

theorem reckon_sym (op : ByteArray) (a b : V) (ha : a.s.size ≤ maxLen) (hb : b.s.size ≤ maxLen) (hop : isOp op = true) (ra : vright a = true) (rb : vright b = true) (hk : (a.k != b.k) = false) (hk3 : (a.k == 3) = true) (w : World) : Calls Try.prog 10 #[.string op, ev a, ev b] w fun e w' => e = .returned (.tuple #[ev vnil, .int .i64 6]) ∧ Below w.heap.size w w' := by
  have HA := Lib.hid ha
  have HB := Lib.hid hb
  clear ha hb
  have hs := start_is w a b
  unfold start at hs
  obtain ⟨k, n, s⟩ := a
  obtain ⟨k', n', s'⟩ := b
  unfold ev
  simp only at hs HA HB ra rb hk hk3 ⊢
  have hmf : ∀ (fn : Fn) (first cap : Array Value) (w : World), (Instr.makeFunc fn first cap).run Try.prog w = .ok (.func fn first cap) w := fun _ _ _ _ => rfl
  have HS := Lib.hid hs
  clear hs
  go_enter_defers Try.func10, Try.ntmps10
  go_wp2_with fail
  revert HS
  generalize (((w.alloc (.cells #[.int .i64 k, .int .i64 n, .string s] 23)).alloc (.cells #[.int .i64 k', .int .i64 n', .string s'] 23)).alloc
    (.cells #[.int .i64 0, .int .i64 0, .string ⟨#[]⟩] 23)).alloc (.cells #[.int .i64 0] 25) = W
  intro HS
  have m0 : (Instr.makeMap 40 none).run Try.prog W = .ok (.map (some W.heap.size)) (W.alloc (.map #[] 0)) := run_makeMap 40 W
  have i1 : (Instr.mapUpdate 40 (.map (some W.heap.size)) (.string ⟨#[43]⟩) (.func (.func 20) #[] #[])).run Try.prog (W.alloc (.map #[] 0)) = .ok () (W.alloc (.map #[ent 43 20 0] 1)) := insert_last W #[] 0 ⟨#[43]⟩ _ rfl
  have i2 : (Instr.mapUpdate 40 (.map (some W.heap.size)) (.string ⟨#[45]⟩) (.func (.func 21) #[] #[])).run Try.prog (W.alloc (.map #[ent 43 20 0] 1)) = .ok () (W.alloc (.map #[ent 43 20 0, ent 45 21 1] 2)) := insert_last W _ 1 ⟨#[45]⟩ _ rfl
  have i3 : (Instr.mapUpdate 40 (.map (some W.heap.size)) (.string ⟨#[42]⟩) (.func (.func 22) #[] #[])).run Try.prog (W.alloc (.map #[ent 43 20 0, ent 45 21 1] 2)) = .ok () (W.alloc (.map #[ent 43 20 0, ent 45 21 1, ent 42 22 2] 3)) := insert_last W _ 2 ⟨#[42]⟩ _ rfl
  go_simp
  go_wp2_with fail
  clear m0 i1 i2 i3
  have HS2 : Hid (RS w.heap.size ⟨k, n, s⟩ ⟨k', n', s'⟩ (W.alloc (.map (table 20 21 22) 3)) ∧ (W.alloc (.map (table 20 21 22) 3)).heap.size = w.heap.size + 5 ∧ Below w.heap.size w (W.alloc (.map (table 20 21 22) 3)) ∧
      (W.alloc (.map (table 20 21 22) 3)).heap[w.heap.size + 1 + 1 + 1 + 1]? = some (.map (table 20 21 22) 3)) := by
    obtain ⟨h1, h2, h3⟩ := HS.out
    refine ⟨h1.below ((Below.refl W.heap.size W).alloc (Nat.le_refl _) _) (by omega), by simp; omega, h3.alloc (by omega) _, ?_⟩
    rw [show w.heap.size + 1 + 1 + 1 + 1 = W.heap.size by omega]; exact (MapKept.heap_alloc W _).1
  have hsz : W.heap.size = w.heap.size + 1 + 1 + 1 + 1 := HS.out.2.1
  rw [hsz]
  clear HS hsz
  revert HS2
  unfold table
  generalize W.alloc (.map #[ent 43 20 0, ent 45 21 1, ent 42 22 2] 3) = W2
  intro HS2
  have m0 : (Instr.makeMap 40 none).run Try.prog W2 = .ok (.map (some W2.heap.size)) (W2.alloc (.map #[] 0)) := run_makeMap 40 W2
  have i1 : (Instr.mapUpdate 40 (.map (some W2.heap.size)) (.string ⟨#[43]⟩) (.func (.func 16) #[] #[])).run Try.prog (W2.alloc (.map #[] 0)) = .ok () (W2.alloc (.map #[ent 43 16 0] 1)) := insert_last W2 #[] 0 ⟨#[43]⟩ _ rfl
  have i2 : (Instr.mapUpdate 40 (.map (some W2.heap.size)) (.string ⟨#[45]⟩) (.func (.func 17) #[] #[])).run Try.prog (W2.alloc (.map #[ent 43 16 0] 1)) = .ok () (W2.alloc (.map #[ent 43 16 0, ent 45 17 1] 2)) := insert_last W2 _ 1 ⟨#[45]⟩ _ rfl
  have i3 : (Instr.mapUpdate 40 (.map (some W2.heap.size)) (.string ⟨#[42]⟩) (.func (.func 18) #[] #[])).run Try.prog (W2.alloc (.map #[ent 43 16 0, ent 45 17 1] 2)) = .ok () (W2.alloc (.map #[ent 43 16 0, ent 45 17 1, ent 42 18 2] 3)) := insert_last W2 _ 2 ⟨#[42]⟩ _ rfl
  go_simp
  go_wp2_with fail
  clear m0 i1 i2 i3
  have HS3 : Hid (RT w.heap.size ⟨k, n, s⟩ ⟨k', n', s'⟩ (W2.alloc (.map (table 16 17 18) 3)) ∧ Below w.heap.size w (W2.alloc (.map (table 16 17 18) 3))) := by
    obtain ⟨h1, h2, h3, h4⟩ := HS2.out
    have hb : Below W2.heap.size W2 (W2.alloc (.map (table 16 17 18) 3)) := (Below.refl W2.heap.size W2).alloc (Nat.le_refl _) _
    refine ⟨⟨h1.below hb (by omega), by simp; omega, (hb.block _ (by omega)).trans h4, ?_⟩, h3.alloc (by omega) _⟩
    rw [show w.heap.size + 1 + 1 + 1 + 1 + 1 = W2.heap.size by omega]; exact (MapKept.heap_alloc W2 _).1
  have hsz : W2.heap.size = w.heap.size + 1 + 1 + 1 + 1 + 1 := HS2.out.2.1
  rw [hsz]
  clear HS2 hsz
  revert HS3
  unfold table
  generalize W2.alloc (.map #[ent 43 16 0, ent 45 17 1, ent 42 18 2] 3) = W3
  intro HS3
  obtain ⟨p, i, hp⟩ := op_is hop
  have l1 : (Instr.lookup 40 (.map (some (w.heap.size + 1 + 1 + 1 + 1))) (.string op) false).run Try.prog W3 = .ok (.func (.func p) #[] #[]) W3 := lookup_at W3 _ _ _ HS3.out.1.m1 op _ i hp
  have q1 : ∀ w, (binOp .eql 35 (.func (.func p) #[] #[]) .nilFunc).run Try.prog w = .ok (.bool false) w := fun _ => by rfl
  clear hp hop
  obtain ⟨⟨a0, a1, a2, b0, b1, b2, v0, v1, v2, e0, fv0, fv1, fv2, fe0⟩, hsz, m1, m2⟩ := HS3.out.1
  have HSZ := Lib.hid hsz
  have M1 := Lib.hid m1
  have M2 := Lib.hid m2
  clear hsz m1 m2
  go_wp2_with fail
  refine (vright_any ⟨k, n, s⟩ HA.out _).mono ?_; rintro e W4 ⟨rfl, hb⟩
  have HS4 := Lib.hid (RT.next HS3.out hb)
  clear hb
  clear a0 a1 a2 b0 b1 b2 v0 v1 v2 e0 fv0 fv1 fv2 fe0 HSZ M1 M2
  obtain ⟨⟨a0, a1, a2, b0, b1, b2, v0, v1, v2, e0, fv0, fv1, fv2, fe0⟩, hsz, m1, m2⟩ := HS4.out.1
  have HSZ := Lib.hid hsz
  have M1 := Lib.hid m1
  have M2 := Lib.hid m2
  clear hsz m1 m2
  go_wp2_with fail
  refine (vright_any ⟨k', n', s'⟩ HB.out _).mono ?_; rintro e W5 ⟨rfl, hb⟩
  have HS5 := Lib.hid (RT.next HS4.out hb)
  clear hb
  clear a0 a1 a2 b0 b1 b2 v0 v1 v2 e0 fv0 fv1 fv2 fe0 HSZ M1 M2
  obtain ⟨⟨a0, a1, a2, b0, b1, b2, v0, v1, v2, e0, fv0, fv1, fv2, fe0⟩, hsz, m1, m2⟩ := HS5.out.1
  have HSZ := Lib.hid hsz
  have M1 := Lib.hid m1
  have M2 := Lib.hid m2
  clear hsz m1 m2
  go_wp2_with fail
  have hc := st_cells v0 v1 v2 e0 vnil 6
  refine ⟨_, results_are (n := w.heap.size) (v := vnil) rfl rfl hc.1 hc.2.1 hc.2.2.1 hc.2.2.2, rfl, ?_⟩
  exact st_below (v := vnil) HS5.out.2 (Nat.le_refl _) _

end Go.Proofs.Ytcoidmkaddnkdaa
