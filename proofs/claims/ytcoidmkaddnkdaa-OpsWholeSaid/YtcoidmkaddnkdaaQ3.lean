/- FOR REGIONS THAT DRAW THEIR ORDER AND MAKE A BOX: what else there is stays. No condition. -/
import Derived.Test.YtcoidmkaddnkdaaQ2
namespace Go.Proofs.Ytcoidmkaddnkdaa
open Go.RowKit AnteFlo AnteVal AnteOps

theorem block_lt {W : World} {a : Addr} {v : Value} (h : W.cell? a = some v) : a.block < W.heap.size := by
  rcases Classical.em (a.block < W.heap.size) with h' | h'
  · exact h'
  · have : W.heap[a.block]? = none := Array.getElem?_eq_none (by omega)
    simp [World.cell?, this] at h

theorem cell_store3 {W : World} {p q : Nat} {i : Nat} {v x y z : Value} (h : W.cell? ⟨q, i, none⟩ = some v) (hne : q ≠ p) :
    (((W.setCell ⟨p, 0, none⟩ x).setCell ⟨p, 1, none⟩ y).setCell ⟨p, 2, none⟩ z).cell? ⟨q, i, none⟩ = some v := by
  have := hne
  simp [go_sem, h]
theorem below_store3 {n : Nat} {w W : World} {p : Nat} {x y z : Value} (h : Below n w W) (hp : n ≤ p) : Below n w (((W.setCell ⟨p, 0, none⟩ x).setCell ⟨p, 1, none⟩ y).setCell ⟨p, 2, none⟩ z) :=
  ((h.setCell (by simpa using hp) _).setCell (by simpa using hp) _).setCell (by simpa using hp) _
theorem cell_realloc {W : World} {q i : Nat} {v : Value} {o : Obj} (h : (W.alloc o).cell? ⟨q, i, none⟩ = some v) (hq : q < W.heap.size) (o' : Obj) : (W.alloc o').cell? ⟨q, i, none⟩ = some v := by
  have h1 : (W.alloc o).cell? ⟨q, i, none⟩ = W.cell? ⟨q, i, none⟩ := (below1 W o).cell hq
  exact cell_box (h1.symm.trans h) o'
theorem below_realloc {n : Nat} {w W : World} {o : Obj} (h : Below n w (W.alloc o)) (hn : n ≤ W.heap.size) (o' : Obj) (hs : w.heap.size ≤ W.heap.size) : Below n w (W.alloc o') := by
  refine ⟨h.os, h.tape, h.output, by simp; omega, fun k hk => ?_⟩
  have := h.block k hk
  rw [Below.heap_alloc W o k (by omega)] at this
  rw [Below.heap_alloc W o' k (by omega)]
  exact this

/-- a box that was made, as a callee leaves it -/
theorem fresh3 {W W' : World} {x y z : Value} {ty : TypeId} (hb : Below (W.alloc (.cells #[x, y, z] ty)).heap.size (W.alloc (.cells #[x, y, z] ty)) W') :
    W'.cell? ⟨W.heap.size, 0, none⟩ = some x ∧ W'.cell? ⟨W.heap.size, 1, none⟩ = some y ∧ W'.cell? ⟨W.heap.size, 2, none⟩ = some z ∧
    W'.frozen? ⟨W.heap.size, 0, none⟩ = false ∧ W'.frozen? ⟨W.heap.size, 1, none⟩ = false ∧ W'.frozen? ⟨W.heap.size, 2, none⟩ = false :=
  ⟨(hb.cell (by simp)).trans (by simp [go_sem]), (hb.cell (by simp)).trans (by simp [go_sem]), (hb.cell (by simp)).trans (by simp [go_sem]),
    (hb.frozen (by simp)).trans (by simp [go_sem]), (hb.frozen (by simp)).trans (by simp [go_sem]), (hb.frozen (by simp)).trans (by simp [go_sem])⟩
theorem fresh_keep {W W' : World} {p : Nat} {x y z : Value} (m : W.cell? ⟨p, 0, none⟩ = some x ∧ W.cell? ⟨p, 1, none⟩ = some y ∧ W.cell? ⟨p, 2, none⟩ = some z ∧
    W.frozen? ⟨p, 0, none⟩ = false ∧ W.frozen? ⟨p, 1, none⟩ = false ∧ W.frozen? ⟨p, 2, none⟩ = false) (hb : Below W.heap.size W W') :
    W'.cell? ⟨p, 0, none⟩ = some x ∧ W'.cell? ⟨p, 1, none⟩ = some y ∧ W'.cell? ⟨p, 2, none⟩ = some z ∧
    W'.frozen? ⟨p, 0, none⟩ = false ∧ W'.frozen? ⟨p, 1, none⟩ = false ∧ W'.frozen? ⟨p, 2, none⟩ = false :=
  have ⟨h0, h1, h2, f0, f1, f2⟩ := m
  have hp := block_lt h0
  ⟨cell_keep h0 hb, cell_keep h1 hb, cell_keep h2 hb, (hb.frozen (p := ⟨p, 0, none⟩) hp).trans f0, (hb.frozen (p := ⟨p, 1, none⟩) hp).trans f1, (hb.frozen (p := ⟨p, 2, none⟩) hp).trans f2⟩

theorem cell_box_drew {W : World} {a : Addr} {v : Value} (h : W.drew.cell? a = some v) (o : Obj) : (W.alloc o).drew.cell? a = some v := cell_box (W := W) h o
theorem below_box_drew {w W : World} (h : Below w.heap.size w W.drew) (o : Obj) : Below w.heap.size w (W.alloc o).drew := (below_box (W := W) ⟨h.os, h.tape, h.output, h.size, h.block⟩ o).drew
theorem fresh3_drew {W W' : World} {x y z : Value} {ty : TypeId} (hb : Below (W.alloc (.cells #[x, y, z] ty)).drew.heap.size (W.alloc (.cells #[x, y, z] ty)).drew W') :
    W'.cell? ⟨W.heap.size, 0, none⟩ = some x ∧ W'.cell? ⟨W.heap.size, 1, none⟩ = some y ∧ W'.cell? ⟨W.heap.size, 2, none⟩ = some z ∧
    W'.frozen? ⟨W.heap.size, 0, none⟩ = false ∧ W'.frozen? ⟨W.heap.size, 1, none⟩ = false ∧ W'.frozen? ⟨W.heap.size, 2, none⟩ = false :=
  fresh3 ⟨hb.os, hb.tape, hb.output, hb.size, hb.block⟩

end Go.Proofs.Ytcoidmkaddnkdaa
