/- FoldJoins: what its walk keeps of memory: the three lists, and the boxes of what was folded. No program step. -/
import Derived.Test.YtolefpeiceiocaaPs3
import Derived.Test.YtolefpeiceiocaaGd
namespace Go.Proofs.Ytolefpeiceiocaa.Ps
open Go Go.RowKit Go.Proofs.YtolefpeiceiocaaW.PrintWords Go.Proofs.YtolefpeiceiocaaW.PrintLast
set_option linter.unusedVariables false

structure JB (w0 w : World) (A0 A1 Ay : Option Addr) (l0 l1 y : List Sv) (bs : List (Nat × Array Value)) : Prop where
  c0 : Kd.C k27 w A0 l0.length l0
  c1 : Kd.C k27 w A1 l1.length l1
  cy : Kd.C k27 w Ay y.length y
  bl : ∀ p ∈ bs, w.heap[p.1]? = some (.cells p.2 27 (0, 0))
  ge : ∀ p ∈ bs, w0.heap.size ≤ p.1
  hb : Below w0.heap.size w0 w
variable {w0 w w' : World} {A0 A1 Ay : Option Addr} {l0 l1 y : List Sv} {bs : List (Nat × Array Value)}
theorem JB.below (h : JB w0 w A0 A1 Ay l0 l1 y bs) (hb : Below w.heap.size w w') : JB w0 w' A0 A1 Ay l0 l1 y bs :=
  ⟨Kd.C_below h.c0 hb, Kd.C_below h.c1 hb, Kd.C_below h.cy hb, fun p hp => blk_below (h.bl p hp) hb, h.ge, h.hb.trans (hb.mono h.hb.size)⟩
theorem JB.box (h : JB w0 w A0 A1 Ay l0 l1 y bs) (hb : Below w.heap.size w w') (cs : Array Value) : JB w0 (w'.alloc (.cells cs 27)) A0 A1 Ay l0 l1 y ((w'.heap.size, cs) :: bs) := by
  have h1 := h.below hb
  have h2 := h1.below (w' := w'.alloc (.cells cs 27)) ((Below.refl _ _).alloc (Nat.le_refl _) _)
  refine ⟨h2.c0, h2.c1, h2.cy, fun p hp => ?_, fun p hp => ?_, h2.hb⟩
  · rcases List.mem_cons.1 hp with rfl | hp
    · exact blk_new w' _
    · exact h2.bl p hp
  · rcases List.mem_cons.1 hp with rfl | hp
    · exact h1.hb.size
    · exact h1.ge p hp
theorem JB.lt (h : JB w0 w A0 A1 Ay l0 l1 y bs) (hb : Below w.heap.size w w') {g : Nat} (hg : g ∈ bs.map Prod.fst) : g < w'.heap.size := by
  obtain ⟨p, hp, rfl⟩ := List.mem_map.1 hg
  exact Nat.lt_of_lt_of_le (blk_lt (h.bl p hp)) hb.size
/-- .. the boxes alone. -/
structure JC (w0 w : World) (bs : List (Nat × Array Value)) : Prop where
  bl : ∀ p ∈ bs, w.heap[p.1]? = some (.cells p.2 27 (0, 0))
  ge : ∀ p ∈ bs, w0.heap.size ≤ p.1
  hb : Below w0.heap.size w0 w
theorem JB.boxes (h : JB w0 w A0 A1 Ay l0 l1 y bs) : JC w0 w bs := ⟨h.bl, h.ge, h.hb⟩
theorem JC.below (h : JC w0 w bs) (hb : Below w.heap.size w w') : JC w0 w' bs := ⟨fun p hp => blk_below (h.bl p hp) hb, h.ge, h.hb.trans (hb.mono h.hb.size)⟩
theorem JC.cell (h : JC w0 w bs) {g : Nat} {a b c : Value} (hp : (g, #[a, b, c]) ∈ bs) :
    (w.cell? ⟨g, 0, none⟩ = some a ∧ w.cell? ⟨g, 1, none⟩ = some b ∧ w.cell? ⟨g, 2, none⟩ = some c) ∧ w.frozen? ⟨g, 0, none⟩ = false ∧ w.frozen? ⟨g, 1, none⟩ = false ∧ w.frozen? ⟨g, 2, none⟩ = false :=
  ⟨⟨blk_cell (h.bl _ hp) 0, blk_cell (h.bl _ hp) 1, blk_cell (h.bl _ hp) 2⟩, blk_frozen (h.bl _ hp) 0, blk_frozen (h.bl _ hp) 1, blk_frozen (h.bl _ hp) 2⟩
/-- A box is written anew. -/
theorem JC.put {pre suf : List (Nat × Array Value)} {g : Nat} {u v x : Value} (h : JC w0 w (pre ++ (g, #[u, v, x]) :: suf)) (hn : ∀ p ∈ pre ++ suf, p.1 ≠ g) (a b c : Value) :
    JC w0 (((w.setCell ⟨g, 0, none⟩ a).setCell ⟨g, 1, none⟩ b).setCell ⟨g, 2, none⟩ c) (pre ++ (g, #[a, b, c]) :: suf) := by
  have hg : (g, #[u, v, x]) ∈ pre ++ (g, #[u, v, x]) :: suf := by simp
  have hge := h.ge _ hg
  refine ⟨fun p hp => ?_, fun p hp => ?_, ((h.hb.setCell hge _).setCell hge _).setCell hge _⟩
  · rcases List.mem_append.1 hp with hp | hp
    · have hne := hn p (List.mem_append.2 (.inl hp))
      exact blk_far (blk_far (blk_far (h.bl p (List.mem_append.2 (.inl hp))) hne _) hne _) hne _
    · rcases List.mem_cons.1 hp with rfl | hp
      · exact blk_put (blk_put (blk_put (h.bl _ hg) 0 a rfl) 1 b rfl) 2 c rfl
      · have hne := hn p (List.mem_append.2 (.inr hp))
        exact blk_far (blk_far (blk_far (h.bl p (by simp [hp])) hne _) hne _) hne _
  · rcases List.mem_append.1 hp with hp | hp
    · exact h.ge p (by simp [hp])
    · rcases List.mem_cons.1 hp with rfl | hp
      · exact hge
      · exact h.ge p (by simp [hp])
end Go.Proofs.Ytolefpeiceiocaa.Ps
