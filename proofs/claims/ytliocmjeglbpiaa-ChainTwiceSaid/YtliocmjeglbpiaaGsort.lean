/- THE LIBRARY'S Sort OF NUMBERS (uint), as the printed texts ask for it. Condition: fewer than 1000000 elements. -/
import Derived.Test.YtliocmjeglbpiaaGlib
import Derived.Test.YtliocmjeglbpiaaZN
namespace Go.Proofs.Ytliocmjeglbpiaa.Ps
open Go.RowKit Go.Proofs.YtliocmjeglbpiaaW.PrintWords Go.Proofs.YtliocmjeglbpiaaW.PrintLast
open Go.Proofs Go.Sort
set_option linter.unusedVariables false

theorem below_grow (w : World) (os : Array Obj) : Below w.heap.size w (grow w os) :=
  ⟨rfl, rfl, rfl, by simp [grow], fun k hk => by simp only [grow]; rw [Array.getElem?_append_left hk]⟩

theorem slices_Sort_uint_uint.calls (P0_ : Nat → Prop) (u9000_ : Value) (l0 : List Int) (r : List Int) (w0 w : World) (hB : Below w0.heap.size w0 w) (ho0 : Kd.R (Kd.int .u64) 42 w w0.heap.size P0_ u9000_ l0) (h : slices_Sort_uint_uint.f l0 = some r) :
    Calls Try.prog 29 #[u9000_] w fun e w' => e = .returned (.tuple #[]) ∧ Kd.R (Kd.int .u64) 42 w' w0.heap.size (fun k_ => (P0_ k_ ∨ w.heap.size ≤ k_)) u9000_ r ∧ Below w0.heap.size w0 w' ∧ Kept w w' (fun k_ => P0_ k_) := by
  unfold slices_Sort_uint_uint.f at h
  split at h
  · rename_i hlt
    obtain rfl := Option.some.inj h
    have ho := Kd.own_of_R ho0
    rcases ho.2 with ⟨rfl, hnil⟩ | ⟨g, cap, cur, rfl, hbase, hb, h1, h2, h3, h4⟩
    · obtain rfl : l0 = [] := by cases l0 <;> simp at hnil ⊢
      refine (Try.Sort_uint_nil none 0 w).mono fun e w' ⟨he, hw⟩ => ?_
      subst hw
      refine ⟨he, ?_, hB, Kept.refl _ _⟩
      have : ([] : List Int).mergeSort (fun x y => decide (x ≤ y)) = [] := by simp
      rw [this]
      exact Kd.R_nil _ _ _ _ _
    · have hH : Holds (Value.int .u64) w g 0 l0.toArray := holds_of_cells hb (by simpa [encs] using h4)
      have hP : P0_ g := ho0.1 g (by simp [Value.ownBlock])
      have hgl : g < w.heap.size := by
        rcases Nat.lt_or_ge g w.heap.size with h | h
        · exact h
        · rw [Array.getElem?_eq_none h] at hb; cases hb
      refine (Try.slices_Sort_uint g 0 cap l0 w hH hgl (by omega)).mono fun e w' ⟨he, n, os, hw⟩ => ?_
      have hsz : (l0.mergeSort fun x y => decide (x ≤ y)).length = l0.length := List.length_mergeSort l0
      have hown := Lib.ownsRow_putRow (enc := Value.int .u64) (q := n) (k := l0.length) (ys := l0.mergeSort fun x y => decide (x ≤ y)) ho hsz (Nat.le_refl _)
      rw [List.take_of_length_le (by rw [hsz]; exact Nat.le_refl _)] at hown
      obtain ⟨hb1, hb2⟩ := below_own (w' := putRow (Value.int .u64) (Sort.ahead w n) g 0 (l0.mergeSort fun x y => decide (x ≤ y)).toArray) hB hbase hP rfl
      have hg := below_grow (putRow (Value.int .u64) (Sort.ahead w n) g 0 (l0.mergeSort fun x y => decide (x ≤ y)).toArray) os
      rw [← hw] at hg
      refine ⟨he, Kd.R_below (Kd.R_of_own ?_ (fun k hk => ?_)) hg, below_step hb1 hg, hb2.below hg⟩
      · rw [hsz]; exact hown
      · have : g = k := by simpa [Value.ownBlock] using hk
        subst this
        exact .inl hP
  · cases h
end Go.Proofs.Ytliocmjeglbpiaa.Ps
