-- printed by a program of this session out of the translation: the functions, without their walks
import Derived.Test.YtliocmjeglbpiaaPs0
import Derived.Test.YtliocmjeglbpiaaGd
namespace Go.Proofs.Ytliocmjeglbpiaa.Ps
open Go.RowKit Go.Proofs.YtliocmjeglbpiaaW.PrintWords Go.Proofs.YtliocmjeglbpiaaW.PrintLast Go.Proofs.YtliocmjeglbpiaaW.PrintMore
set_option linter.unusedVariables false
set_option linter.unusedSimpArgs false

/-! ### chain_mask -/
def chain_mask.l0 : Nat → Int → Int → List Int → Int → Int → Option (Int × Bool)
  | 0, _, _, _, _, _ => none
  | k + 1, x0, x6, x9, x10, x11 => if x11 < x10 then (if 0 ≤ x11 then (if x11 < (x9.length : Int) then (if (rd x9 x11) < 0 then (some (0, false)) else (if (rd x9 x11) ≥ x0 then (some (0, false)) else (if 0 ≤ (rd x9 x11) then (if (Go.bits .and .u64 (shr .u64 x6 (rd x9 x11)) 1) = 1 then (some (0, false)) else (chain_mask.l0 k x0 (Go.bits .or .u64 x6 (shl .u64 1 (rd x9 x11))) x9 x10 (wrap64 (x11 + 1)))) else (none)))) else (none)) else (none)) else (some (x6, true))
def chain_mask.f (k : Nat) (a0 : Int) (l1 : List Int) : Option (Int × Bool) := chain_mask.l0 k a0 0 l1 (l1.length : Int) 0
theorem chain_mask.mono_l : ∀ k, (∀ y0 y1 y2 y3 y4, LeO (chain_mask.l0 k y0 y1 y2 y3 y4) (chain_mask.l0 (k + 1) y0 y1 y2 y3 y4))
  | 0 => fun _ _ _ _ _ r h => by simp [chain_mask.l0] at h
  | k + 1 => by
    have ih0 := chain_mask.mono_l k
    · intro y0 y1 y2 y3 y4
      unfold chain_mask.l0
      repeat' first
      | (with_reducible exact ih0 _ _ _ _ _)
      | (with_reducible exact LeO.refl _)
      | (with_reducible exact LeO.none _)
      | (with_reducible refine LeO.ite ?_ ?_)
      | (with_reducible refine LeO.bind ?_ (fun _ => ?_))
      | exact ih0 _ _ _ _ _
      | exact LeO.none _
      | refine LeO.ite ?_ ?_
      | refine LeO.bind ?_ (fun _ => ?_)
theorem chain_mask.mono : ∀ a0 a1 k, LeO (chain_mask.f k a0 a1) (chain_mask.f (k + 1) a0 a1) := by
  intro a0 a1 k
  have ih0 := chain_mask.mono_l k
  unfold chain_mask.f
  repeat' first
      | (with_reducible exact ih0 _ _ _ _ _)
      | (with_reducible exact LeO.refl _)
      | (with_reducible exact LeO.none _)
      | (with_reducible refine LeO.ite ?_ ?_)
      | (with_reducible refine LeO.bind ?_ (fun _ => ?_))
      | exact ih0 _ _ _ _ _
      | exact LeO.none _
      | refine LeO.ite ?_ ?_
      | refine LeO.bind ?_ (fun _ => ?_)
/-! ### cmp_isNaN_uint -/
def cmp_isNaN_uint.f (a0 : Int) : Option (Bool) := some (a0 != a0)
/-! ### cmp_Less_uint -/
def cmp_Less_uint.f (a0 : Int) (a1 : Int) : Option (Bool) := (cmp_isNaN_uint.f a0).bind fun t102 => (if t102 = true then ((cmp_isNaN_uint.f a1).bind fun t103 => (if t103 = true then (some (decide (a0 < a1))) else (some true))) else (some (decide (a0 < a1))))
/-! ### slices_insertionSortOrdered_uint -/
mutual
def slices_insertionSortOrdered_uint.l0 : Nat → List Int → Int → Int → Int → Option (List Int)
  | 0, _, _, _, _ => none
  | k + 1, x0, x1, x2, x6 => if x6 < x2 then (slices_insertionSortOrdered_uint.l1 k x0 x1 x2 x6 x6) else (some x0)
def slices_insertionSortOrdered_uint.l1 : Nat → List Int → Int → Int → Int → Int → Option (List Int)
  | 0, _, _, _, _, _ => none
  | k + 1, x0, x1, x2, x6, x7 => if x7 > x1 then (if 0 ≤ x7 then (if x7 < (x0.length : Int) then (if 0 ≤ (wrap64 (x7 - 1)) then (if (wrap64 (x7 - 1)) < (x0.length : Int) then ((cmp_Less_uint.f (rd x0 x7) (rd x0 (wrap64 (x7 - 1)))).bind fun t106 => (if t106 = true then (slices_insertionSortOrdered_uint.l1 k ((x0.set (x7 : Int).toNat (rd x0 (wrap64 (x7 - 1)))).set ((wrap64 (x7 - 1)) : Int).toNat (rd x0 x7)) x1 x2 x6 (wrap64 (x7 - 1))) else (slices_insertionSortOrdered_uint.l0 k x0 x1 x2 (wrap64 (x6 + 1))))) else (none)) else (none)) else (none)) else (none)) else (slices_insertionSortOrdered_uint.l0 k x0 x1 x2 (wrap64 (x6 + 1)))
end
def slices_insertionSortOrdered_uint.f (k : Nat) (l0 : List Int) (a1 : Int) (a2 : Int) : Option (List Int) := slices_insertionSortOrdered_uint.l0 k l0 a1 a2 (wrap64 (a1 + 1))
theorem slices_insertionSortOrdered_uint.mono_l : ∀ k, (∀ y0 y1 y2 y3, LeO (slices_insertionSortOrdered_uint.l0 k y0 y1 y2 y3) (slices_insertionSortOrdered_uint.l0 (k + 1) y0 y1 y2 y3)) ∧ (∀ y0 y1 y2 y3 y4, LeO (slices_insertionSortOrdered_uint.l1 k y0 y1 y2 y3 y4) (slices_insertionSortOrdered_uint.l1 (k + 1) y0 y1 y2 y3 y4))
  | 0 => ⟨fun _ _ _ _ r h => by simp [slices_insertionSortOrdered_uint.l0] at h, fun _ _ _ _ _ r h => by simp [slices_insertionSortOrdered_uint.l1] at h⟩
  | k + 1 => by
    obtain ⟨ih0, ih1⟩ := slices_insertionSortOrdered_uint.mono_l k
    refine ⟨?_, ?_⟩
    · intro y0 y1 y2 y3
      unfold slices_insertionSortOrdered_uint.l0
      repeat' first
      | (with_reducible exact ih0 _ _ _ _)
      | (with_reducible exact ih1 _ _ _ _ _)
      | (with_reducible exact LeO.refl _)
      | (with_reducible exact LeO.none _)
      | (with_reducible refine LeO.ite ?_ ?_)
      | (with_reducible refine LeO.bind ?_ (fun _ => ?_))
      | exact ih0 _ _ _ _
      | exact ih1 _ _ _ _ _
      | exact LeO.none _
      | refine LeO.ite ?_ ?_
      | refine LeO.bind ?_ (fun _ => ?_)
    · intro y0 y1 y2 y3 y4
      unfold slices_insertionSortOrdered_uint.l1
      repeat' first
      | (with_reducible exact ih0 _ _ _ _)
      | (with_reducible exact ih1 _ _ _ _ _)
      | (with_reducible exact LeO.refl _)
      | (with_reducible exact LeO.none _)
      | (with_reducible refine LeO.ite ?_ ?_)
      | (with_reducible refine LeO.bind ?_ (fun _ => ?_))
      | exact ih0 _ _ _ _
      | exact ih1 _ _ _ _ _
      | exact LeO.none _
      | refine LeO.ite ?_ ?_
      | refine LeO.bind ?_ (fun _ => ?_)
theorem slices_insertionSortOrdered_uint.mono : ∀ a0 a1 a2 k, LeO (slices_insertionSortOrdered_uint.f k a0 a1 a2) (slices_insertionSortOrdered_uint.f (k + 1) a0 a1 a2) := by
  intro a0 a1 a2 k
  obtain ⟨ih0, ih1⟩ := slices_insertionSortOrdered_uint.mono_l k
  unfold slices_insertionSortOrdered_uint.f
  repeat' first
      | (with_reducible exact ih0 _ _ _ _)
      | (with_reducible exact ih1 _ _ _ _ _)
      | (with_reducible exact LeO.refl _)
      | (with_reducible exact LeO.none _)
      | (with_reducible refine LeO.ite ?_ ?_)
      | (with_reducible refine LeO.bind ?_ (fun _ => ?_))
      | exact ih0 _ _ _ _
      | exact ih1 _ _ _ _ _
      | exact LeO.none _
      | refine LeO.ite ?_ ?_
      | refine LeO.bind ?_ (fun _ => ?_)
/-! ### slices_siftDownOrdered_uint -/
mutual
def slices_siftDownOrdered_uint.l0 : Nat → List Int → Int → Int → Int → Option (List Int)
  | 0, _, _, _, _ => none
  | k + 1, x0, x2, x3, x8 => if (wrap64 ((wrap64 (2 * x8)) + 1)) ≥ x2 then (some x0) else (if (wrap64 ((wrap64 ((wrap64 (2 * x8)) + 1)) + 1)) < x2 then (if 0 ≤ (wrap64 (x3 + (wrap64 ((wrap64 (2 * x8)) + 1)))) then (if (wrap64 (x3 + (wrap64 ((wrap64 (2 * x8)) + 1)))) < (x0.length : Int) then (if 0 ≤ (wrap64 ((wrap64 (x3 + (wrap64 ((wrap64 (2 * x8)) + 1)))) + 1)) then (if (wrap64 ((wrap64 (x3 + (wrap64 ((wrap64 (2 * x8)) + 1)))) + 1)) < (x0.length : Int) then ((cmp_Less_uint.f (rd x0 (wrap64 (x3 + (wrap64 ((wrap64 (2 * x8)) + 1))))) (rd x0 (wrap64 ((wrap64 (x3 + (wrap64 ((wrap64 (2 * x8)) + 1)))) + 1)))).bind fun t113 => (slices_siftDownOrdered_uint.j1 k x0 x2 x3 x8 (wrap64 ((wrap64 (2 * x8)) + 1)) t113)) else (none)) else (none)) else (none)) else (none)) else (slices_siftDownOrdered_uint.j1 k x0 x2 x3 x8 (wrap64 ((wrap64 (2 * x8)) + 1)) false))
def slices_siftDownOrdered_uint.j1 : Nat → List Int → Int → Int → Int → Int → Bool → Option (List Int)
  | 0, _, _, _, _, _, _ => none
  | k + 1, x0, x2, x3, x8, x9, x36 => if x36 = true then (if 0 ≤ (wrap64 (x3 + x8)) then (if (wrap64 (x3 + x8)) < (x0.length : Int) then (if 0 ≤ (wrap64 (x3 + (wrap64 (x9 + 1)))) then (if (wrap64 (x3 + (wrap64 (x9 + 1)))) < (x0.length : Int) then ((cmp_Less_uint.f (rd x0 (wrap64 (x3 + x8))) (rd x0 (wrap64 (x3 + (wrap64 (x9 + 1)))))).bind fun t116 => (if t116 = true then (slices_siftDownOrdered_uint.l0 k ((x0.set ((wrap64 (x3 + x8)) : Int).toNat (rd x0 (wrap64 (x3 + (wrap64 (x9 + 1)))))).set ((wrap64 (x3 + (wrap64 (x9 + 1)))) : Int).toNat (rd x0 (wrap64 (x3 + x8)))) x2 x3 (wrap64 (x9 + 1))) else (some x0))) else (none)) else (none)) else (none)) else (none)) else (if 0 ≤ (wrap64 (x3 + x8)) then (if (wrap64 (x3 + x8)) < (x0.length : Int) then (if 0 ≤ (wrap64 (x3 + x9)) then (if (wrap64 (x3 + x9)) < (x0.length : Int) then ((cmp_Less_uint.f (rd x0 (wrap64 (x3 + x8))) (rd x0 (wrap64 (x3 + x9)))).bind fun t123 => (if t123 = true then (slices_siftDownOrdered_uint.l0 k ((x0.set ((wrap64 (x3 + x8)) : Int).toNat (rd x0 (wrap64 (x3 + x9)))).set ((wrap64 (x3 + x9)) : Int).toNat (rd x0 (wrap64 (x3 + x8)))) x2 x3 x9) else (some x0))) else (none)) else (none)) else (none)) else (none))
end
def slices_siftDownOrdered_uint.f (k : Nat) (l0 : List Int) (a1 : Int) (a2 : Int) (a3 : Int) : Option (List Int) := slices_siftDownOrdered_uint.l0 k l0 a2 a3 a1
theorem slices_siftDownOrdered_uint.mono_l : ∀ k, (∀ y0 y1 y2 y3, LeO (slices_siftDownOrdered_uint.l0 k y0 y1 y2 y3) (slices_siftDownOrdered_uint.l0 (k + 1) y0 y1 y2 y3)) ∧ (∀ y0 y1 y2 y3 y4 y5, LeO (slices_siftDownOrdered_uint.j1 k y0 y1 y2 y3 y4 y5) (slices_siftDownOrdered_uint.j1 (k + 1) y0 y1 y2 y3 y4 y5))
  | 0 => ⟨fun _ _ _ _ r h => by simp [slices_siftDownOrdered_uint.l0] at h, fun _ _ _ _ _ _ r h => by simp [slices_siftDownOrdered_uint.j1] at h⟩
  | k + 1 => by
    obtain ⟨ih0, ih1⟩ := slices_siftDownOrdered_uint.mono_l k
    refine ⟨?_, ?_⟩
    · intro y0 y1 y2 y3
      unfold slices_siftDownOrdered_uint.l0
      repeat' first
      | (with_reducible exact ih0 _ _ _ _)
      | (with_reducible exact ih1 _ _ _ _ _ _)
      | (with_reducible exact LeO.refl _)
      | (with_reducible exact LeO.none _)
      | (with_reducible refine LeO.ite ?_ ?_)
      | (with_reducible refine LeO.bind ?_ (fun _ => ?_))
      | exact ih0 _ _ _ _
      | exact ih1 _ _ _ _ _ _
      | exact LeO.none _
      | refine LeO.ite ?_ ?_
      | refine LeO.bind ?_ (fun _ => ?_)
    · intro y0 y1 y2 y3 y4 y5
      unfold slices_siftDownOrdered_uint.j1
      repeat' first
      | (with_reducible exact ih0 _ _ _ _)
      | (with_reducible exact ih1 _ _ _ _ _ _)
      | (with_reducible exact LeO.refl _)
      | (with_reducible exact LeO.none _)
      | (with_reducible refine LeO.ite ?_ ?_)
      | (with_reducible refine LeO.bind ?_ (fun _ => ?_))
      | exact ih0 _ _ _ _
      | exact ih1 _ _ _ _ _ _
      | exact LeO.none _
      | refine LeO.ite ?_ ?_
      | refine LeO.bind ?_ (fun _ => ?_)
theorem slices_siftDownOrdered_uint.mono : ∀ a0 a1 a2 a3 k, LeO (slices_siftDownOrdered_uint.f k a0 a1 a2 a3) (slices_siftDownOrdered_uint.f (k + 1) a0 a1 a2 a3) := by
  intro a0 a1 a2 a3 k
  obtain ⟨ih0, ih1⟩ := slices_siftDownOrdered_uint.mono_l k
  unfold slices_siftDownOrdered_uint.f
  repeat' first
      | (with_reducible exact ih0 _ _ _ _)
      | (with_reducible exact ih1 _ _ _ _ _ _)
      | (with_reducible exact LeO.refl _)
      | (with_reducible exact LeO.none _)
      | (with_reducible refine LeO.ite ?_ ?_)
      | (with_reducible refine LeO.bind ?_ (fun _ => ?_))
      | exact ih0 _ _ _ _
      | exact ih1 _ _ _ _ _ _
      | exact LeO.none _
      | refine LeO.ite ?_ ?_
      | refine LeO.bind ?_ (fun _ => ?_)
/-! ### slices_heapSortOrdered_uint -/
mutual
def slices_heapSortOrdered_uint.l0 : Nat → List Int → Int → Int → Int → Int → Option (List Int)
  | 0, _, _, _, _, _ => none
  | k + 1, x0, x6, x7, x8, x9 => if x9 ≥ 0 then ((slices_siftDownOrdered_uint.f k x0 x9 x8 x6).bind fun t128 => (slices_heapSortOrdered_uint.l0 k t128 x6 x7 x8 (wrap64 (x9 - 1)))) else (slices_heapSortOrdered_uint.l1 k x0 x6 x7 (wrap64 (x8 - 1)))
def slices_heapSortOrdered_uint.l1 : Nat → List Int → Int → Int → Int → Option (List Int)
  | 0, _, _, _, _ => none
  | k + 1, x0, x6, x7, x10 => if x10 ≥ 0 then (if 0 ≤ (wrap64 (x6 + x10)) then (if (wrap64 (x6 + x10)) < (x0.length : Int) then (if 0 ≤ x6 then (if x6 < (x0.length : Int) then ((slices_siftDownOrdered_uint.f k ((x0.set (x6 : Int).toNat (rd x0 (wrap64 (x6 + x10)))).set ((wrap64 (x6 + x10)) : Int).toNat (rd x0 x6)) x7 x10 x6).bind fun t133 => (slices_heapSortOrdered_uint.l1 k t133 x6 x7 (wrap64 (x10 - 1)))) else (none)) else (none)) else (none)) else (none)) else (some x0)
end
def slices_heapSortOrdered_uint.f (k : Nat) (l0 : List Int) (a1 : Int) (a2 : Int) : Option (List Int) := slices_heapSortOrdered_uint.l0 k l0 a1 0 (wrap64 (a2 - a1)) (wrap64 (Int.tdiv (wrap64 ((wrap64 (a2 - a1)) - 1)) 2))
theorem slices_heapSortOrdered_uint.mono_l : ∀ k, (∀ y0 y1 y2 y3 y4, LeO (slices_heapSortOrdered_uint.l0 k y0 y1 y2 y3 y4) (slices_heapSortOrdered_uint.l0 (k + 1) y0 y1 y2 y3 y4)) ∧ (∀ y0 y1 y2 y3, LeO (slices_heapSortOrdered_uint.l1 k y0 y1 y2 y3) (slices_heapSortOrdered_uint.l1 (k + 1) y0 y1 y2 y3))
  | 0 => ⟨fun _ _ _ _ _ r h => by simp [slices_heapSortOrdered_uint.l0] at h, fun _ _ _ _ r h => by simp [slices_heapSortOrdered_uint.l1] at h⟩
  | k + 1 => by
    obtain ⟨ih0, ih1⟩ := slices_heapSortOrdered_uint.mono_l k
    refine ⟨?_, ?_⟩
    · intro y0 y1 y2 y3 y4
      unfold slices_heapSortOrdered_uint.l0
      repeat' first
      | (with_reducible exact ih0 _ _ _ _ _)
      | (with_reducible exact ih1 _ _ _ _)
      | (with_reducible exact slices_siftDownOrdered_uint.mono _ _ _ _ _)
      | (with_reducible exact LeO.refl _)
      | (with_reducible exact LeO.none _)
      | (with_reducible refine LeO.ite ?_ ?_)
      | (with_reducible refine LeO.bind ?_ (fun _ => ?_))
      | exact ih0 _ _ _ _ _
      | exact ih1 _ _ _ _
      | exact slices_siftDownOrdered_uint.mono _ _ _ _ _
      | exact LeO.none _
      | refine LeO.ite ?_ ?_
      | refine LeO.bind ?_ (fun _ => ?_)
    · intro y0 y1 y2 y3
      unfold slices_heapSortOrdered_uint.l1
      repeat' first
      | (with_reducible exact ih0 _ _ _ _ _)
      | (with_reducible exact ih1 _ _ _ _)
      | (with_reducible exact slices_siftDownOrdered_uint.mono _ _ _ _ _)
      | (with_reducible exact LeO.refl _)
      | (with_reducible exact LeO.none _)
      | (with_reducible refine LeO.ite ?_ ?_)
      | (with_reducible refine LeO.bind ?_ (fun _ => ?_))
      | exact ih0 _ _ _ _ _
      | exact ih1 _ _ _ _
      | exact slices_siftDownOrdered_uint.mono _ _ _ _ _
      | exact LeO.none _
      | refine LeO.ite ?_ ?_
      | refine LeO.bind ?_ (fun _ => ?_)
theorem slices_heapSortOrdered_uint.mono : ∀ a0 a1 a2 k, LeO (slices_heapSortOrdered_uint.f k a0 a1 a2) (slices_heapSortOrdered_uint.f (k + 1) a0 a1 a2) := by
  intro a0 a1 a2 k
  obtain ⟨ih0, ih1⟩ := slices_heapSortOrdered_uint.mono_l k
  unfold slices_heapSortOrdered_uint.f
  repeat' first
      | (with_reducible exact ih0 _ _ _ _ _)
      | (with_reducible exact ih1 _ _ _ _)
      | (with_reducible exact slices_siftDownOrdered_uint.mono _ _ _ _ _)
      | (with_reducible exact LeO.refl _)
      | (with_reducible exact LeO.none _)
      | (with_reducible refine LeO.ite ?_ ?_)
      | (with_reducible refine LeO.bind ?_ (fun _ => ?_))
      | exact ih0 _ _ _ _ _
      | exact ih1 _ _ _ _
      | exact slices_siftDownOrdered_uint.mono _ _ _ _ _
      | exact LeO.none _
      | refine LeO.ite ?_ ?_
      | refine LeO.bind ?_ (fun _ => ?_)
/-! ### slices_nextPowerOfTwo -/
def slices_nextPowerOfTwo.f (a0 : Int) : Option (Int) := (bits_Len.f (IntKind.u64.wrap (a0))).bind fun t134 => (if 0 ≤ t134 then (some (shl .u64 1 t134)) else (none))
/-! ### slices_reverseRangeOrdered_uint -/
def slices_reverseRangeOrdered_uint.l0 : Nat → List Int → Int → Int → Option (List Int)
  | 0, _, _, _ => none
  | k + 1, x0, x6, x7 => if x6 < x7 then (if 0 ≤ x7 then (if x7 < (x0.length : Int) then (if 0 ≤ x6 then (if x6 < (x0.length : Int) then (slices_reverseRangeOrdered_uint.l0 k ((x0.set (x6 : Int).toNat (rd x0 x7)).set (x7 : Int).toNat (rd x0 x6)) (wrap64 (x6 + 1)) (wrap64 (x7 - 1))) else (none)) else (none)) else (none)) else (none)) else (some x0)
def slices_reverseRangeOrdered_uint.f (k : Nat) (l0 : List Int) (a1 : Int) (a2 : Int) : Option (List Int) := slices_reverseRangeOrdered_uint.l0 k l0 a1 (wrap64 (a2 - 1))
theorem slices_reverseRangeOrdered_uint.mono_l : ∀ k, (∀ y0 y1 y2, LeO (slices_reverseRangeOrdered_uint.l0 k y0 y1 y2) (slices_reverseRangeOrdered_uint.l0 (k + 1) y0 y1 y2))
  | 0 => fun _ _ _ r h => by simp [slices_reverseRangeOrdered_uint.l0] at h
  | k + 1 => by
    have ih0 := slices_reverseRangeOrdered_uint.mono_l k
    · intro y0 y1 y2
      unfold slices_reverseRangeOrdered_uint.l0
      repeat' first
      | (with_reducible exact ih0 _ _ _)
      | (with_reducible exact LeO.refl _)
      | (with_reducible exact LeO.none _)
      | (with_reducible refine LeO.ite ?_ ?_)
      | (with_reducible refine LeO.bind ?_ (fun _ => ?_))
      | exact ih0 _ _ _
      | exact LeO.none _
      | refine LeO.ite ?_ ?_
      | refine LeO.bind ?_ (fun _ => ?_)
theorem slices_reverseRangeOrdered_uint.mono : ∀ a0 a1 a2 k, LeO (slices_reverseRangeOrdered_uint.f k a0 a1 a2) (slices_reverseRangeOrdered_uint.f (k + 1) a0 a1 a2) := by
  intro a0 a1 a2 k
  have ih0 := slices_reverseRangeOrdered_uint.mono_l k
  unfold slices_reverseRangeOrdered_uint.f
  repeat' first
      | (with_reducible exact ih0 _ _ _)
      | (with_reducible exact LeO.refl _)
      | (with_reducible exact LeO.none _)
      | (with_reducible refine LeO.ite ?_ ?_)
      | (with_reducible refine LeO.bind ?_ (fun _ => ?_))
      | exact ih0 _ _ _
      | exact LeO.none _
      | refine LeO.ite ?_ ?_
      | refine LeO.bind ?_ (fun _ => ?_)
/-! ### slices_partialInsertionSortOrdered_uint -/
mutual
def slices_partialInsertionSortOrdered_uint.l0 : Nat → List Int → Int → Int → Int → Int → Option (Bool × List Int)
  | 0, _, _, _, _, _ => none
  | k + 1, x0, x1, x2, x7, x8 => if x8 < 5 then (slices_partialInsertionSortOrdered_uint.l1 k x0 x1 x2 x7 x8) else (some (false, x0))
def slices_partialInsertionSortOrdered_uint.j2 : Nat → List Int → Int → Int → Int → Int → Option (Bool × List Int)
  | 0, _, _, _, _, _ => none
  | k + 1, x0, x1, x2, x7, x8 => if x7 = x2 then (some (true, x0)) else (if (wrap64 (x2 - x1)) < 50 then (some (false, x0)) else (if 0 ≤ (wrap64 (x7 - 1)) then (if (wrap64 (x7 - 1)) < (x0.length : Int) then (if 0 ≤ x7 then (if x7 < (x0.length : Int) then ((some ((x0.set (x7 : Int).toNat (rd x0 (wrap64 (x7 - 1)))).set ((wrap64 (x7 - 1)) : Int).toNat (rd x0 x7) : List Int)).bind fun y145 => (if (wrap64 (x7 - x1)) ≥ 2 then (slices_partialInsertionSortOrdered_uint.l2 k y145 x1 x2 x7 x8 (wrap64 (x7 - 1))) else (slices_partialInsertionSortOrdered_uint.j4 k y145 x1 x2 x7 x8))) else (none)) else (none)) else (none)) else (none)))
def slices_partialInsertionSortOrdered_uint.j4 : Nat → List Int → Int → Int → Int → Int → Option (Bool × List Int)
  | 0, _, _, _, _, _ => none
  | k + 1, x0, x1, x2, x7, x8 => if (wrap64 (x2 - x7)) ≥ 2 then (slices_partialInsertionSortOrdered_uint.l3 k x0 x1 x2 x7 x8 (wrap64 (x7 + 1))) else (slices_partialInsertionSortOrdered_uint.l0 k x0 x1 x2 x7 (wrap64 (x8 + 1)))
def slices_partialInsertionSortOrdered_uint.l3 : Nat → List Int → Int → Int → Int → Int → Int → Option (Bool × List Int)
  | 0, _, _, _, _, _, _ => none
  | k + 1, x0, x1, x2, x7, x8, x10 => if x10 < x2 then (if 0 ≤ x10 then (if x10 < (x0.length : Int) then (if 0 ≤ (wrap64 (x10 - 1)) then (if (wrap64 (x10 - 1)) < (x0.length : Int) then ((cmp_Less_uint.f (rd x0 x10) (rd x0 (wrap64 (x10 - 1)))).bind fun t155 => (if t155 = true then (slices_partialInsertionSortOrdered_uint.l3 k ((x0.set (x10 : Int).toNat (rd x0 (wrap64 (x10 - 1)))).set ((wrap64 (x10 - 1)) : Int).toNat (rd x0 x10)) x1 x2 x7 x8 (wrap64 (x10 + 1))) else (slices_partialInsertionSortOrdered_uint.l0 k x0 x1 x2 x7 (wrap64 (x8 + 1))))) else (none)) else (none)) else (none)) else (none)) else (slices_partialInsertionSortOrdered_uint.l0 k x0 x1 x2 x7 (wrap64 (x8 + 1)))
def slices_partialInsertionSortOrdered_uint.l2 : Nat → List Int → Int → Int → Int → Int → Int → Option (Bool × List Int)
  | 0, _, _, _, _, _, _ => none
  | k + 1, x0, x1, x2, x7, x8, x9 => if x9 ≥ 1 then (if 0 ≤ x9 then (if x9 < (x0.length : Int) then (if 0 ≤ (wrap64 (x9 - 1)) then (if (wrap64 (x9 - 1)) < (x0.length : Int) then ((cmp_Less_uint.f (rd x0 x9) (rd x0 (wrap64 (x9 - 1)))).bind fun t148 => (if t148 = true then (slices_partialInsertionSortOrdered_uint.l2 k ((x0.set (x9 : Int).toNat (rd x0 (wrap64 (x9 - 1)))).set ((wrap64 (x9 - 1)) : Int).toNat (rd x0 x9)) x1 x2 x7 x8 (wrap64 (x9 - 1))) else (slices_partialInsertionSortOrdered_uint.j4 k x0 x1 x2 x7 x8))) else (none)) else (none)) else (none)) else (none)) else (slices_partialInsertionSortOrdered_uint.j4 k x0 x1 x2 x7 x8)
def slices_partialInsertionSortOrdered_uint.l1 : Nat → List Int → Int → Int → Int → Int → Option (Bool × List Int)
  | 0, _, _, _, _, _ => none
  | k + 1, x0, x1, x2, x7, x8 => if x7 < x2 then (if 0 ≤ x7 then (if x7 < (x0.length : Int) then (if 0 ≤ (wrap64 (x7 - 1)) then (if (wrap64 (x7 - 1)) < (x0.length : Int) then ((cmp_Less_uint.f (rd x0 x7) (rd x0 (wrap64 (x7 - 1)))).bind fun t141 => (if t141 = true then (slices_partialInsertionSortOrdered_uint.j2 k x0 x1 x2 x7 x8) else (slices_partialInsertionSortOrdered_uint.l1 k x0 x1 x2 (wrap64 (x7 + 1)) x8))) else (none)) else (none)) else (none)) else (none)) else (slices_partialInsertionSortOrdered_uint.j2 k x0 x1 x2 x7 x8)
end
def slices_partialInsertionSortOrdered_uint.f (k : Nat) (l0 : List Int) (a1 : Int) (a2 : Int) : Option (Bool × List Int) := slices_partialInsertionSortOrdered_uint.l0 k l0 a1 a2 (wrap64 (a1 + 1)) 0
theorem slices_partialInsertionSortOrdered_uint.mono_l : ∀ k, (∀ y0 y1 y2 y3 y4, LeO (slices_partialInsertionSortOrdered_uint.l0 k y0 y1 y2 y3 y4) (slices_partialInsertionSortOrdered_uint.l0 (k + 1) y0 y1 y2 y3 y4)) ∧ (∀ y0 y1 y2 y3 y4, LeO (slices_partialInsertionSortOrdered_uint.j2 k y0 y1 y2 y3 y4) (slices_partialInsertionSortOrdered_uint.j2 (k + 1) y0 y1 y2 y3 y4)) ∧ (∀ y0 y1 y2 y3 y4, LeO (slices_partialInsertionSortOrdered_uint.j4 k y0 y1 y2 y3 y4) (slices_partialInsertionSortOrdered_uint.j4 (k + 1) y0 y1 y2 y3 y4)) ∧ (∀ y0 y1 y2 y3 y4 y5, LeO (slices_partialInsertionSortOrdered_uint.l3 k y0 y1 y2 y3 y4 y5) (slices_partialInsertionSortOrdered_uint.l3 (k + 1) y0 y1 y2 y3 y4 y5)) ∧ (∀ y0 y1 y2 y3 y4 y5, LeO (slices_partialInsertionSortOrdered_uint.l2 k y0 y1 y2 y3 y4 y5) (slices_partialInsertionSortOrdered_uint.l2 (k + 1) y0 y1 y2 y3 y4 y5)) ∧ (∀ y0 y1 y2 y3 y4, LeO (slices_partialInsertionSortOrdered_uint.l1 k y0 y1 y2 y3 y4) (slices_partialInsertionSortOrdered_uint.l1 (k + 1) y0 y1 y2 y3 y4))
  | 0 => ⟨fun _ _ _ _ _ r h => by simp [slices_partialInsertionSortOrdered_uint.l0] at h, fun _ _ _ _ _ r h => by simp [slices_partialInsertionSortOrdered_uint.j2] at h, fun _ _ _ _ _ r h => by simp [slices_partialInsertionSortOrdered_uint.j4] at h, fun _ _ _ _ _ _ r h => by simp [slices_partialInsertionSortOrdered_uint.l3] at h, fun _ _ _ _ _ _ r h => by simp [slices_partialInsertionSortOrdered_uint.l2] at h, fun _ _ _ _ _ r h => by simp [slices_partialInsertionSortOrdered_uint.l1] at h⟩
  | k + 1 => by
    obtain ⟨ih0, ih1, ih2, ih3, ih4, ih5⟩ := slices_partialInsertionSortOrdered_uint.mono_l k
    refine ⟨?_, ?_, ?_, ?_, ?_, ?_⟩
    · intro y0 y1 y2 y3 y4
      unfold slices_partialInsertionSortOrdered_uint.l0
      repeat' first
      | (with_reducible exact ih0 _ _ _ _ _)
      | (with_reducible exact ih1 _ _ _ _ _)
      | (with_reducible exact ih2 _ _ _ _ _)
      | (with_reducible exact ih3 _ _ _ _ _ _)
      | (with_reducible exact ih4 _ _ _ _ _ _)
      | (with_reducible exact ih5 _ _ _ _ _)
      | (with_reducible exact LeO.refl _)
      | (with_reducible exact LeO.none _)
      | (with_reducible refine LeO.ite ?_ ?_)
      | (with_reducible refine LeO.bind ?_ (fun _ => ?_))
      | exact ih0 _ _ _ _ _
      | exact ih1 _ _ _ _ _
      | exact ih2 _ _ _ _ _
      | exact ih3 _ _ _ _ _ _
      | exact ih4 _ _ _ _ _ _
      | exact ih5 _ _ _ _ _
      | exact LeO.none _
      | refine LeO.ite ?_ ?_
      | refine LeO.bind ?_ (fun _ => ?_)
    · intro y0 y1 y2 y3 y4
      unfold slices_partialInsertionSortOrdered_uint.j2
      repeat' first
      | (with_reducible exact ih0 _ _ _ _ _)
      | (with_reducible exact ih1 _ _ _ _ _)
      | (with_reducible exact ih2 _ _ _ _ _)
      | (with_reducible exact ih3 _ _ _ _ _ _)
      | (with_reducible exact ih4 _ _ _ _ _ _)
      | (with_reducible exact ih5 _ _ _ _ _)
      | (with_reducible exact LeO.refl _)
      | (with_reducible exact LeO.none _)
      | (with_reducible refine LeO.ite ?_ ?_)
      | (with_reducible refine LeO.bind ?_ (fun _ => ?_))
      | exact ih0 _ _ _ _ _
      | exact ih1 _ _ _ _ _
      | exact ih2 _ _ _ _ _
      | exact ih3 _ _ _ _ _ _
      | exact ih4 _ _ _ _ _ _
      | exact ih5 _ _ _ _ _
      | exact LeO.none _
      | refine LeO.ite ?_ ?_
      | refine LeO.bind ?_ (fun _ => ?_)
    · intro y0 y1 y2 y3 y4
      unfold slices_partialInsertionSortOrdered_uint.j4
      repeat' first
      | (with_reducible exact ih0 _ _ _ _ _)
      | (with_reducible exact ih1 _ _ _ _ _)
      | (with_reducible exact ih2 _ _ _ _ _)
      | (with_reducible exact ih3 _ _ _ _ _ _)
      | (with_reducible exact ih4 _ _ _ _ _ _)
      | (with_reducible exact ih5 _ _ _ _ _)
      | (with_reducible exact LeO.refl _)
      | (with_reducible exact LeO.none _)
      | (with_reducible refine LeO.ite ?_ ?_)
      | (with_reducible refine LeO.bind ?_ (fun _ => ?_))
      | exact ih0 _ _ _ _ _
      | exact ih1 _ _ _ _ _
      | exact ih2 _ _ _ _ _
      | exact ih3 _ _ _ _ _ _
      | exact ih4 _ _ _ _ _ _
      | exact ih5 _ _ _ _ _
      | exact LeO.none _
      | refine LeO.ite ?_ ?_
      | refine LeO.bind ?_ (fun _ => ?_)
    · intro y0 y1 y2 y3 y4 y5
      unfold slices_partialInsertionSortOrdered_uint.l3
      repeat' first
      | (with_reducible exact ih0 _ _ _ _ _)
      | (with_reducible exact ih1 _ _ _ _ _)
      | (with_reducible exact ih2 _ _ _ _ _)
      | (with_reducible exact ih3 _ _ _ _ _ _)
      | (with_reducible exact ih4 _ _ _ _ _ _)
      | (with_reducible exact ih5 _ _ _ _ _)
      | (with_reducible exact LeO.refl _)
      | (with_reducible exact LeO.none _)
      | (with_reducible refine LeO.ite ?_ ?_)
      | (with_reducible refine LeO.bind ?_ (fun _ => ?_))
      | exact ih0 _ _ _ _ _
      | exact ih1 _ _ _ _ _
      | exact ih2 _ _ _ _ _
      | exact ih3 _ _ _ _ _ _
      | exact ih4 _ _ _ _ _ _
      | exact ih5 _ _ _ _ _
      | exact LeO.none _
      | refine LeO.ite ?_ ?_
      | refine LeO.bind ?_ (fun _ => ?_)
    · intro y0 y1 y2 y3 y4 y5
      unfold slices_partialInsertionSortOrdered_uint.l2
      repeat' first
      | (with_reducible exact ih0 _ _ _ _ _)
      | (with_reducible exact ih1 _ _ _ _ _)
      | (with_reducible exact ih2 _ _ _ _ _)
      | (with_reducible exact ih3 _ _ _ _ _ _)
      | (with_reducible exact ih4 _ _ _ _ _ _)
      | (with_reducible exact ih5 _ _ _ _ _)
      | (with_reducible exact LeO.refl _)
      | (with_reducible exact LeO.none _)
      | (with_reducible refine LeO.ite ?_ ?_)
      | (with_reducible refine LeO.bind ?_ (fun _ => ?_))
      | exact ih0 _ _ _ _ _
      | exact ih1 _ _ _ _ _
      | exact ih2 _ _ _ _ _
      | exact ih3 _ _ _ _ _ _
      | exact ih4 _ _ _ _ _ _
      | exact ih5 _ _ _ _ _
      | exact LeO.none _
      | refine LeO.ite ?_ ?_
      | refine LeO.bind ?_ (fun _ => ?_)
    · intro y0 y1 y2 y3 y4
      unfold slices_partialInsertionSortOrdered_uint.l1
      repeat' first
      | (with_reducible exact ih0 _ _ _ _ _)
      | (with_reducible exact ih1 _ _ _ _ _)
      | (with_reducible exact ih2 _ _ _ _ _)
      | (with_reducible exact ih3 _ _ _ _ _ _)
      | (with_reducible exact ih4 _ _ _ _ _ _)
      | (with_reducible exact ih5 _ _ _ _ _)
      | (with_reducible exact LeO.refl _)
      | (with_reducible exact LeO.none _)
      | (with_reducible refine LeO.ite ?_ ?_)
      | (with_reducible refine LeO.bind ?_ (fun _ => ?_))
      | exact ih0 _ _ _ _ _
      | exact ih1 _ _ _ _ _
      | exact ih2 _ _ _ _ _
      | exact ih3 _ _ _ _ _ _
      | exact ih4 _ _ _ _ _ _
      | exact ih5 _ _ _ _ _
      | exact LeO.none _
      | refine LeO.ite ?_ ?_
      | refine LeO.bind ?_ (fun _ => ?_)
theorem slices_partialInsertionSortOrdered_uint.mono : ∀ a0 a1 a2 k, LeO (slices_partialInsertionSortOrdered_uint.f k a0 a1 a2) (slices_partialInsertionSortOrdered_uint.f (k + 1) a0 a1 a2) := by
  intro a0 a1 a2 k
  obtain ⟨ih0, ih1, ih2, ih3, ih4, ih5⟩ := slices_partialInsertionSortOrdered_uint.mono_l k
  unfold slices_partialInsertionSortOrdered_uint.f
  repeat' first
      | (with_reducible exact ih0 _ _ _ _ _)
      | (with_reducible exact ih1 _ _ _ _ _)
      | (with_reducible exact ih2 _ _ _ _ _)
      | (with_reducible exact ih3 _ _ _ _ _ _)
      | (with_reducible exact ih4 _ _ _ _ _ _)
      | (with_reducible exact ih5 _ _ _ _ _)
      | (with_reducible exact LeO.refl _)
      | (with_reducible exact LeO.none _)
      | (with_reducible refine LeO.ite ?_ ?_)
      | (with_reducible refine LeO.bind ?_ (fun _ => ?_))
      | exact ih0 _ _ _ _ _
      | exact ih1 _ _ _ _ _
      | exact ih2 _ _ _ _ _
      | exact ih3 _ _ _ _ _ _
      | exact ih4 _ _ _ _ _ _
      | exact ih5 _ _ _ _ _
      | exact LeO.none _
      | refine LeO.ite ?_ ?_
      | refine LeO.bind ?_ (fun _ => ?_)
/-! ### slices_partitionEqualOrdered_uint -/
mutual
def slices_partitionEqualOrdered_uint.l0 : Nat → List Int → Int → Int → Int → Option (Int × List Int)
  | 0, _, _, _, _ => none
  | k + 1, x0, x1, x9, x10 => slices_partitionEqualOrdered_uint.l1 k x0 x1 x9 x10
def slices_partitionEqualOrdered_uint.j2 : Nat → List Int → Int → Int → Int → Option (Int × List Int)
  | 0, _, _, _, _ => none
  | k + 1, x0, x1, x9, x10 => slices_partitionEqualOrdered_uint.l2 k x0 x1 x9 x10
def slices_partitionEqualOrdered_uint.l2 : Nat → List Int → Int → Int → Int → Option (Int × List Int)
  | 0, _, _, _, _ => none
  | k + 1, x0, x1, x9, x10 => if x9 ≤ x10 then (if 0 ≤ x1 then (if x1 < (x0.length : Int) then (if 0 ≤ x10 then (if x10 < (x0.length : Int) then ((cmp_Less_uint.f (rd x0 x1) (rd x0 x10)).bind fun t169 => (if t169 = true then (slices_partitionEqualOrdered_uint.l2 k x0 x1 x9 (wrap64 (x10 - 1))) else (if x9 > x10 then (some (x9, x0)) else (if 0 ≤ x9 then (if x9 < (x0.length : Int) then (slices_partitionEqualOrdered_uint.l0 k ((x0.set (x9 : Int).toNat (rd x0 x10)).set (x10 : Int).toNat (rd x0 x9)) x1 (wrap64 (x9 + 1)) (wrap64 (x10 - 1))) else (none)) else (none))))) else (none)) else (none)) else (none)) else (none)) else (if x9 > x10 then (some (x9, x0)) else (if 0 ≤ x10 then (if x10 < (x0.length : Int) then (if 0 ≤ x9 then (if x9 < (x0.length : Int) then (slices_partitionEqualOrdered_uint.l0 k ((x0.set (x9 : Int).toNat (rd x0 x10)).set (x10 : Int).toNat (rd x0 x9)) x1 (wrap64 (x9 + 1)) (wrap64 (x10 - 1))) else (none)) else (none)) else (none)) else (none)))
def slices_partitionEqualOrdered_uint.l1 : Nat → List Int → Int → Int → Int → Option (Int × List Int)
  | 0, _, _, _, _ => none
  | k + 1, x0, x1, x9, x10 => if x9 ≤ x10 then (if 0 ≤ x1 then (if x1 < (x0.length : Int) then (if 0 ≤ x9 then (if x9 < (x0.length : Int) then ((cmp_Less_uint.f (rd x0 x1) (rd x0 x9)).bind fun t166 => (if t166 = true then (slices_partitionEqualOrdered_uint.j2 k x0 x1 x9 x10) else (slices_partitionEqualOrdered_uint.l1 k x0 x1 (wrap64 (x9 + 1)) x10))) else (none)) else (none)) else (none)) else (none)) else (slices_partitionEqualOrdered_uint.j2 k x0 x1 x9 x10)
end
def slices_partitionEqualOrdered_uint.f (k : Nat) (l0 : List Int) (a1 : Int) (a2 : Int) (a3 : Int) : Option (Int × List Int) := if 0 ≤ a3 then (if a3 < (l0.length : Int) then (if 0 ≤ a1 then (if a1 < (l0.length : Int) then (slices_partitionEqualOrdered_uint.l0 k ((l0.set (a1 : Int).toNat (rd l0 a3)).set (a3 : Int).toNat (rd l0 a1)) a1 (wrap64 (a1 + 1)) (wrap64 (a2 - 1))) else (none)) else (none)) else (none)) else (none)
theorem slices_partitionEqualOrdered_uint.mono_l : ∀ k, (∀ y0 y1 y2 y3, LeO (slices_partitionEqualOrdered_uint.l0 k y0 y1 y2 y3) (slices_partitionEqualOrdered_uint.l0 (k + 1) y0 y1 y2 y3)) ∧ (∀ y0 y1 y2 y3, LeO (slices_partitionEqualOrdered_uint.j2 k y0 y1 y2 y3) (slices_partitionEqualOrdered_uint.j2 (k + 1) y0 y1 y2 y3)) ∧ (∀ y0 y1 y2 y3, LeO (slices_partitionEqualOrdered_uint.l2 k y0 y1 y2 y3) (slices_partitionEqualOrdered_uint.l2 (k + 1) y0 y1 y2 y3)) ∧ (∀ y0 y1 y2 y3, LeO (slices_partitionEqualOrdered_uint.l1 k y0 y1 y2 y3) (slices_partitionEqualOrdered_uint.l1 (k + 1) y0 y1 y2 y3))
  | 0 => ⟨fun _ _ _ _ r h => by simp [slices_partitionEqualOrdered_uint.l0] at h, fun _ _ _ _ r h => by simp [slices_partitionEqualOrdered_uint.j2] at h, fun _ _ _ _ r h => by simp [slices_partitionEqualOrdered_uint.l2] at h, fun _ _ _ _ r h => by simp [slices_partitionEqualOrdered_uint.l1] at h⟩
  | k + 1 => by
    obtain ⟨ih0, ih1, ih2, ih3⟩ := slices_partitionEqualOrdered_uint.mono_l k
    refine ⟨?_, ?_, ?_, ?_⟩
    · intro y0 y1 y2 y3
      unfold slices_partitionEqualOrdered_uint.l0
      repeat' first
      | (with_reducible exact ih0 _ _ _ _)
      | (with_reducible exact ih1 _ _ _ _)
      | (with_reducible exact ih2 _ _ _ _)
      | (with_reducible exact ih3 _ _ _ _)
      | (with_reducible exact LeO.refl _)
      | (with_reducible exact LeO.none _)
      | (with_reducible refine LeO.ite ?_ ?_)
      | (with_reducible refine LeO.bind ?_ (fun _ => ?_))
      | exact ih0 _ _ _ _
      | exact ih1 _ _ _ _
      | exact ih2 _ _ _ _
      | exact ih3 _ _ _ _
      | exact LeO.none _
      | refine LeO.ite ?_ ?_
      | refine LeO.bind ?_ (fun _ => ?_)
    · intro y0 y1 y2 y3
      unfold slices_partitionEqualOrdered_uint.j2
      repeat' first
      | (with_reducible exact ih0 _ _ _ _)
      | (with_reducible exact ih1 _ _ _ _)
      | (with_reducible exact ih2 _ _ _ _)
      | (with_reducible exact ih3 _ _ _ _)
      | (with_reducible exact LeO.refl _)
      | (with_reducible exact LeO.none _)
      | (with_reducible refine LeO.ite ?_ ?_)
      | (with_reducible refine LeO.bind ?_ (fun _ => ?_))
      | exact ih0 _ _ _ _
      | exact ih1 _ _ _ _
      | exact ih2 _ _ _ _
      | exact ih3 _ _ _ _
      | exact LeO.none _
      | refine LeO.ite ?_ ?_
      | refine LeO.bind ?_ (fun _ => ?_)
    · intro y0 y1 y2 y3
      unfold slices_partitionEqualOrdered_uint.l2
      repeat' first
      | (with_reducible exact ih0 _ _ _ _)
      | (with_reducible exact ih1 _ _ _ _)
      | (with_reducible exact ih2 _ _ _ _)
      | (with_reducible exact ih3 _ _ _ _)
      | (with_reducible exact LeO.refl _)
      | (with_reducible exact LeO.none _)
      | (with_reducible refine LeO.ite ?_ ?_)
      | (with_reducible refine LeO.bind ?_ (fun _ => ?_))
      | exact ih0 _ _ _ _
      | exact ih1 _ _ _ _
      | exact ih2 _ _ _ _
      | exact ih3 _ _ _ _
      | exact LeO.none _
      | refine LeO.ite ?_ ?_
      | refine LeO.bind ?_ (fun _ => ?_)
    · intro y0 y1 y2 y3
      unfold slices_partitionEqualOrdered_uint.l1
      repeat' first
      | (with_reducible exact ih0 _ _ _ _)
      | (with_reducible exact ih1 _ _ _ _)
      | (with_reducible exact ih2 _ _ _ _)
      | (with_reducible exact ih3 _ _ _ _)
      | (with_reducible exact LeO.refl _)
      | (with_reducible exact LeO.none _)
      | (with_reducible refine LeO.ite ?_ ?_)
      | (with_reducible refine LeO.bind ?_ (fun _ => ?_))
      | exact ih0 _ _ _ _
      | exact ih1 _ _ _ _
      | exact ih2 _ _ _ _
      | exact ih3 _ _ _ _
      | exact LeO.none _
      | refine LeO.ite ?_ ?_
      | refine LeO.bind ?_ (fun _ => ?_)
theorem slices_partitionEqualOrdered_uint.mono : ∀ a0 a1 a2 a3 k, LeO (slices_partitionEqualOrdered_uint.f k a0 a1 a2 a3) (slices_partitionEqualOrdered_uint.f (k + 1) a0 a1 a2 a3) := by
  intro a0 a1 a2 a3 k
  obtain ⟨ih0, ih1, ih2, ih3⟩ := slices_partitionEqualOrdered_uint.mono_l k
  unfold slices_partitionEqualOrdered_uint.f
  repeat' first
      | (with_reducible exact ih0 _ _ _ _)
      | (with_reducible exact ih1 _ _ _ _)
      | (with_reducible exact ih2 _ _ _ _)
      | (with_reducible exact ih3 _ _ _ _)
      | (with_reducible exact LeO.refl _)
      | (with_reducible exact LeO.none _)
      | (with_reducible refine LeO.ite ?_ ?_)
      | (with_reducible refine LeO.bind ?_ (fun _ => ?_))
      | exact ih0 _ _ _ _
      | exact ih1 _ _ _ _
      | exact ih2 _ _ _ _
      | exact ih3 _ _ _ _
      | exact LeO.none _
      | refine LeO.ite ?_ ?_
      | refine LeO.bind ?_ (fun _ => ?_)
/-! ### slices_pdqsortOrdered_uint -/
mutual
def slices_pdqsortOrdered_uint.l0 : Nat → List Int → Int → Int → Int → Bool → Option (List Int)
  | 0, _, _, _, _, _ => none
  | k + 1, x0, x1, x2, x3, x8 => if (wrap64 (x2 - x1)) ≤ 12 then ((slices_insertionSortOrdered_uint.f k x0 x1 x2).bind fun t218 => (some t218)) else (if x3 = 0 then (none) else (if x8 = true then (none) else (none)))
def slices_pdqsortOrdered_uint.f : Nat → List Int → Int → Int → Int → Option (List Int)
  | 0, _, _, _, _ => none
  | k + 1, l0, a1, a2, a3 => slices_pdqsortOrdered_uint.l0 k l0 a1 a2 a3 true
end
theorem slices_pdqsortOrdered_uint.mono_l : ∀ k, (∀ y0 y1 y2 y3, LeO (slices_pdqsortOrdered_uint.f k y0 y1 y2 y3) (slices_pdqsortOrdered_uint.f (k + 1) y0 y1 y2 y3)) ∧ (∀ y0 y1 y2 y3 y4, LeO (slices_pdqsortOrdered_uint.l0 k y0 y1 y2 y3 y4) (slices_pdqsortOrdered_uint.l0 (k + 1) y0 y1 y2 y3 y4))
  | 0 => ⟨fun _ _ _ _ r h => by simp [slices_pdqsortOrdered_uint.f] at h, fun _ _ _ _ _ r h => by simp [slices_pdqsortOrdered_uint.l0] at h⟩
  | k + 1 => by
    obtain ⟨ih0, ih1⟩ := slices_pdqsortOrdered_uint.mono_l k
    refine ⟨?_, ?_⟩
    · intro y0 y1 y2 y3
      unfold slices_pdqsortOrdered_uint.f
      repeat' first
      | (with_reducible exact ih0 _ _ _ _)
      | (with_reducible exact ih1 _ _ _ _ _)
      | (with_reducible exact slices_insertionSortOrdered_uint.mono _ _ _ _)
      | (with_reducible exact LeO.refl _)
      | (with_reducible exact LeO.none _)
      | (with_reducible refine LeO.ite ?_ ?_)
      | (with_reducible refine LeO.bind ?_ (fun _ => ?_))
      | exact ih0 _ _ _ _
      | exact ih1 _ _ _ _ _
      | exact slices_insertionSortOrdered_uint.mono _ _ _ _
      | exact LeO.none _
      | refine LeO.ite ?_ ?_
      | refine LeO.bind ?_ (fun _ => ?_)
    · intro y0 y1 y2 y3 y4
      unfold slices_pdqsortOrdered_uint.l0
      repeat' first
      | (with_reducible exact ih0 _ _ _ _)
      | (with_reducible exact ih1 _ _ _ _ _)
      | (with_reducible exact slices_insertionSortOrdered_uint.mono _ _ _ _)
      | (with_reducible exact LeO.refl _)
      | (with_reducible exact LeO.none _)
      | (with_reducible refine LeO.ite ?_ ?_)
      | (with_reducible refine LeO.bind ?_ (fun _ => ?_))
      | exact ih0 _ _ _ _
      | exact ih1 _ _ _ _ _
      | exact slices_insertionSortOrdered_uint.mono _ _ _ _
      | exact LeO.none _
      | refine LeO.ite ?_ ?_
      | refine LeO.bind ?_ (fun _ => ?_)
theorem slices_pdqsortOrdered_uint.mono : ∀ a0 a1 a2 a3 k, LeO (slices_pdqsortOrdered_uint.f k a0 a1 a2 a3) (slices_pdqsortOrdered_uint.f (k + 1) a0 a1 a2 a3) := by
  intro a0 a1 a2 a3 k
  obtain ⟨ih0, ih1⟩ := slices_pdqsortOrdered_uint.mono_l k
  exact ih0 a0 a1 a2 a3
/-! ### slices_Sort_uint_uint -/
def slices_Sort_uint_uint.f (k : Nat) (l0 : List Int) : Option (List Int) := (bits_Len.f (IntKind.u64.wrap ((l0.length : Int)))).bind fun t219 => ((slices_pdqsortOrdered_uint.f k l0 0 (l0.length : Int) t219).bind fun t220 => (some t220))
theorem slices_Sort_uint_uint.mono : ∀ a0 k, LeO (slices_Sort_uint_uint.f k a0) (slices_Sort_uint_uint.f (k + 1) a0) := by
  intro a0 k
  unfold slices_Sort_uint_uint.f
  repeat' first
      | (with_reducible exact slices_pdqsortOrdered_uint.mono _ _ _ _ _)
      | (with_reducible exact LeO.refl _)
      | (with_reducible exact LeO.none _)
      | (with_reducible refine LeO.ite ?_ ?_)
      | (with_reducible refine LeO.bind ?_ (fun _ => ?_))
      | exact slices_pdqsortOrdered_uint.mono _ _ _ _ _
      | exact LeO.none _
      | refine LeO.ite ?_ ?_
      | refine LeO.bind ?_ (fun _ => ?_)
/-! ### chain_masks -/
def chain_masks.l0 : Nat → Int → List Int → List (List Int) → Int → Int → Option (List Int × Bool)
  | 0, _, _, _, _, _ => none
  | k + 1, x0, x6, x11, x12, x13 => if x13 < x12 then (if 0 ≤ x13 then (if x13 < (x11.length : Int) then ((chain_mask.f k x0 (rd_L3 x11 x13)).bind fun bt227 => (if bt227.2 = true then (if bt227.1 = 0 then (chain_masks.l0 k x0 x6 x11 x12 (wrap64 (x13 + 1))) else (if x6.length < 17592186044416 then (chain_masks.l0 k x0 (x6 ++ [bt227.1]) x11 x12 (wrap64 (x13 + 1))) else (none))) else (some (([] : List Int), false)))) else (none)) else (none)) else ((slices_Sort_uint_uint.f k x6).bind fun t221 => ((slices_Compact_uint_uint.f t221).bind fun t222 => ((slices_SortStableFunc_uint_uint.f t222).bind fun t225 => (some (t225, true)))))
def chain_masks.f (k : Nat) (a0 : Int) (l1 : List (List Int)) : Option (List Int × Bool) := chain_masks.l0 k a0 ([] : List Int) l1 (l1.length : Int) 0
theorem chain_masks.mono_l : ∀ k, (∀ y0 y1 y2 y3 y4, LeO (chain_masks.l0 k y0 y1 y2 y3 y4) (chain_masks.l0 (k + 1) y0 y1 y2 y3 y4))
  | 0 => fun _ _ _ _ _ r h => by simp [chain_masks.l0] at h
  | k + 1 => by
    have ih0 := chain_masks.mono_l k
    · intro y0 y1 y2 y3 y4
      unfold chain_masks.l0
      repeat' first
      | (with_reducible exact ih0 _ _ _ _ _)
      | (with_reducible exact chain_mask.mono _ _ _)
      | (with_reducible exact slices_Sort_uint_uint.mono _ _)
      | (with_reducible exact LeO.refl _)
      | (with_reducible exact LeO.none _)
      | (with_reducible refine LeO.ite ?_ ?_)
      | (with_reducible refine LeO.bind ?_ (fun _ => ?_))
      | exact ih0 _ _ _ _ _
      | exact chain_mask.mono _ _ _
      | exact slices_Sort_uint_uint.mono _ _
      | exact LeO.none _
      | refine LeO.ite ?_ ?_
      | refine LeO.bind ?_ (fun _ => ?_)
theorem chain_masks.mono : ∀ a0 a1 k, LeO (chain_masks.f k a0 a1) (chain_masks.f (k + 1) a0 a1) := by
  intro a0 a1 k
  have ih0 := chain_masks.mono_l k
  unfold chain_masks.f
  repeat' first
      | (with_reducible exact ih0 _ _ _ _ _)
      | (with_reducible exact chain_mask.mono _ _ _)
      | (with_reducible exact slices_Sort_uint_uint.mono _ _)
      | (with_reducible exact LeO.refl _)
      | (with_reducible exact LeO.none _)
      | (with_reducible refine LeO.ite ?_ ?_)
      | (with_reducible refine LeO.bind ?_ (fun _ => ?_))
      | exact ih0 _ _ _ _ _
      | exact chain_mask.mono _ _ _
      | exact slices_Sort_uint_uint.mono _ _
      | exact LeO.none _
      | refine LeO.ite ?_ ?_
      | refine LeO.bind ?_ (fun _ => ?_)
/-! ### slices_Index_int_int -/
def slices_Index_int_int.l0 : Nat → List Int → Int → Int → Int → Option (Int)
  | 0, _, _, _, _ => none
  | k + 1, x0, x1, x7, x8 => if x8 < x7 then (if 0 ≤ x8 then (if x8 < (x0.length : Int) then (if x1 = (rd x0 x8) then (some x8) else (slices_Index_int_int.l0 k x0 x1 x7 (wrap64 (x8 + 1)))) else (none)) else (none)) else (some (-1))
def slices_Index_int_int.f (k : Nat) (l0 : List Int) (a1 : Int) : Option (Int) := slices_Index_int_int.l0 k l0 a1 (l0.length : Int) 0
theorem slices_Index_int_int.mono_l : ∀ k, (∀ y0 y1 y2 y3, LeO (slices_Index_int_int.l0 k y0 y1 y2 y3) (slices_Index_int_int.l0 (k + 1) y0 y1 y2 y3))
  | 0 => fun _ _ _ _ r h => by simp [slices_Index_int_int.l0] at h
  | k + 1 => by
    have ih0 := slices_Index_int_int.mono_l k
    · intro y0 y1 y2 y3
      unfold slices_Index_int_int.l0
      repeat' first
      | (with_reducible exact ih0 _ _ _ _)
      | (with_reducible exact LeO.refl _)
      | (with_reducible exact LeO.none _)
      | (with_reducible refine LeO.ite ?_ ?_)
      | (with_reducible refine LeO.bind ?_ (fun _ => ?_))
      | exact ih0 _ _ _ _
      | exact LeO.none _
      | refine LeO.ite ?_ ?_
      | refine LeO.bind ?_ (fun _ => ?_)
theorem slices_Index_int_int.mono : ∀ a0 a1 k, LeO (slices_Index_int_int.f k a0 a1) (slices_Index_int_int.f (k + 1) a0 a1) := by
  intro a0 a1 k
  have ih0 := slices_Index_int_int.mono_l k
  unfold slices_Index_int_int.f
  repeat' first
      | (with_reducible exact ih0 _ _ _ _)
      | (with_reducible exact LeO.refl _)
      | (with_reducible exact LeO.none _)
      | (with_reducible refine LeO.ite ?_ ?_)
      | (with_reducible refine LeO.bind ?_ (fun _ => ?_))
      | exact ih0 _ _ _ _
      | exact LeO.none _
      | refine LeO.ite ?_ ?_
      | refine LeO.bind ?_ (fun _ => ?_)
/-! ### slices_Contains_int_int -/
def slices_Contains_int_int.f (k : Nat) (l0 : List Int) (a1 : Int) : Option (Bool) := (slices_Index_int_int.f k l0 a1).bind fun t233 => (some (decide (t233 ≥ 0)))
theorem slices_Contains_int_int.mono : ∀ a0 a1 k, LeO (slices_Contains_int_int.f k a0 a1) (slices_Contains_int_int.f (k + 1) a0 a1) := by
  intro a0 a1 k
  unfold slices_Contains_int_int.f
  repeat' first
      | (with_reducible exact slices_Index_int_int.mono _ _ _)
      | (with_reducible exact LeO.refl _)
      | (with_reducible exact LeO.none _)
      | (with_reducible refine LeO.ite ?_ ?_)
      | (with_reducible refine LeO.bind ?_ (fun _ => ?_))
      | exact slices_Index_int_int.mono _ _ _
      | exact LeO.none _
      | refine LeO.ite ?_ ?_
      | refine LeO.bind ?_ (fun _ => ?_)
/-! ### slices_Reverse_uint_uint -/
def slices_Reverse_uint_uint.l0 : Nat → List Int → Int → Int → Option (List Int)
  | 0, _, _, _ => none
  | k + 1, x0, x2, x3 => if x2 < x3 then (if 0 ≤ x3 then (if x3 < (x0.length : Int) then (if 0 ≤ x2 then (if x2 < (x0.length : Int) then (slices_Reverse_uint_uint.l0 k ((x0.set (x2 : Int).toNat (rd x0 x3)).set (x3 : Int).toNat (rd x0 x2)) (wrap64 (x2 + 1)) (wrap64 (x3 - 1))) else (none)) else (none)) else (none)) else (none)) else (some x0)
def slices_Reverse_uint_uint.f (k : Nat) (l0 : List Int) : Option (List Int) := slices_Reverse_uint_uint.l0 k l0 0 (wrap64 ((l0.length : Int) - 1))
theorem slices_Reverse_uint_uint.mono_l : ∀ k, (∀ y0 y1 y2, LeO (slices_Reverse_uint_uint.l0 k y0 y1 y2) (slices_Reverse_uint_uint.l0 (k + 1) y0 y1 y2))
  | 0 => fun _ _ _ r h => by simp [slices_Reverse_uint_uint.l0] at h
  | k + 1 => by
    have ih0 := slices_Reverse_uint_uint.mono_l k
    · intro y0 y1 y2
      unfold slices_Reverse_uint_uint.l0
      repeat' first
      | (with_reducible exact ih0 _ _ _)
      | (with_reducible exact LeO.refl _)
      | (with_reducible exact LeO.none _)
      | (with_reducible refine LeO.ite ?_ ?_)
      | (with_reducible refine LeO.bind ?_ (fun _ => ?_))
      | exact ih0 _ _ _
      | exact LeO.none _
      | refine LeO.ite ?_ ?_
      | refine LeO.bind ?_ (fun _ => ?_)
theorem slices_Reverse_uint_uint.mono : ∀ a0 k, LeO (slices_Reverse_uint_uint.f k a0) (slices_Reverse_uint_uint.f (k + 1) a0) := by
  intro a0 k
  have ih0 := slices_Reverse_uint_uint.mono_l k
  unfold slices_Reverse_uint_uint.f
  repeat' first
      | (with_reducible exact ih0 _ _ _)
      | (with_reducible exact LeO.refl _)
      | (with_reducible exact LeO.none _)
      | (with_reducible refine LeO.ite ?_ ?_)
      | (with_reducible refine LeO.bind ?_ (fun _ => ?_))
      | exact ih0 _ _ _
      | exact LeO.none _
      | refine LeO.ite ?_ ?_
      | refine LeO.bind ?_ (fun _ => ?_)
/-! ### chain_perm -/
mutual
def chain_perm.l0 : Nat → Int → List Int → Int → List Int → Int → Int → Option (List Int)
  | 0, _, _, _, _, _, _ => none
  | k + 1, x0, x5, x6, x16, x17, x18 => if x18 < x17 then (if 0 ≤ x18 then (if x18 < (x16.length : Int) then (chain_perm.l1 k x0 x5 x6 (rd x16 x18) x16 x17 x18 x0 0) else (none)) else (none)) else (some x5)
def chain_perm.l1 : Nat → Int → List Int → Int → Int → List Int → Int → Int → Int → Int → Option (List Int)
  | 0, _, _, _, _, _, _, _, _, _ => none
  | k + 1, x0, x5, x6, x8, x16, x17, x18, x22, x23 => if x23 < x22 then (if 0 ≤ x23 then (if (Go.bits .and .u64 (shr .u64 (Go.bits .andNot .u64 x8 x6) x23) 1) = 1 then ((some (([x23] : List Int) : List Int)).bind fun y248 => (if x5.length + y248.length < 17592186044416 then (chain_perm.l1 k x0 (x5 ++ y248) x6 x8 x16 x17 x18 x22 (wrap64 (x23 + 1))) else (none))) else (chain_perm.l1 k x0 x5 x6 x8 x16 x17 x18 x22 (wrap64 (x23 + 1)))) else (none)) else (chain_perm.l0 k x0 x5 (Go.bits .or .u64 x6 x8) x16 x17 (wrap64 (x18 + 1)))
end
def chain_perm.f (k : Nat) (a0 : Int) (l1 : List Int) : Option (List Int) := (slices_Clone_uint_uint.f l1).bind fun t238 => (if 0 ≤ a0 then ((some (([IntKind.u64.wrap ((shl .u64 1 a0) - 1)] : List Int) : List Int)).bind fun y241 => (if t238.length + y241.length < 17592186044416 then ((some (t238 ++ y241 : List Int)).bind fun y244 => (chain_perm.l0 k a0 ([] : List Int) 0 y244 (y244.length : Int) 0)) else (none))) else (none))
theorem chain_perm.mono_l : ∀ k, (∀ y0 y1 y2 y3 y4 y5, LeO (chain_perm.l0 k y0 y1 y2 y3 y4 y5) (chain_perm.l0 (k + 1) y0 y1 y2 y3 y4 y5)) ∧ (∀ y0 y1 y2 y3 y4 y5 y6 y7 y8, LeO (chain_perm.l1 k y0 y1 y2 y3 y4 y5 y6 y7 y8) (chain_perm.l1 (k + 1) y0 y1 y2 y3 y4 y5 y6 y7 y8))
  | 0 => ⟨fun _ _ _ _ _ _ r h => by simp [chain_perm.l0] at h, fun _ _ _ _ _ _ _ _ _ r h => by simp [chain_perm.l1] at h⟩
  | k + 1 => by
    obtain ⟨ih0, ih1⟩ := chain_perm.mono_l k
    refine ⟨?_, ?_⟩
    · intro y0 y1 y2 y3 y4 y5
      unfold chain_perm.l0
      repeat' first
      | (with_reducible exact ih0 _ _ _ _ _ _)
      | (with_reducible exact ih1 _ _ _ _ _ _ _ _ _)
      | (with_reducible exact LeO.refl _)
      | (with_reducible exact LeO.none _)
      | (with_reducible refine LeO.ite ?_ ?_)
      | (with_reducible refine LeO.bind ?_ (fun _ => ?_))
      | exact ih0 _ _ _ _ _ _
      | exact ih1 _ _ _ _ _ _ _ _ _
      | exact LeO.none _
      | refine LeO.ite ?_ ?_
      | refine LeO.bind ?_ (fun _ => ?_)
    · intro y0 y1 y2 y3 y4 y5 y6 y7 y8
      unfold chain_perm.l1
      repeat' first
      | (with_reducible exact ih0 _ _ _ _ _ _)
      | (with_reducible exact ih1 _ _ _ _ _ _ _ _ _)
      | (with_reducible exact LeO.refl _)
      | (with_reducible exact LeO.none _)
      | (with_reducible refine LeO.ite ?_ ?_)
      | (with_reducible refine LeO.bind ?_ (fun _ => ?_))
      | exact ih0 _ _ _ _ _ _
      | exact ih1 _ _ _ _ _ _ _ _ _
      | exact LeO.none _
      | refine LeO.ite ?_ ?_
      | refine LeO.bind ?_ (fun _ => ?_)
theorem chain_perm.mono : ∀ a0 a1 k, LeO (chain_perm.f k a0 a1) (chain_perm.f (k + 1) a0 a1) := by
  intro a0 a1 k
  obtain ⟨ih0, ih1⟩ := chain_perm.mono_l k
  unfold chain_perm.f
  repeat' first
      | (with_reducible exact ih0 _ _ _ _ _ _)
      | (with_reducible exact ih1 _ _ _ _ _ _ _ _ _)
      | (with_reducible exact LeO.refl _)
      | (with_reducible exact LeO.none _)
      | (with_reducible refine LeO.ite ?_ ?_)
      | (with_reducible refine LeO.bind ?_ (fun _ => ?_))
      | exact ih0 _ _ _ _ _ _
      | exact ih1 _ _ _ _ _ _ _ _ _
      | exact LeO.none _
      | refine LeO.ite ?_ ?_
      | refine LeO.bind ?_ (fun _ => ?_)
/-! ### chain_Cover -/
mutual
def chain_Cover.j0 : Nat → Int → List (List Int) → Bool → Option ((List (List Int)) × Int)
  | 0, _, _, _ => none
  | k + 1, x0, x1, x18 => if x18 = true then (some (([] : List (List Int)), 1)) else ((chain_masks.f k x0 x1).bind fun bt254 => (if bt254.2 = true then ((chain_match.f bt254.1).bind fun t258 => (chain_Cover.l0 k x0 bt254.1 t258 ([] : List (List Int)) (bt254.1.length : Int) 0)) else (some (([] : List (List Int)), 1))))
def chain_Cover.l0 : Nat → Int → List Int → List Int → List (List Int) → Int → Int → Option ((List (List Int)) × Int)
  | 0, _, _, _, _, _, _ => none
  | k + 1, x0, x6, x8, x9, x30, x31 => if x31 < x30 then ((slices_Contains_int_int.f k x8 x31).bind fun t261 => (if t261 = true then (chain_Cover.l0 k x0 x6 x8 x9 x30 (wrap64 (x31 + 1))) else (chain_Cover.l1 k x0 x6 x8 x9 ([] : List Int) x31 x30 x31))) else (some (x9, 0))
def chain_Cover.l1 : Nat → Int → List Int → List Int → List (List Int) → List Int → Int → Int → Int → Option ((List (List Int)) × Int)
  | 0, _, _, _, _, _, _, _, _ => none
  | k + 1, x0, x6, x8, x9, x11, x12, x30, x31 => if x12 = (-1) then ((slices_Reverse_uint_uint.f k x11).bind fun t262 => ((chain_perm.f k x0 t262).bind fun t263 => (if x9.length < 5864062014805 then (chain_Cover.l0 k x0 x6 x8 (x9 ++ [t263]) x30 (wrap64 (x31 + 1))) else (none)))) else (if 0 ≤ x12 then (if x12 < (x6.length : Int) then (if x11.length < 17592186044416 then (if x12 < (x8.length : Int) then (chain_Cover.l1 k x0 x6 x8 x9 (x11 ++ [rd x6 x12]) (rd x8 x12) x30 x31) else (none)) else (none)) else (none)) else (none))
end
def chain_Cover.f (k : Nat) (a0 : Int) (l1 : List (List Int)) : Option ((List (List Int)) × Int) := if a0 < 0 then (chain_Cover.j0 k a0 l1 true) else (chain_Cover.j0 k a0 l1 (decide (a0 > 8)))
theorem chain_Cover.mono_l : ∀ k, (∀ y0 y1 y2, LeO (chain_Cover.j0 k y0 y1 y2) (chain_Cover.j0 (k + 1) y0 y1 y2)) ∧ (∀ y0 y1 y2 y3 y4 y5, LeO (chain_Cover.l0 k y0 y1 y2 y3 y4 y5) (chain_Cover.l0 (k + 1) y0 y1 y2 y3 y4 y5)) ∧ (∀ y0 y1 y2 y3 y4 y5 y6 y7, LeO (chain_Cover.l1 k y0 y1 y2 y3 y4 y5 y6 y7) (chain_Cover.l1 (k + 1) y0 y1 y2 y3 y4 y5 y6 y7))
  | 0 => ⟨fun _ _ _ r h => by simp [chain_Cover.j0] at h, fun _ _ _ _ _ _ r h => by simp [chain_Cover.l0] at h, fun _ _ _ _ _ _ _ _ r h => by simp [chain_Cover.l1] at h⟩
  | k + 1 => by
    obtain ⟨ih0, ih1, ih2⟩ := chain_Cover.mono_l k
    refine ⟨?_, ?_, ?_⟩
    · intro y0 y1 y2
      unfold chain_Cover.j0
      repeat' first
      | (with_reducible exact ih0 _ _ _)
      | (with_reducible exact ih1 _ _ _ _ _ _)
      | (with_reducible exact ih2 _ _ _ _ _ _ _ _)
      | (with_reducible exact chain_masks.mono _ _ _)
      | (with_reducible exact chain_perm.mono _ _ _)
      | (with_reducible exact slices_Contains_int_int.mono _ _ _)
      | (with_reducible exact slices_Reverse_uint_uint.mono _ _)
      | (with_reducible exact LeO.refl _)
      | (with_reducible exact LeO.none _)
      | (with_reducible refine LeO.ite ?_ ?_)
      | (with_reducible refine LeO.bind ?_ (fun _ => ?_))
      | exact ih0 _ _ _
      | exact ih1 _ _ _ _ _ _
      | exact ih2 _ _ _ _ _ _ _ _
      | exact chain_masks.mono _ _ _
      | exact chain_perm.mono _ _ _
      | exact slices_Contains_int_int.mono _ _ _
      | exact slices_Reverse_uint_uint.mono _ _
      | exact LeO.none _
      | refine LeO.ite ?_ ?_
      | refine LeO.bind ?_ (fun _ => ?_)
    · intro y0 y1 y2 y3 y4 y5
      unfold chain_Cover.l0
      repeat' first
      | (with_reducible exact ih0 _ _ _)
      | (with_reducible exact ih1 _ _ _ _ _ _)
      | (with_reducible exact ih2 _ _ _ _ _ _ _ _)
      | (with_reducible exact chain_masks.mono _ _ _)
      | (with_reducible exact chain_perm.mono _ _ _)
      | (with_reducible exact slices_Contains_int_int.mono _ _ _)
      | (with_reducible exact slices_Reverse_uint_uint.mono _ _)
      | (with_reducible exact LeO.refl _)
      | (with_reducible exact LeO.none _)
      | (with_reducible refine LeO.ite ?_ ?_)
      | (with_reducible refine LeO.bind ?_ (fun _ => ?_))
      | exact ih0 _ _ _
      | exact ih1 _ _ _ _ _ _
      | exact ih2 _ _ _ _ _ _ _ _
      | exact chain_masks.mono _ _ _
      | exact chain_perm.mono _ _ _
      | exact slices_Contains_int_int.mono _ _ _
      | exact slices_Reverse_uint_uint.mono _ _
      | exact LeO.none _
      | refine LeO.ite ?_ ?_
      | refine LeO.bind ?_ (fun _ => ?_)
    · intro y0 y1 y2 y3 y4 y5 y6 y7
      unfold chain_Cover.l1
      repeat' first
      | (with_reducible exact ih0 _ _ _)
      | (with_reducible exact ih1 _ _ _ _ _ _)
      | (with_reducible exact ih2 _ _ _ _ _ _ _ _)
      | (with_reducible exact chain_masks.mono _ _ _)
      | (with_reducible exact chain_perm.mono _ _ _)
      | (with_reducible exact slices_Contains_int_int.mono _ _ _)
      | (with_reducible exact slices_Reverse_uint_uint.mono _ _)
      | (with_reducible exact LeO.refl _)
      | (with_reducible exact LeO.none _)
      | (with_reducible refine LeO.ite ?_ ?_)
      | (with_reducible refine LeO.bind ?_ (fun _ => ?_))
      | exact ih0 _ _ _
      | exact ih1 _ _ _ _ _ _
      | exact ih2 _ _ _ _ _ _ _ _
      | exact chain_masks.mono _ _ _
      | exact chain_perm.mono _ _ _
      | exact slices_Contains_int_int.mono _ _ _
      | exact slices_Reverse_uint_uint.mono _ _
      | exact LeO.none _
      | refine LeO.ite ?_ ?_
      | refine LeO.bind ?_ (fun _ => ?_)
theorem chain_Cover.mono : ∀ a0 a1 k, LeO (chain_Cover.f k a0 a1) (chain_Cover.f (k + 1) a0 a1) := by
  intro a0 a1 k
  obtain ⟨ih0, ih1, ih2⟩ := chain_Cover.mono_l k
  unfold chain_Cover.f
  repeat' first
      | (with_reducible exact ih0 _ _ _)
      | (with_reducible exact ih1 _ _ _ _ _ _)
      | (with_reducible exact ih2 _ _ _ _ _ _ _ _)
      | (with_reducible exact chain_masks.mono _ _ _)
      | (with_reducible exact chain_perm.mono _ _ _)
      | (with_reducible exact slices_Contains_int_int.mono _ _ _)
      | (with_reducible exact slices_Reverse_uint_uint.mono _ _)
      | (with_reducible exact LeO.refl _)
      | (with_reducible exact LeO.none _)
      | (with_reducible refine LeO.ite ?_ ?_)
      | (with_reducible refine LeO.bind ?_ (fun _ => ?_))
      | exact ih0 _ _ _
      | exact ih1 _ _ _ _ _ _
      | exact ih2 _ _ _ _ _ _ _ _
      | exact chain_masks.mono _ _ _
      | exact chain_perm.mono _ _ _
      | exact slices_Contains_int_int.mono _ _ _
      | exact slices_Reverse_uint_uint.mono _ _
      | exact LeO.none _
      | refine LeO.ite ?_ ?_
      | refine LeO.bind ?_ (fun _ => ?_)
/-! ### chain_Least -/
def chain_Least.f (k : Nat) (a0 : Int) (l1 : List (List Int)) : Option (Int) := (chain_Cover.f k a0 l1).bind fun bt274 => (if bt274.2 = 0 then (some (bt274.1.length : Int)) else (some (-1)))
theorem chain_Least.mono : ∀ a0 a1 k, LeO (chain_Least.f k a0 a1) (chain_Least.f (k + 1) a0 a1) := by
  intro a0 a1 k
  unfold chain_Least.f
  repeat' first
      | (with_reducible exact chain_Cover.mono _ _ _)
      | (with_reducible exact LeO.refl _)
      | (with_reducible exact LeO.none _)
      | (with_reducible refine LeO.ite ?_ ?_)
      | (with_reducible refine LeO.bind ?_ (fun _ => ?_))
      | exact chain_Cover.mono _ _ _
      | exact LeO.none _
      | refine LeO.ite ?_ ?_
      | refine LeO.bind ?_ (fun _ => ?_)
/-! ### tuple_Perm -/
def tuple_Perm.l0 : Nat → List Int → List Bool → List Int → Int → Int → Option (Bool)
  | 0, _, _, _, _, _ => none
  | k + 1, x0, x3, x9, x10, x11 => if x11 < x10 then (if 0 ≤ x11 then (if x11 < (x9.length : Int) then (if (rd x9 x11) < 0 then (some false) else (if (rd x9 x11) ≥ (x0.length : Int) then (some false) else (if 0 ≤ (rd x9 x11) then (if (rd x9 x11) < (x3.length : Int) then (if rdOf false x3 (rd x9 x11) = true then (some false) else (tuple_Perm.l0 k x0 (x3.set ((rd x9 x11) : Int).toNat true) x9 x10 (wrap64 (x11 + 1)))) else (none)) else (none)))) else (none)) else (none)) else (some true)
def tuple_Perm.f (k : Nat) (l0 : List Int) : Option (Bool) := if 0 ≤ (l0.length : Int) then (if ((l0.length : Int) : Int).toNat ≤ 281474976710656 then (tuple_Perm.l0 k l0 (List.replicate ((l0.length : Int) : Int).toNat false) l0 (l0.length : Int) 0) else (none)) else (none)
theorem tuple_Perm.mono_l : ∀ k, (∀ y0 y1 y2 y3 y4, LeO (tuple_Perm.l0 k y0 y1 y2 y3 y4) (tuple_Perm.l0 (k + 1) y0 y1 y2 y3 y4))
  | 0 => fun _ _ _ _ _ r h => by simp [tuple_Perm.l0] at h
  | k + 1 => by
    have ih0 := tuple_Perm.mono_l k
    · intro y0 y1 y2 y3 y4
      unfold tuple_Perm.l0
      repeat' first
      | (with_reducible exact ih0 _ _ _ _ _)
      | (with_reducible exact LeO.refl _)
      | (with_reducible exact LeO.none _)
      | (with_reducible refine LeO.ite ?_ ?_)
      | (with_reducible refine LeO.bind ?_ (fun _ => ?_))
      | exact ih0 _ _ _ _ _
      | exact LeO.none _
      | refine LeO.ite ?_ ?_
      | refine LeO.bind ?_ (fun _ => ?_)
theorem tuple_Perm.mono : ∀ a0 k, LeO (tuple_Perm.f k a0) (tuple_Perm.f (k + 1) a0) := by
  intro a0 k
  have ih0 := tuple_Perm.mono_l k
  unfold tuple_Perm.f
  repeat' first
      | (with_reducible exact ih0 _ _ _ _ _)
      | (with_reducible exact LeO.refl _)
      | (with_reducible exact LeO.none _)
      | (with_reducible refine LeO.ite ?_ ?_)
      | (with_reducible refine LeO.bind ?_ (fun _ => ?_))
      | exact ih0 _ _ _ _ _
      | exact LeO.none _
      | refine LeO.ite ?_ ?_
      | refine LeO.bind ?_ (fun _ => ?_)
/-! ### chain_Fits -/
def chain_Fits.f (k : Nat) (l0 : List Int) (l1 : List Int) : Option (Bool) := (chain_mask.f k (l0.length : Int) l1).bind fun bt284 => (if bt284.2 = true then ((tuple_Perm.f k l0).bind fun t286 => (if t286 = true then (if 0 ≤ (l1.length : Int) then (if (l1.length : Int) ≤ (l0.length : Int) then ((chain_mask.f k (l0.length : Int) (l0.take ((l1.length : Int) : Int).toNat)).bind fun bt288 => (some (bt284.1 == bt288.1))) else (none)) else (none)) else (some false))) else (some false))
theorem chain_Fits.mono : ∀ a0 a1 k, LeO (chain_Fits.f k a0 a1) (chain_Fits.f (k + 1) a0 a1) := by
  intro a0 a1 k
  unfold chain_Fits.f
  repeat' first
      | (with_reducible exact chain_mask.mono _ _ _)
      | (with_reducible exact tuple_Perm.mono _ _)
      | (with_reducible exact LeO.refl _)
      | (with_reducible exact LeO.none _)
      | (with_reducible refine LeO.ite ?_ ?_)
      | (with_reducible refine LeO.bind ?_ (fun _ => ?_))
      | exact chain_mask.mono _ _ _
      | exact tuple_Perm.mono _ _
      | exact LeO.none _
      | refine LeO.ite ?_ ?_
      | refine LeO.bind ?_ (fun _ => ?_)
/-! ### antecedentlaw18_awake -/
def antecedentlaw18_awake.f (k : Nat)  : Option (Bool) := (some (([(([0] : List Int)), (([1, 0] : List Int)), (([1] : List Int))] : List (List Int)) : List (List Int))).bind fun y299 => ((chain_Cover.f k 2 y299).bind fun bt302 => (if bt302.2 = 0 then (if (bt302.1.length : Int) = 2 then ((chain_Least.f k 2 y299).bind fun t306 => (if t306 = 2 then (if 1 < (y299.length : Int) then ((chain_Fits.f k (([0, 1] : List Int)) (rd_L3 y299 1)).bind fun t311 => (if t311 = true then (if 2 < (y299.length : Int) then ((chain_Fits.f k (([0, 1] : List Int)) (rd_L3 y299 2)).bind fun t316 => (some (!t316))) else (none)) else (none))) else (none)) else (none))) else (none)) else (none)))
theorem antecedentlaw18_awake.mono : ∀ k, LeO (antecedentlaw18_awake.f k ) (antecedentlaw18_awake.f (k + 1) ) := by
  intro  k
  unfold antecedentlaw18_awake.f
  repeat' first
      | (with_reducible exact chain_Cover.mono _ _ _)
      | (with_reducible exact chain_Fits.mono _ _ _)
      | (with_reducible exact chain_Least.mono _ _ _)
      | (with_reducible exact LeO.refl _)
      | (with_reducible exact LeO.none _)
      | (with_reducible refine LeO.ite ?_ ?_)
      | (with_reducible refine LeO.bind ?_ (fun _ => ?_))
      | exact chain_Cover.mono _ _ _
      | exact chain_Fits.mono _ _ _
      | exact chain_Least.mono _ _ _
      | exact LeO.none _
      | refine LeO.ite ?_ ?_
      | refine LeO.bind ?_ (fun _ => ?_)
/-! ### antecedentlaw18_few -/
def antecedentlaw18_few.l0 : Nat → List (List Int) → Int → Int → Option (Bool)
  | 0, _, _, _ => none
  | k + 1, x0, x5, x6 => if x6 < x5 then (if 0 ≤ x6 then (if x6 < (x0.length : Int) then (if ((rd_L3 x0 x6).length : Int) > 10 then (some false) else (antecedentlaw18_few.l0 k x0 x5 (wrap64 (x6 + 1)))) else (none)) else (none)) else (some (decide ((x0.length : Int) ≤ 10)))
def antecedentlaw18_few.f (k : Nat) (l0 : List (List Int)) : Option (Bool) := antecedentlaw18_few.l0 k l0 (l0.length : Int) 0
theorem antecedentlaw18_few.mono_l : ∀ k, (∀ y0 y1 y2, LeO (antecedentlaw18_few.l0 k y0 y1 y2) (antecedentlaw18_few.l0 (k + 1) y0 y1 y2))
  | 0 => fun _ _ _ r h => by simp [antecedentlaw18_few.l0] at h
  | k + 1 => by
    have ih0 := antecedentlaw18_few.mono_l k
    · intro y0 y1 y2
      unfold antecedentlaw18_few.l0
      repeat' first
      | (with_reducible exact ih0 _ _ _)
      | (with_reducible exact LeO.refl _)
      | (with_reducible exact LeO.none _)
      | (with_reducible refine LeO.ite ?_ ?_)
      | (with_reducible refine LeO.bind ?_ (fun _ => ?_))
      | exact ih0 _ _ _
      | exact LeO.none _
      | refine LeO.ite ?_ ?_
      | refine LeO.bind ?_ (fun _ => ?_)
theorem antecedentlaw18_few.mono : ∀ a0 k, LeO (antecedentlaw18_few.f k a0) (antecedentlaw18_few.f (k + 1) a0) := by
  intro a0 k
  have ih0 := antecedentlaw18_few.mono_l k
  unfold antecedentlaw18_few.f
  repeat' first
      | (with_reducible exact ih0 _ _ _)
      | (with_reducible exact LeO.refl _)
      | (with_reducible exact LeO.none _)
      | (with_reducible refine LeO.ite ?_ ?_)
      | (with_reducible refine LeO.bind ?_ (fun _ => ?_))
      | exact ih0 _ _ _
      | exact LeO.none _
      | refine LeO.ite ?_ ?_
      | refine LeO.bind ?_ (fun _ => ?_)
/-! ### antecedentref18_Set -/
mutual
def antecedentref18_Set.l0 : Nat → Int → List Int → Int → Int → Option (Bool)
  | 0, _, _, _, _ => none
  | k + 1, x0, x1, x8, x9 => if x9 < x8 then (if 0 ≤ x9 then (if x9 < (x1.length : Int) then (if (rd x1 x9) < 0 then (antecedentref18_Set.j1 k x0 x1 x9 x8 x9 true) else (antecedentref18_Set.j1 k x0 x1 x9 x8 x9 (decide ((rd x1 x9) ≥ x0)))) else (none)) else (none)) else (some true)
def antecedentref18_Set.j1 : Nat → Int → List Int → Int → Int → Int → Bool → Option (Bool)
  | 0, _, _, _, _, _, _ => none
  | k + 1, x0, x1, x5, x8, x9, x24 => if x24 = true then (some false) else (antecedentref18_Set.l1 k x0 x1 x5 0 x8 x9)
def antecedentref18_Set.l1 : Nat → Int → List Int → Int → Int → Int → Int → Option (Bool)
  | 0, _, _, _, _, _, _ => none
  | k + 1, x0, x1, x5, x6, x8, x9 => if x6 < x5 then (if 0 ≤ x6 then (if x6 < (x1.length : Int) then (if 0 ≤ x5 then (if x5 < (x1.length : Int) then (if (rd x1 x6) = (rd x1 x5) then (some false) else (antecedentref18_Set.l1 k x0 x1 x5 (wrap64 (x6 + 1)) x8 x9)) else (none)) else (none)) else (none)) else (none)) else (antecedentref18_Set.l0 k x0 x1 x8 (wrap64 (x9 + 1)))
end
def antecedentref18_Set.f (k : Nat) (a0 : Int) (l1 : List Int) : Option (Bool) := antecedentref18_Set.l0 k a0 l1 (l1.length : Int) 0
theorem antecedentref18_Set.mono_l : ∀ k, (∀ y0 y1 y2 y3, LeO (antecedentref18_Set.l0 k y0 y1 y2 y3) (antecedentref18_Set.l0 (k + 1) y0 y1 y2 y3)) ∧ (∀ y0 y1 y2 y3 y4 y5, LeO (antecedentref18_Set.j1 k y0 y1 y2 y3 y4 y5) (antecedentref18_Set.j1 (k + 1) y0 y1 y2 y3 y4 y5)) ∧ (∀ y0 y1 y2 y3 y4 y5, LeO (antecedentref18_Set.l1 k y0 y1 y2 y3 y4 y5) (antecedentref18_Set.l1 (k + 1) y0 y1 y2 y3 y4 y5))
  | 0 => ⟨fun _ _ _ _ r h => by simp [antecedentref18_Set.l0] at h, fun _ _ _ _ _ _ r h => by simp [antecedentref18_Set.j1] at h, fun _ _ _ _ _ _ r h => by simp [antecedentref18_Set.l1] at h⟩
  | k + 1 => by
    obtain ⟨ih0, ih1, ih2⟩ := antecedentref18_Set.mono_l k
    refine ⟨?_, ?_, ?_⟩
    · intro y0 y1 y2 y3
      unfold antecedentref18_Set.l0
      repeat' first
      | (with_reducible exact ih0 _ _ _ _)
      | (with_reducible exact ih1 _ _ _ _ _ _)
      | (with_reducible exact ih2 _ _ _ _ _ _)
      | (with_reducible exact LeO.refl _)
      | (with_reducible exact LeO.none _)
      | (with_reducible refine LeO.ite ?_ ?_)
      | (with_reducible refine LeO.bind ?_ (fun _ => ?_))
      | exact ih0 _ _ _ _
      | exact ih1 _ _ _ _ _ _
      | exact ih2 _ _ _ _ _ _
      | exact LeO.none _
      | refine LeO.ite ?_ ?_
      | refine LeO.bind ?_ (fun _ => ?_)
    · intro y0 y1 y2 y3 y4 y5
      unfold antecedentref18_Set.j1
      repeat' first
      | (with_reducible exact ih0 _ _ _ _)
      | (with_reducible exact ih1 _ _ _ _ _ _)
      | (with_reducible exact ih2 _ _ _ _ _ _)
      | (with_reducible exact LeO.refl _)
      | (with_reducible exact LeO.none _)
      | (with_reducible refine LeO.ite ?_ ?_)
      | (with_reducible refine LeO.bind ?_ (fun _ => ?_))
      | exact ih0 _ _ _ _
      | exact ih1 _ _ _ _ _ _
      | exact ih2 _ _ _ _ _ _
      | exact LeO.none _
      | refine LeO.ite ?_ ?_
      | refine LeO.bind ?_ (fun _ => ?_)
    · intro y0 y1 y2 y3 y4 y5
      unfold antecedentref18_Set.l1
      repeat' first
      | (with_reducible exact ih0 _ _ _ _)
      | (with_reducible exact ih1 _ _ _ _ _ _)
      | (with_reducible exact ih2 _ _ _ _ _ _)
      | (with_reducible exact LeO.refl _)
      | (with_reducible exact LeO.none _)
      | (with_reducible refine LeO.ite ?_ ?_)
      | (with_reducible refine LeO.bind ?_ (fun _ => ?_))
      | exact ih0 _ _ _ _
      | exact ih1 _ _ _ _ _ _
      | exact ih2 _ _ _ _ _ _
      | exact LeO.none _
      | refine LeO.ite ?_ ?_
      | refine LeO.bind ?_ (fun _ => ?_)
theorem antecedentref18_Set.mono : ∀ a0 a1 k, LeO (antecedentref18_Set.f k a0 a1) (antecedentref18_Set.f (k + 1) a0 a1) := by
  intro a0 a1 k
  obtain ⟨ih0, ih1, ih2⟩ := antecedentref18_Set.mono_l k
  unfold antecedentref18_Set.f
  repeat' first
      | (with_reducible exact ih0 _ _ _ _)
      | (with_reducible exact ih1 _ _ _ _ _ _)
      | (with_reducible exact ih2 _ _ _ _ _ _)
      | (with_reducible exact LeO.refl _)
      | (with_reducible exact LeO.none _)
      | (with_reducible refine LeO.ite ?_ ?_)
      | (with_reducible refine LeO.bind ?_ (fun _ => ?_))
      | exact ih0 _ _ _ _
      | exact ih1 _ _ _ _ _ _
      | exact ih2 _ _ _ _ _ _
      | exact LeO.none _
      | refine LeO.ite ?_ ?_
      | refine LeO.bind ?_ (fun _ => ?_)
/-! ### antecedentref18_has -/
def antecedentref18_has.l0 : Nat → List Int → Int → Int → Int → Option (Bool)
  | 0, _, _, _, _ => none
  | k + 1, x0, x1, x7, x8 => if x8 < x7 then (if 0 ≤ x8 then (if x8 < (x0.length : Int) then (if (rd x0 x8) = x1 then (some true) else (antecedentref18_has.l0 k x0 x1 x7 (wrap64 (x8 + 1)))) else (none)) else (none)) else (some false)
def antecedentref18_has.f (k : Nat) (l0 : List Int) (a1 : Int) : Option (Bool) := antecedentref18_has.l0 k l0 a1 (l0.length : Int) 0
theorem antecedentref18_has.mono_l : ∀ k, (∀ y0 y1 y2 y3, LeO (antecedentref18_has.l0 k y0 y1 y2 y3) (antecedentref18_has.l0 (k + 1) y0 y1 y2 y3))
  | 0 => fun _ _ _ _ r h => by simp [antecedentref18_has.l0] at h
  | k + 1 => by
    have ih0 := antecedentref18_has.mono_l k
    · intro y0 y1 y2 y3
      unfold antecedentref18_has.l0
      repeat' first
      | (with_reducible exact ih0 _ _ _ _)
      | (with_reducible exact LeO.refl _)
      | (with_reducible exact LeO.none _)
      | (with_reducible refine LeO.ite ?_ ?_)
      | (with_reducible refine LeO.bind ?_ (fun _ => ?_))
      | exact ih0 _ _ _ _
      | exact LeO.none _
      | refine LeO.ite ?_ ?_
      | refine LeO.bind ?_ (fun _ => ?_)
theorem antecedentref18_has.mono : ∀ a0 a1 k, LeO (antecedentref18_has.f k a0 a1) (antecedentref18_has.f (k + 1) a0 a1) := by
  intro a0 a1 k
  have ih0 := antecedentref18_has.mono_l k
  unfold antecedentref18_has.f
  repeat' first
      | (with_reducible exact ih0 _ _ _ _)
      | (with_reducible exact LeO.refl _)
      | (with_reducible exact LeO.none _)
      | (with_reducible refine LeO.ite ?_ ?_)
      | (with_reducible refine LeO.bind ?_ (fun _ => ?_))
      | exact ih0 _ _ _ _
      | exact LeO.none _
      | refine LeO.ite ?_ ?_
      | refine LeO.bind ?_ (fun _ => ?_)
/-! ### antecedentref18_Part -/
def antecedentref18_Part.l0 : Nat → List Int → List Int → Int → Int → Option (Bool)
  | 0, _, _, _, _ => none
  | k + 1, x0, x1, x7, x8 => if x8 < x7 then (if 0 ≤ x8 then (if x8 < (x0.length : Int) then ((antecedentref18_has.f k x1 (rd x0 x8)).bind fun t324 => (if t324 = true then (antecedentref18_Part.l0 k x0 x1 x7 (wrap64 (x8 + 1))) else (some false))) else (none)) else (none)) else (some true)
def antecedentref18_Part.f (k : Nat) (l0 : List Int) (l1 : List Int) : Option (Bool) := antecedentref18_Part.l0 k l0 l1 (l0.length : Int) 0
theorem antecedentref18_Part.mono_l : ∀ k, (∀ y0 y1 y2 y3, LeO (antecedentref18_Part.l0 k y0 y1 y2 y3) (antecedentref18_Part.l0 (k + 1) y0 y1 y2 y3))
  | 0 => fun _ _ _ _ r h => by simp [antecedentref18_Part.l0] at h
  | k + 1 => by
    have ih0 := antecedentref18_Part.mono_l k
    · intro y0 y1 y2 y3
      unfold antecedentref18_Part.l0
      repeat' first
      | (with_reducible exact ih0 _ _ _ _)
      | (with_reducible exact antecedentref18_has.mono _ _ _)
      | (with_reducible exact LeO.refl _)
      | (with_reducible exact LeO.none _)
      | (with_reducible refine LeO.ite ?_ ?_)
      | (with_reducible refine LeO.bind ?_ (fun _ => ?_))
      | exact ih0 _ _ _ _
      | exact antecedentref18_has.mono _ _ _
      | exact LeO.none _
      | refine LeO.ite ?_ ?_
      | refine LeO.bind ?_ (fun _ => ?_)
theorem antecedentref18_Part.mono : ∀ a0 a1 k, LeO (antecedentref18_Part.f k a0 a1) (antecedentref18_Part.f (k + 1) a0 a1) := by
  intro a0 a1 k
  have ih0 := antecedentref18_Part.mono_l k
  unfold antecedentref18_Part.f
  repeat' first
      | (with_reducible exact ih0 _ _ _ _)
      | (with_reducible exact antecedentref18_has.mono _ _ _)
      | (with_reducible exact LeO.refl _)
      | (with_reducible exact LeO.none _)
      | (with_reducible refine LeO.ite ?_ ?_)
      | (with_reducible refine LeO.bind ?_ (fun _ => ?_))
      | exact ih0 _ _ _ _
      | exact antecedentref18_has.mono _ _ _
      | exact LeO.none _
      | refine LeO.ite ?_ ?_
      | refine LeO.bind ?_ (fun _ => ?_)
/-! ### antecedentref18_Unlike -/
mutual
def antecedentref18_Unlike.l0 : Nat → List (List Int) → List (List Int) → Int → Int → Option ((List (List Int)))
  | 0, _, _, _, _ => none
  | k + 1, x0, x3, x8, x9 => if x9 < x8 then (if 0 ≤ x9 then (if x9 < (x0.length : Int) then (antecedentref18_Unlike.l1 k x0 x3 x9 (decide (((rd_L3 x0 x9).length : Int) > 0)) x8 x9 (x3.length : Int) 0) else (none)) else (none)) else (some x3)
def antecedentref18_Unlike.l1 : Nat → List (List Int) → List (List Int) → Int → Bool → Int → Int → Int → Int → Option ((List (List Int)))
  | 0, _, _, _, _, _, _, _, _ => none
  | k + 1, x0, x3, x4, x5, x8, x9, x19, x20 => if x20 < x19 then (if x5 = true then (if 0 ≤ x20 then (if x20 < (x3.length : Int) then (if 0 ≤ x4 then (if x4 < (x0.length : Int) then ((antecedentref18_Part.f k (rd_L3 x3 x20) (rd_L3 x0 x4)).bind fun t328 => (if t328 = true then ((antecedentref18_Part.f k (rd_L3 x0 x4) (rd_L3 x3 x20)).bind fun t331 => (antecedentref18_Unlike.l1 k x0 x3 x4 (!t331) x8 x9 x19 (wrap64 (x20 + 1)))) else (antecedentref18_Unlike.l1 k x0 x3 x4 (!false) x8 x9 x19 (wrap64 (x20 + 1))))) else (none)) else (none)) else (none)) else (none)) else (antecedentref18_Unlike.l1 k x0 x3 x4 false x8 x9 x19 (wrap64 (x20 + 1)))) else (if x5 = true then (if 0 ≤ x4 then (if x4 < (x0.length : Int) then (if x3.length < 5864062014805 then (antecedentref18_Unlike.l0 k x0 (x3 ++ [rd_L3 x0 x4]) x8 (wrap64 (x9 + 1))) else (none)) else (none)) else (none)) else (antecedentref18_Unlike.l0 k x0 x3 x8 (wrap64 (x9 + 1))))
end
def antecedentref18_Unlike.f (k : Nat) (l0 : List (List Int)) : Option ((List (List Int))) := antecedentref18_Unlike.l0 k l0 ([] : List (List Int)) (l0.length : Int) 0
theorem antecedentref18_Unlike.mono_l : ∀ k, (∀ y0 y1 y2 y3, LeO (antecedentref18_Unlike.l0 k y0 y1 y2 y3) (antecedentref18_Unlike.l0 (k + 1) y0 y1 y2 y3)) ∧ (∀ y0 y1 y2 y3 y4 y5 y6 y7, LeO (antecedentref18_Unlike.l1 k y0 y1 y2 y3 y4 y5 y6 y7) (antecedentref18_Unlike.l1 (k + 1) y0 y1 y2 y3 y4 y5 y6 y7))
  | 0 => ⟨fun _ _ _ _ r h => by simp [antecedentref18_Unlike.l0] at h, fun _ _ _ _ _ _ _ _ r h => by simp [antecedentref18_Unlike.l1] at h⟩
  | k + 1 => by
    obtain ⟨ih0, ih1⟩ := antecedentref18_Unlike.mono_l k
    refine ⟨?_, ?_⟩
    · intro y0 y1 y2 y3
      unfold antecedentref18_Unlike.l0
      repeat' first
      | (with_reducible exact ih0 _ _ _ _)
      | (with_reducible exact ih1 _ _ _ _ _ _ _ _)
      | (with_reducible exact antecedentref18_Part.mono _ _ _)
      | (with_reducible exact LeO.refl _)
      | (with_reducible exact LeO.none _)
      | (with_reducible refine LeO.ite ?_ ?_)
      | (with_reducible refine LeO.bind ?_ (fun _ => ?_))
      | exact ih0 _ _ _ _
      | exact ih1 _ _ _ _ _ _ _ _
      | exact antecedentref18_Part.mono _ _ _
      | exact LeO.none _
      | refine LeO.ite ?_ ?_
      | refine LeO.bind ?_ (fun _ => ?_)
    · intro y0 y1 y2 y3 y4 y5 y6 y7
      unfold antecedentref18_Unlike.l1
      repeat' first
      | (with_reducible exact ih0 _ _ _ _)
      | (with_reducible exact ih1 _ _ _ _ _ _ _ _)
      | (with_reducible exact antecedentref18_Part.mono _ _ _)
      | (with_reducible exact LeO.refl _)
      | (with_reducible exact LeO.none _)
      | (with_reducible refine LeO.ite ?_ ?_)
      | (with_reducible refine LeO.bind ?_ (fun _ => ?_))
      | exact ih0 _ _ _ _
      | exact ih1 _ _ _ _ _ _ _ _
      | exact antecedentref18_Part.mono _ _ _
      | exact LeO.none _
      | refine LeO.ite ?_ ?_
      | refine LeO.bind ?_ (fun _ => ?_)
theorem antecedentref18_Unlike.mono : ∀ a0 k, LeO (antecedentref18_Unlike.f k a0) (antecedentref18_Unlike.f (k + 1) a0) := by
  intro a0 k
  obtain ⟨ih0, ih1⟩ := antecedentref18_Unlike.mono_l k
  unfold antecedentref18_Unlike.f
  repeat' first
      | (with_reducible exact ih0 _ _ _ _)
      | (with_reducible exact ih1 _ _ _ _ _ _ _ _)
      | (with_reducible exact antecedentref18_Part.mono _ _ _)
      | (with_reducible exact LeO.refl _)
      | (with_reducible exact LeO.none _)
      | (with_reducible refine LeO.ite ?_ ?_)
      | (with_reducible refine LeO.bind ?_ (fun _ => ?_))
      | exact ih0 _ _ _ _
      | exact ih1 _ _ _ _ _ _ _ _
      | exact antecedentref18_Part.mono _ _ _
      | exact LeO.none _
      | refine LeO.ite ?_ ?_
      | refine LeO.bind ?_ (fun _ => ?_)
/-! ### antecedentref18_Least -/
mutual
def antecedentref18_Least.j0 : Nat → Int → List (List Int) → Bool → Option (Int)
  | 0, _, _, _ => none
  | k + 1, x0, x1, x11 => if x11 = true then (some (-1)) else (antecedentref18_Least.l0 k x0 x1 (x1.length : Int) 0)
def antecedentref18_Least.l0 : Nat → Int → List (List Int) → Int → Int → Option (Int)
  | 0, _, _, _, _ => none
  | k + 1, x0, x1, x13, x14 => if x14 < x13 then (if 0 ≤ x14 then (if x14 < (x1.length : Int) then ((antecedentref18_Set.f k x0 (rd_L3 x1 x14)).bind fun t337 => (if t337 = true then (antecedentref18_Least.l0 k x0 x1 x13 (wrap64 (x14 + 1))) else (some (-1)))) else (none)) else (none)) else ((antecedentref18_Unlike.f k x1).bind fun t338 => ((antecedentref18_most.f t338 0 ([] : List (List Int))).bind fun t341 => (some t341)))
end
def antecedentref18_Least.f (k : Nat) (a0 : Int) (l1 : List (List Int)) : Option (Int) := if a0 < 0 then (antecedentref18_Least.j0 k a0 l1 true) else (antecedentref18_Least.j0 k a0 l1 (decide (a0 > 8)))
theorem antecedentref18_Least.mono_l : ∀ k, (∀ y0 y1 y2, LeO (antecedentref18_Least.j0 k y0 y1 y2) (antecedentref18_Least.j0 (k + 1) y0 y1 y2)) ∧ (∀ y0 y1 y2 y3, LeO (antecedentref18_Least.l0 k y0 y1 y2 y3) (antecedentref18_Least.l0 (k + 1) y0 y1 y2 y3))
  | 0 => ⟨fun _ _ _ r h => by simp [antecedentref18_Least.j0] at h, fun _ _ _ _ r h => by simp [antecedentref18_Least.l0] at h⟩
  | k + 1 => by
    obtain ⟨ih0, ih1⟩ := antecedentref18_Least.mono_l k
    refine ⟨?_, ?_⟩
    · intro y0 y1 y2
      unfold antecedentref18_Least.j0
      repeat' first
      | (with_reducible exact ih0 _ _ _)
      | (with_reducible exact ih1 _ _ _ _)
      | (with_reducible exact antecedentref18_Set.mono _ _ _)
      | (with_reducible exact antecedentref18_Unlike.mono _ _)
      | (with_reducible exact LeO.refl _)
      | (with_reducible exact LeO.none _)
      | (with_reducible refine LeO.ite ?_ ?_)
      | (with_reducible refine LeO.bind ?_ (fun _ => ?_))
      | exact ih0 _ _ _
      | exact ih1 _ _ _ _
      | exact antecedentref18_Set.mono _ _ _
      | exact antecedentref18_Unlike.mono _ _
      | exact LeO.none _
      | refine LeO.ite ?_ ?_
      | refine LeO.bind ?_ (fun _ => ?_)
    · intro y0 y1 y2 y3
      unfold antecedentref18_Least.l0
      repeat' first
      | (with_reducible exact ih0 _ _ _)
      | (with_reducible exact ih1 _ _ _ _)
      | (with_reducible exact antecedentref18_Set.mono _ _ _)
      | (with_reducible exact antecedentref18_Unlike.mono _ _)
      | (with_reducible exact LeO.refl _)
      | (with_reducible exact LeO.none _)
      | (with_reducible refine LeO.ite ?_ ?_)
      | (with_reducible refine LeO.bind ?_ (fun _ => ?_))
      | exact ih0 _ _ _
      | exact ih1 _ _ _ _
      | exact antecedentref18_Set.mono _ _ _
      | exact antecedentref18_Unlike.mono _ _
      | exact LeO.none _
      | refine LeO.ite ?_ ?_
      | refine LeO.bind ?_ (fun _ => ?_)
theorem antecedentref18_Least.mono : ∀ a0 a1 k, LeO (antecedentref18_Least.f k a0 a1) (antecedentref18_Least.f (k + 1) a0 a1) := by
  intro a0 a1 k
  obtain ⟨ih0, ih1⟩ := antecedentref18_Least.mono_l k
  unfold antecedentref18_Least.f
  repeat' first
      | (with_reducible exact ih0 _ _ _)
      | (with_reducible exact ih1 _ _ _ _)
      | (with_reducible exact antecedentref18_Set.mono _ _ _)
      | (with_reducible exact antecedentref18_Unlike.mono _ _)
      | (with_reducible exact LeO.refl _)
      | (with_reducible exact LeO.none _)
      | (with_reducible refine LeO.ite ?_ ?_)
      | (with_reducible refine LeO.bind ?_ (fun _ => ?_))
      | exact ih0 _ _ _
      | exact ih1 _ _ _ _
      | exact antecedentref18_Set.mono _ _ _
      | exact antecedentref18_Unlike.mono _ _
      | exact LeO.none _
      | refine LeO.ite ?_ ?_
      | refine LeO.bind ?_ (fun _ => ?_)
/-! ### antecedentlaw18_ChainLeast -/
def antecedentlaw18_ChainLeast.f (k : Nat) (a0 : Int) (l1 : List (List Int)) : Option (Bool) := (antecedentlaw18_awake.f k).bind fun t342 => (if t342 = true then ((antecedentlaw18_few.f k l1).bind fun t343 => (if t343 = true then ((chain_Cover.f k a0 l1).bind fun bt345 => ((antecedentref18_Least.f k a0 l1).bind fun t349 => (if t349 < 0 then (if bt345.2 = 1 then (if (bt345.1.length : Int) = 0 then ((chain_Least.f k a0 l1).bind fun t350 => (some (t350 == (-1)))) else (none)) else (none)) else (if bt345.2 = 0 then (if (bt345.1.length : Int) = t349 then ((chain_Least.f k a0 l1).bind fun t351 => (some (t351 == t349))) else (none)) else (none))))) else ((antecedentlaw18_awake.f k).bind fun t344 => (if t344 = true then (some t344) else (none))))) else (none))
theorem antecedentlaw18_ChainLeast.mono : ∀ a0 a1 k, LeO (antecedentlaw18_ChainLeast.f k a0 a1) (antecedentlaw18_ChainLeast.f (k + 1) a0 a1) := by
  intro a0 a1 k
  unfold antecedentlaw18_ChainLeast.f
  repeat' first
      | (with_reducible exact antecedentlaw18_awake.mono _)
      | (with_reducible exact antecedentlaw18_few.mono _ _)
      | (with_reducible exact antecedentref18_Least.mono _ _ _)
      | (with_reducible exact chain_Cover.mono _ _ _)
      | (with_reducible exact chain_Least.mono _ _ _)
      | (with_reducible exact LeO.refl _)
      | (with_reducible exact LeO.none _)
      | (with_reducible refine LeO.ite ?_ ?_)
      | (with_reducible refine LeO.bind ?_ (fun _ => ?_))
      | exact antecedentlaw18_awake.mono _
      | exact antecedentlaw18_few.mono _ _
      | exact antecedentref18_Least.mono _ _ _
      | exact chain_Cover.mono _ _ _
      | exact chain_Least.mono _ _ _
      | exact LeO.none _
      | refine LeO.ite ?_ ?_
      | refine LeO.bind ?_ (fun _ => ?_)
/-! ### antecedentref03_at -/
def antecedentref03_at.l0 : Nat → List Int → Int → Int → Int → Option (Int)
  | 0, _, _, _, _ => none
  | k + 1, x0, x1, x7, x8 => if x8 < x7 then (if 0 ≤ x8 then (if x8 < (x0.length : Int) then (if (rd x0 x8) = x1 then (some x8) else (antecedentref03_at.l0 k x0 x1 x7 (wrap64 (x8 + 1)))) else (none)) else (none)) else (some (-1))
def antecedentref03_at.f (k : Nat) (l0 : List Int) (a1 : Int) : Option (Int) := antecedentref03_at.l0 k l0 a1 (l0.length : Int) 0
theorem antecedentref03_at.mono_l : ∀ k, (∀ y0 y1 y2 y3, LeO (antecedentref03_at.l0 k y0 y1 y2 y3) (antecedentref03_at.l0 (k + 1) y0 y1 y2 y3))
  | 0 => fun _ _ _ _ r h => by simp [antecedentref03_at.l0] at h
  | k + 1 => by
    have ih0 := antecedentref03_at.mono_l k
    · intro y0 y1 y2 y3
      unfold antecedentref03_at.l0
      repeat' first
      | (with_reducible exact ih0 _ _ _ _)
      | (with_reducible exact LeO.refl _)
      | (with_reducible exact LeO.none _)
      | (with_reducible refine LeO.ite ?_ ?_)
      | (with_reducible refine LeO.bind ?_ (fun _ => ?_))
      | exact ih0 _ _ _ _
      | exact LeO.none _
      | refine LeO.ite ?_ ?_
      | refine LeO.bind ?_ (fun _ => ?_)
theorem antecedentref03_at.mono : ∀ a0 a1 k, LeO (antecedentref03_at.f k a0 a1) (antecedentref03_at.f (k + 1) a0 a1) := by
  intro a0 a1 k
  have ih0 := antecedentref03_at.mono_l k
  unfold antecedentref03_at.f
  repeat' first
      | (with_reducible exact ih0 _ _ _ _)
      | (with_reducible exact LeO.refl _)
      | (with_reducible exact LeO.none _)
      | (with_reducible refine LeO.ite ?_ ?_)
      | (with_reducible refine LeO.bind ?_ (fun _ => ?_))
      | exact ih0 _ _ _ _
      | exact LeO.none _
      | refine LeO.ite ?_ ?_
      | refine LeO.bind ?_ (fun _ => ?_)
/-! ### antecedentref03_Perm -/
def antecedentref03_Perm.l0 : Nat → List Int → Int → Int → Option (Bool)
  | 0, _, _, _ => none
  | k + 1, x0, x5, x6 => if x6 < x5 then ((antecedentref03_at.f k x0 x6).bind fun t353 => (if t353 < 0 then (some false) else (antecedentref03_Perm.l0 k x0 x5 (wrap64 (x6 + 1))))) else (some true)
def antecedentref03_Perm.f (k : Nat) (l0 : List Int) : Option (Bool) := antecedentref03_Perm.l0 k l0 (l0.length : Int) 0
theorem antecedentref03_Perm.mono_l : ∀ k, (∀ y0 y1 y2, LeO (antecedentref03_Perm.l0 k y0 y1 y2) (antecedentref03_Perm.l0 (k + 1) y0 y1 y2))
  | 0 => fun _ _ _ r h => by simp [antecedentref03_Perm.l0] at h
  | k + 1 => by
    have ih0 := antecedentref03_Perm.mono_l k
    · intro y0 y1 y2
      unfold antecedentref03_Perm.l0
      repeat' first
      | (with_reducible exact ih0 _ _ _)
      | (with_reducible exact antecedentref03_at.mono _ _ _)
      | (with_reducible exact LeO.refl _)
      | (with_reducible exact LeO.none _)
      | (with_reducible refine LeO.ite ?_ ?_)
      | (with_reducible refine LeO.bind ?_ (fun _ => ?_))
      | exact ih0 _ _ _
      | exact antecedentref03_at.mono _ _ _
      | exact LeO.none _
      | refine LeO.ite ?_ ?_
      | refine LeO.bind ?_ (fun _ => ?_)
theorem antecedentref03_Perm.mono : ∀ a0 k, LeO (antecedentref03_Perm.f k a0) (antecedentref03_Perm.f (k + 1) a0) := by
  intro a0 k
  have ih0 := antecedentref03_Perm.mono_l k
  unfold antecedentref03_Perm.f
  repeat' first
      | (with_reducible exact ih0 _ _ _)
      | (with_reducible exact antecedentref03_at.mono _ _ _)
      | (with_reducible exact LeO.refl _)
      | (with_reducible exact LeO.none _)
      | (with_reducible refine LeO.ite ?_ ?_)
      | (with_reducible refine LeO.bind ?_ (fun _ => ?_))
      | exact ih0 _ _ _
      | exact antecedentref03_at.mono _ _ _
      | exact LeO.none _
      | refine LeO.ite ?_ ?_
      | refine LeO.bind ?_ (fun _ => ?_)
/-! ### antecedentref18_Fits -/
def antecedentref18_Fits.f (k : Nat) (l0 : List Int) (l1 : List Int) : Option (Bool) := (antecedentref18_Set.f k (l0.length : Int) l0).bind fun t354 => (if t354 = true then ((antecedentref18_Set.f k (l0.length : Int) l1).bind fun t355 => (if t355 = true then (if 0 ≤ (l1.length : Int) then (if (l1.length : Int) ≤ (l0.length : Int) then ((antecedentref18_Part.f k (l0.take ((l1.length : Int) : Int).toNat) l1).bind fun t357 => (some t357)) else (none)) else (none)) else (some false))) else (some false))
theorem antecedentref18_Fits.mono : ∀ a0 a1 k, LeO (antecedentref18_Fits.f k a0 a1) (antecedentref18_Fits.f (k + 1) a0 a1) := by
  intro a0 a1 k
  unfold antecedentref18_Fits.f
  repeat' first
      | (with_reducible exact antecedentref18_Part.mono _ _ _)
      | (with_reducible exact antecedentref18_Set.mono _ _ _)
      | (with_reducible exact LeO.refl _)
      | (with_reducible exact LeO.none _)
      | (with_reducible refine LeO.ite ?_ ?_)
      | (with_reducible refine LeO.bind ?_ (fun _ => ?_))
      | exact antecedentref18_Part.mono _ _ _
      | exact antecedentref18_Set.mono _ _ _
      | exact LeO.none _
      | refine LeO.ite ?_ ?_
      | refine LeO.bind ?_ (fun _ => ?_)
/-! ### antecedentlaw18_ChainCovers -/
mutual
def antecedentlaw18_ChainCovers.l0 : Nat → Int → List (List Int) → List (List Int) → Int → Int → Option (Bool)
  | 0, _, _, _, _, _ => none
  | k + 1, x0, x1, x5, x28, x29 => if x29 < x28 then (if 0 ≤ x29 then (if x29 < (x5.length : Int) then ((antecedentref03_Perm.f k (rd_L3 x5 x29)).bind fun t366 => (if t366 = true then (if ((rd_L3 x5 x29).length : Int) = x0 then (antecedentlaw18_ChainCovers.l0 k x0 x1 x5 x28 (wrap64 (x29 + 1))) else (none)) else (none))) else (none)) else (none)) else (antecedentlaw18_ChainCovers.l1 k x1 x5 (x1.length : Int) 0)
def antecedentlaw18_ChainCovers.l1 : Nat → List (List Int) → List (List Int) → Int → Int → Option (Bool)
  | 0, _, _, _, _ => none
  | k + 1, x1, x5, x49, x50 => if x50 < x49 then (if 0 ≤ x50 then (if x50 < (x1.length : Int) then (antecedentlaw18_ChainCovers.l2 k x1 x5 x50 (((rd_L3 x1 x50).length : Int) == 0) x49 x50 (x5.length : Int) 0) else (none)) else (none)) else (some true)
def antecedentlaw18_ChainCovers.l2 : Nat → List (List Int) → List (List Int) → Int → Bool → Int → Int → Int → Int → Option (Bool)
  | 0, _, _, _, _, _, _, _, _ => none
  | k + 1, x1, x5, x8, x9, x49, x50, x60, x61 => if x61 < x60 then (if x9 = true then (antecedentlaw18_ChainCovers.l2 k x1 x5 x8 true x49 x50 x60 (wrap64 (x61 + 1))) else (if 0 ≤ x61 then (if x61 < (x5.length : Int) then (if 0 ≤ x8 then (if x8 < (x1.length : Int) then ((antecedentref18_Fits.f k (rd_L3 x5 x61) (rd_L3 x1 x8)).bind fun t371 => (if t371 = true then ((chain_Fits.f k (rd_L3 x5 x61) (rd_L3 x1 x8)).bind fun t374 => (antecedentlaw18_ChainCovers.l2 k x1 x5 x8 t374 x49 x50 x60 (wrap64 (x61 + 1)))) else (antecedentlaw18_ChainCovers.l2 k x1 x5 x8 false x49 x50 x60 (wrap64 (x61 + 1))))) else (none)) else (none)) else (none)) else (none))) else (if x9 = true then (antecedentlaw18_ChainCovers.l1 k x1 x5 x49 (wrap64 (x50 + 1))) else (none))
end
def antecedentlaw18_ChainCovers.f (k : Nat) (a0 : Int) (l1 : List (List Int)) : Option (Bool) := (antecedentlaw18_awake.f k).bind fun t358 => (if t358 = true then ((antecedentlaw18_few.f k l1).bind fun t359 => (if t359 = true then ((chain_Cover.f k a0 l1).bind fun bt361 => (if bt361.2 = 0 then (antecedentlaw18_ChainCovers.l0 k a0 l1 bt361.1 (bt361.1.length : Int) 0) else (some true))) else ((antecedentlaw18_awake.f k).bind fun t360 => (if t360 = true then (some t360) else (none))))) else (none))
theorem antecedentlaw18_ChainCovers.mono_l : ∀ k, (∀ y0 y1 y2 y3 y4, LeO (antecedentlaw18_ChainCovers.l0 k y0 y1 y2 y3 y4) (antecedentlaw18_ChainCovers.l0 (k + 1) y0 y1 y2 y3 y4)) ∧ (∀ y0 y1 y2 y3, LeO (antecedentlaw18_ChainCovers.l1 k y0 y1 y2 y3) (antecedentlaw18_ChainCovers.l1 (k + 1) y0 y1 y2 y3)) ∧ (∀ y0 y1 y2 y3 y4 y5 y6 y7, LeO (antecedentlaw18_ChainCovers.l2 k y0 y1 y2 y3 y4 y5 y6 y7) (antecedentlaw18_ChainCovers.l2 (k + 1) y0 y1 y2 y3 y4 y5 y6 y7))
  | 0 => ⟨fun _ _ _ _ _ r h => by simp [antecedentlaw18_ChainCovers.l0] at h, fun _ _ _ _ r h => by simp [antecedentlaw18_ChainCovers.l1] at h, fun _ _ _ _ _ _ _ _ r h => by simp [antecedentlaw18_ChainCovers.l2] at h⟩
  | k + 1 => by
    obtain ⟨ih0, ih1, ih2⟩ := antecedentlaw18_ChainCovers.mono_l k
    refine ⟨?_, ?_, ?_⟩
    · intro y0 y1 y2 y3 y4
      unfold antecedentlaw18_ChainCovers.l0
      repeat' first
      | (with_reducible exact ih0 _ _ _ _ _)
      | (with_reducible exact ih1 _ _ _ _)
      | (with_reducible exact ih2 _ _ _ _ _ _ _ _)
      | (with_reducible exact antecedentlaw18_awake.mono _)
      | (with_reducible exact antecedentlaw18_few.mono _ _)
      | (with_reducible exact antecedentref03_Perm.mono _ _)
      | (with_reducible exact antecedentref18_Fits.mono _ _ _)
      | (with_reducible exact chain_Cover.mono _ _ _)
      | (with_reducible exact chain_Fits.mono _ _ _)
      | (with_reducible exact LeO.refl _)
      | (with_reducible exact LeO.none _)
      | (with_reducible refine LeO.ite ?_ ?_)
      | (with_reducible refine LeO.bind ?_ (fun _ => ?_))
      | exact ih0 _ _ _ _ _
      | exact ih1 _ _ _ _
      | exact ih2 _ _ _ _ _ _ _ _
      | exact antecedentlaw18_awake.mono _
      | exact antecedentlaw18_few.mono _ _
      | exact antecedentref03_Perm.mono _ _
      | exact antecedentref18_Fits.mono _ _ _
      | exact chain_Cover.mono _ _ _
      | exact chain_Fits.mono _ _ _
      | exact LeO.none _
      | refine LeO.ite ?_ ?_
      | refine LeO.bind ?_ (fun _ => ?_)
    · intro y0 y1 y2 y3
      unfold antecedentlaw18_ChainCovers.l1
      repeat' first
      | (with_reducible exact ih0 _ _ _ _ _)
      | (with_reducible exact ih1 _ _ _ _)
      | (with_reducible exact ih2 _ _ _ _ _ _ _ _)
      | (with_reducible exact antecedentlaw18_awake.mono _)
      | (with_reducible exact antecedentlaw18_few.mono _ _)
      | (with_reducible exact antecedentref03_Perm.mono _ _)
      | (with_reducible exact antecedentref18_Fits.mono _ _ _)
      | (with_reducible exact chain_Cover.mono _ _ _)
      | (with_reducible exact chain_Fits.mono _ _ _)
      | (with_reducible exact LeO.refl _)
      | (with_reducible exact LeO.none _)
      | (with_reducible refine LeO.ite ?_ ?_)
      | (with_reducible refine LeO.bind ?_ (fun _ => ?_))
      | exact ih0 _ _ _ _ _
      | exact ih1 _ _ _ _
      | exact ih2 _ _ _ _ _ _ _ _
      | exact antecedentlaw18_awake.mono _
      | exact antecedentlaw18_few.mono _ _
      | exact antecedentref03_Perm.mono _ _
      | exact antecedentref18_Fits.mono _ _ _
      | exact chain_Cover.mono _ _ _
      | exact chain_Fits.mono _ _ _
      | exact LeO.none _
      | refine LeO.ite ?_ ?_
      | refine LeO.bind ?_ (fun _ => ?_)
    · intro y0 y1 y2 y3 y4 y5 y6 y7
      unfold antecedentlaw18_ChainCovers.l2
      repeat' first
      | (with_reducible exact ih0 _ _ _ _ _)
      | (with_reducible exact ih1 _ _ _ _)
      | (with_reducible exact ih2 _ _ _ _ _ _ _ _)
      | (with_reducible exact antecedentlaw18_awake.mono _)
      | (with_reducible exact antecedentlaw18_few.mono _ _)
      | (with_reducible exact antecedentref03_Perm.mono _ _)
      | (with_reducible exact antecedentref18_Fits.mono _ _ _)
      | (with_reducible exact chain_Cover.mono _ _ _)
      | (with_reducible exact chain_Fits.mono _ _ _)
      | (with_reducible exact LeO.refl _)
      | (with_reducible exact LeO.none _)
      | (with_reducible refine LeO.ite ?_ ?_)
      | (with_reducible refine LeO.bind ?_ (fun _ => ?_))
      | exact ih0 _ _ _ _ _
      | exact ih1 _ _ _ _
      | exact ih2 _ _ _ _ _ _ _ _
      | exact antecedentlaw18_awake.mono _
      | exact antecedentlaw18_few.mono _ _
      | exact antecedentref03_Perm.mono _ _
      | exact antecedentref18_Fits.mono _ _ _
      | exact chain_Cover.mono _ _ _
      | exact chain_Fits.mono _ _ _
      | exact LeO.none _
      | refine LeO.ite ?_ ?_
      | refine LeO.bind ?_ (fun _ => ?_)
theorem antecedentlaw18_ChainCovers.mono : ∀ a0 a1 k, LeO (antecedentlaw18_ChainCovers.f k a0 a1) (antecedentlaw18_ChainCovers.f (k + 1) a0 a1) := by
  intro a0 a1 k
  obtain ⟨ih0, ih1, ih2⟩ := antecedentlaw18_ChainCovers.mono_l k
  unfold antecedentlaw18_ChainCovers.f
  repeat' first
      | (with_reducible exact ih0 _ _ _ _ _)
      | (with_reducible exact ih1 _ _ _ _)
      | (with_reducible exact ih2 _ _ _ _ _ _ _ _)
      | (with_reducible exact antecedentlaw18_awake.mono _)
      | (with_reducible exact antecedentlaw18_few.mono _ _)
      | (with_reducible exact antecedentref03_Perm.mono _ _)
      | (with_reducible exact antecedentref18_Fits.mono _ _ _)
      | (with_reducible exact chain_Cover.mono _ _ _)
      | (with_reducible exact chain_Fits.mono _ _ _)
      | (with_reducible exact LeO.refl _)
      | (with_reducible exact LeO.none _)
      | (with_reducible refine LeO.ite ?_ ?_)
      | (with_reducible refine LeO.bind ?_ (fun _ => ?_))
      | exact ih0 _ _ _ _ _
      | exact ih1 _ _ _ _
      | exact ih2 _ _ _ _ _ _ _ _
      | exact antecedentlaw18_awake.mono _
      | exact antecedentlaw18_few.mono _ _
      | exact antecedentref03_Perm.mono _ _
      | exact antecedentref18_Fits.mono _ _ _
      | exact chain_Cover.mono _ _ _
      | exact chain_Fits.mono _ _ _
      | exact LeO.none _
      | refine LeO.ite ?_ ?_
      | refine LeO.bind ?_ (fun _ => ?_)
/-! ### antecedentlaw18_ChainTwice -/
mutual
def antecedentlaw18_ChainTwice.j0 : Nat → Int → List (List Int) → List Int → Bool → Option (Bool)
  | 0, _, _, _, _ => none
  | k + 1, x0, x1, x2, x24 => if x24 = true then ((antecedentlaw18_awake.f k).bind fun t377 => (if t377 = true then (some t377) else (none))) else ((chain_Least.f k x0 x1).bind fun t378 => (antecedentlaw18_ChainTwice.l0 k x0 x1 x2 t378 (([[]] : List (List Int))) (x1.length : Int) 0))
def antecedentlaw18_ChainTwice.l0 : Nat → Int → List (List Int) → List Int → Int → List (List Int) → Int → Int → Option (Bool)
  | 0, _, _, _, _, _, _, _ => none
  | k + 1, x0, x1, x2, x7, x8, x31, x32 => if x32 < x31 then (if 0 ≤ x32 then (if x32 < (x1.length : Int) then (antecedentlaw18_ChainTwice.l1 k x0 x1 x2 x7 x8 x32 ([] : List Int) x31 x32 ((rd_L3 x1 x32).length : Int) 0) else (none)) else (none)) else ((chain_Least.f k x0 x8).bind fun t396 => (if t396 = x7 then ((some (([] : List (List Int)) : List (List Int))).bind fun y397 => (if y397.length + x1.length < 5864062014805 then ((some (y397 ++ x1 : List (List Int))).bind fun y400 => (if y400.length < 5864062014805 then ((chain_Least.f k x0 (y400 ++ [x2])).bind fun t406 => (if x7 < 0 then (some true) else (if t406 < 0 then (some true) else (if t406 ≥ x7 then (some (decide (t406 ≤ (wrap64 (x7 + 1))))) else (none))))) else (none))) else (none))) else (if x0 < 0 then ((some (([] : List (List Int)) : List (List Int))).bind fun y407 => (if y407.length + x1.length < 5864062014805 then ((some (y407 ++ x1 : List (List Int))).bind fun y410 => (if y410.length < 5864062014805 then ((chain_Least.f k x0 (y410 ++ [x2])).bind fun t416 => (if x7 < 0 then (some true) else (if t416 < 0 then (some true) else (if t416 ≥ x7 then (some (decide (t416 ≤ (wrap64 (x7 + 1))))) else (none))))) else (none))) else (none))) else (if x0 > 8 then ((some (([] : List (List Int)) : List (List Int))).bind fun y417 => (if y417.length + x1.length < 5864062014805 then ((some (y417 ++ x1 : List (List Int))).bind fun y420 => (if y420.length < 5864062014805 then ((chain_Least.f k x0 (y420 ++ [x2])).bind fun t426 => (if x7 < 0 then (some true) else (if t426 < 0 then (some true) else (if t426 ≥ x7 then (some (decide (t426 ≤ (wrap64 (x7 + 1))))) else (none))))) else (none))) else (none))) else (none)))))
def antecedentlaw18_ChainTwice.l1 : Nat → Int → List (List Int) → List Int → Int → List (List Int) → Int → List Int → Int → Int → Int → Int → Option (Bool)
  | 0, _, _, _, _, _, _, _, _, _, _, _ => none
  | k + 1, x0, x1, x2, x7, x8, x9, x10, x31, x32, x39, x40 => if x40 < x39 then (if 0 ≤ x9 then (if x9 < (x1.length : Int) then (if 0 ≤ (wrap64 ((wrap64 (((rd_L3 x1 x9).length : Int) - 1)) - x40)) then (if (wrap64 ((wrap64 (((rd_L3 x1 x9).length : Int) - 1)) - x40)) < ((rd_L3 x1 x9).length : Int) then (if x10.length < 17592186044416 then (antecedentlaw18_ChainTwice.l1 k x0 x1 x2 x7 x8 x9 (x10 ++ [rd (rd_L3 x1 x9) (wrap64 ((wrap64 (((rd_L3 x1 x9).length : Int) - 1)) - x40))]) x31 x32 x39 (wrap64 (x40 + 1))) else (none)) else (none)) else (none)) else (none)) else (none)) else (if 0 ≤ x9 then (if x9 < (x1.length : Int) then ((some (([x10, rd_L3 x1 x9] : List (List Int)) : List (List Int))).bind fun y390 => (if x8.length + y390.length < 5864062014805 then (antecedentlaw18_ChainTwice.l0 k x0 x1 x2 x7 (x8 ++ y390) x31 (wrap64 (x32 + 1))) else (none))) else (none)) else (none))
end
def antecedentlaw18_ChainTwice.f (k : Nat) (a0 : Int) (l1 : List (List Int)) (l2 : List Int) : Option (Bool) := (antecedentlaw18_awake.f k).bind fun t375 => (if t375 = true then ((antecedentlaw18_few.f k l1).bind fun t376 => (if t376 = true then (antecedentlaw18_ChainTwice.j0 k a0 l1 l2 (decide ((l2.length : Int) > 10))) else (antecedentlaw18_ChainTwice.j0 k a0 l1 l2 true))) else (none))
theorem antecedentlaw18_ChainTwice.mono_l : ∀ k, (∀ y0 y1 y2 y3, LeO (antecedentlaw18_ChainTwice.j0 k y0 y1 y2 y3) (antecedentlaw18_ChainTwice.j0 (k + 1) y0 y1 y2 y3)) ∧ (∀ y0 y1 y2 y3 y4 y5 y6, LeO (antecedentlaw18_ChainTwice.l0 k y0 y1 y2 y3 y4 y5 y6) (antecedentlaw18_ChainTwice.l0 (k + 1) y0 y1 y2 y3 y4 y5 y6)) ∧ (∀ y0 y1 y2 y3 y4 y5 y6 y7 y8 y9 y10, LeO (antecedentlaw18_ChainTwice.l1 k y0 y1 y2 y3 y4 y5 y6 y7 y8 y9 y10) (antecedentlaw18_ChainTwice.l1 (k + 1) y0 y1 y2 y3 y4 y5 y6 y7 y8 y9 y10))
  | 0 => ⟨fun _ _ _ _ r h => by simp [antecedentlaw18_ChainTwice.j0] at h, fun _ _ _ _ _ _ _ r h => by simp [antecedentlaw18_ChainTwice.l0] at h, fun _ _ _ _ _ _ _ _ _ _ _ r h => by simp [antecedentlaw18_ChainTwice.l1] at h⟩
  | k + 1 => by
    obtain ⟨ih0, ih1, ih2⟩ := antecedentlaw18_ChainTwice.mono_l k
    refine ⟨?_, ?_, ?_⟩
    · intro y0 y1 y2 y3
      unfold antecedentlaw18_ChainTwice.j0
      repeat' first
      | (with_reducible exact ih0 _ _ _ _)
      | (with_reducible exact ih1 _ _ _ _ _ _ _)
      | (with_reducible exact ih2 _ _ _ _ _ _ _ _ _ _ _)
      | (with_reducible exact antecedentlaw18_awake.mono _)
      | (with_reducible exact antecedentlaw18_few.mono _ _)
      | (with_reducible exact chain_Least.mono _ _ _)
      | (with_reducible exact LeO.refl _)
      | (with_reducible exact LeO.none _)
      | (with_reducible refine LeO.ite ?_ ?_)
      | (with_reducible refine LeO.bind ?_ (fun _ => ?_))
      | exact ih0 _ _ _ _
      | exact ih1 _ _ _ _ _ _ _
      | exact ih2 _ _ _ _ _ _ _ _ _ _ _
      | exact antecedentlaw18_awake.mono _
      | exact antecedentlaw18_few.mono _ _
      | exact chain_Least.mono _ _ _
      | exact LeO.none _
      | refine LeO.ite ?_ ?_
      | refine LeO.bind ?_ (fun _ => ?_)
    · intro y0 y1 y2 y3 y4 y5 y6
      unfold antecedentlaw18_ChainTwice.l0
      repeat' first
      | (with_reducible exact ih0 _ _ _ _)
      | (with_reducible exact ih1 _ _ _ _ _ _ _)
      | (with_reducible exact ih2 _ _ _ _ _ _ _ _ _ _ _)
      | (with_reducible exact antecedentlaw18_awake.mono _)
      | (with_reducible exact antecedentlaw18_few.mono _ _)
      | (with_reducible exact chain_Least.mono _ _ _)
      | (with_reducible exact LeO.refl _)
      | (with_reducible exact LeO.none _)
      | (with_reducible refine LeO.ite ?_ ?_)
      | (with_reducible refine LeO.bind ?_ (fun _ => ?_))
      | exact ih0 _ _ _ _
      | exact ih1 _ _ _ _ _ _ _
      | exact ih2 _ _ _ _ _ _ _ _ _ _ _
      | exact antecedentlaw18_awake.mono _
      | exact antecedentlaw18_few.mono _ _
      | exact chain_Least.mono _ _ _
      | exact LeO.none _
      | refine LeO.ite ?_ ?_
      | refine LeO.bind ?_ (fun _ => ?_)
    · intro y0 y1 y2 y3 y4 y5 y6 y7 y8 y9 y10
      unfold antecedentlaw18_ChainTwice.l1
      repeat' first
      | (with_reducible exact ih0 _ _ _ _)
      | (with_reducible exact ih1 _ _ _ _ _ _ _)
      | (with_reducible exact ih2 _ _ _ _ _ _ _ _ _ _ _)
      | (with_reducible exact antecedentlaw18_awake.mono _)
      | (with_reducible exact antecedentlaw18_few.mono _ _)
      | (with_reducible exact chain_Least.mono _ _ _)
      | (with_reducible exact LeO.refl _)
      | (with_reducible exact LeO.none _)
      | (with_reducible refine LeO.ite ?_ ?_)
      | (with_reducible refine LeO.bind ?_ (fun _ => ?_))
      | exact ih0 _ _ _ _
      | exact ih1 _ _ _ _ _ _ _
      | exact ih2 _ _ _ _ _ _ _ _ _ _ _
      | exact antecedentlaw18_awake.mono _
      | exact antecedentlaw18_few.mono _ _
      | exact chain_Least.mono _ _ _
      | exact LeO.none _
      | refine LeO.ite ?_ ?_
      | refine LeO.bind ?_ (fun _ => ?_)
theorem antecedentlaw18_ChainTwice.mono : ∀ a0 a1 a2 k, LeO (antecedentlaw18_ChainTwice.f k a0 a1 a2) (antecedentlaw18_ChainTwice.f (k + 1) a0 a1 a2) := by
  intro a0 a1 a2 k
  obtain ⟨ih0, ih1, ih2⟩ := antecedentlaw18_ChainTwice.mono_l k
  unfold antecedentlaw18_ChainTwice.f
  repeat' first
      | (with_reducible exact ih0 _ _ _ _)
      | (with_reducible exact ih1 _ _ _ _ _ _ _)
      | (with_reducible exact ih2 _ _ _ _ _ _ _ _ _ _ _)
      | (with_reducible exact antecedentlaw18_awake.mono _)
      | (with_reducible exact antecedentlaw18_few.mono _ _)
      | (with_reducible exact chain_Least.mono _ _ _)
      | (with_reducible exact LeO.refl _)
      | (with_reducible exact LeO.none _)
      | (with_reducible refine LeO.ite ?_ ?_)
      | (with_reducible refine LeO.bind ?_ (fun _ => ?_))
      | exact ih0 _ _ _ _
      | exact ih1 _ _ _ _ _ _ _
      | exact ih2 _ _ _ _ _ _ _ _ _ _ _
      | exact antecedentlaw18_awake.mono _
      | exact antecedentlaw18_few.mono _ _
      | exact chain_Least.mono _ _ _
      | exact LeO.none _
      | refine LeO.ite ?_ ?_
      | refine LeO.bind ?_ (fun _ => ?_)
/-! ### antecedentlaw18_ChainWhole -/
mutual
def antecedentlaw18_ChainWhole.j0 : Nat → Int → List Int → List Int → Bool → Option (Bool)
  | 0, _, _, _, _ => none
  | k + 1, x0, x1, x2, x31 => if x31 = true then ((antecedentlaw18_awake.f k).bind fun t429 => (if t429 = true then (some t429) else (none))) else (antecedentlaw18_ChainWhole.l0 k x0 x1 x2 (x1.length : Int) ([] : List (List Int)) 0 (x2.length : Int) 0)
def antecedentlaw18_ChainWhole.l0 : Nat → Int → List Int → List Int → Int → List (List Int) → Int → Int → Int → Option (Bool)
  | 0, _, _, _, _, _, _, _, _ => none
  | k + 1, x0, x1, x2, x7, x8, x10, x36, x37 => if x37 < x36 then (if 0 ≤ x37 then (if x37 < (x2.length : Int) then (if (wrap64 (x7 + 1)) = 0 then (none) else (if 0 ≤ (Int.tmod (wrap64 (rd x2 x37)) (wrap64 (x7 + 1))) then (if (Int.tmod (wrap64 (rd x2 x37)) (wrap64 (x7 + 1))) ≤ (x1.length : Int) then (if x8.length < 5864062014805 then (antecedentlaw18_ChainWhole.l0 k x0 x1 x2 x7 (x8 ++ [(x1.take ((Int.tmod (wrap64 (rd x2 x37)) (wrap64 (x7 + 1))) : Int).toNat)]) (mx x10 (Int.tmod (wrap64 (rd x2 x37)) (wrap64 (x7 + 1)))) x36 (wrap64 (x37 + 1))) else (none)) else (none)) else (none))) else (none)) else (none)) else (antecedentlaw18_ChainWhole.l1 k x0 x1 x7 x8 ([] : List (List Int)) x10 x7 0)
def antecedentlaw18_ChainWhole.l1 : Nat → Int → List Int → Int → List (List Int) → List (List Int) → Int → Int → Int → Option (Bool)
  | 0, _, _, _, _, _, _, _, _ => none
  | k + 1, x0, x1, x7, x8, x9, x10, x58, x59 => if x59 < x58 then (if 0 ≤ x59 then (if x59 < (x1.length : Int) then (if x9.length < 5864062014805 then (antecedentlaw18_ChainWhole.l1 k x0 x1 x7 x8 (x9 ++ [(([rd x1 x59] : List Int))]) x10 x58 (wrap64 (x59 + 1))) else (none)) else (none)) else (none)) else ((chain_Least.f k x7 x8).bind fun t446 => (if t446 = (mn x10 1) then ((chain_Least.f k x7 x9).bind fun t447 => (if t447 = x7 then ((chain_Least.f k (wrap64 (x0)) ([] : List (List Int))).bind fun t448 => (some (t448 == (-(mx 0 (mn 1 (wrap64 ((wrap64 (x0)) - 8)))))))) else (none))) else (none)))
end
def antecedentlaw18_ChainWhole.f (k : Nat) (a0 : Int) (l1 : List Int) (l2 : List Int) : Option (Bool) := (antecedentlaw18_awake.f k).bind fun t427 => (if t427 = true then (if (l1.length : Int) > 8 then (antecedentlaw18_ChainWhole.j0 k a0 l1 l2 true) else (if (l2.length : Int) > 10 then (antecedentlaw18_ChainWhole.j0 k a0 l1 l2 true) else ((antecedentref03_Perm.f k l1).bind fun t428 => (antecedentlaw18_ChainWhole.j0 k a0 l1 l2 (!t428))))) else (none))
theorem antecedentlaw18_ChainWhole.mono_l : ∀ k, (∀ y0 y1 y2 y3, LeO (antecedentlaw18_ChainWhole.j0 k y0 y1 y2 y3) (antecedentlaw18_ChainWhole.j0 (k + 1) y0 y1 y2 y3)) ∧ (∀ y0 y1 y2 y3 y4 y5 y6 y7, LeO (antecedentlaw18_ChainWhole.l0 k y0 y1 y2 y3 y4 y5 y6 y7) (antecedentlaw18_ChainWhole.l0 (k + 1) y0 y1 y2 y3 y4 y5 y6 y7)) ∧ (∀ y0 y1 y2 y3 y4 y5 y6 y7, LeO (antecedentlaw18_ChainWhole.l1 k y0 y1 y2 y3 y4 y5 y6 y7) (antecedentlaw18_ChainWhole.l1 (k + 1) y0 y1 y2 y3 y4 y5 y6 y7))
  | 0 => ⟨fun _ _ _ _ r h => by simp [antecedentlaw18_ChainWhole.j0] at h, fun _ _ _ _ _ _ _ _ r h => by simp [antecedentlaw18_ChainWhole.l0] at h, fun _ _ _ _ _ _ _ _ r h => by simp [antecedentlaw18_ChainWhole.l1] at h⟩
  | k + 1 => by
    obtain ⟨ih0, ih1, ih2⟩ := antecedentlaw18_ChainWhole.mono_l k
    refine ⟨?_, ?_, ?_⟩
    · intro y0 y1 y2 y3
      unfold antecedentlaw18_ChainWhole.j0
      repeat' first
      | (with_reducible exact ih0 _ _ _ _)
      | (with_reducible exact ih1 _ _ _ _ _ _ _ _)
      | (with_reducible exact ih2 _ _ _ _ _ _ _ _)
      | (with_reducible exact antecedentlaw18_awake.mono _)
      | (with_reducible exact antecedentref03_Perm.mono _ _)
      | (with_reducible exact chain_Least.mono _ _ _)
      | (with_reducible exact LeO.refl _)
      | (with_reducible exact LeO.none _)
      | (with_reducible refine LeO.ite ?_ ?_)
      | (with_reducible refine LeO.bind ?_ (fun _ => ?_))
      | exact ih0 _ _ _ _
      | exact ih1 _ _ _ _ _ _ _ _
      | exact ih2 _ _ _ _ _ _ _ _
      | exact antecedentlaw18_awake.mono _
      | exact antecedentref03_Perm.mono _ _
      | exact chain_Least.mono _ _ _
      | exact LeO.none _
      | refine LeO.ite ?_ ?_
      | refine LeO.bind ?_ (fun _ => ?_)
    · intro y0 y1 y2 y3 y4 y5 y6 y7
      unfold antecedentlaw18_ChainWhole.l0
      repeat' first
      | (with_reducible exact ih0 _ _ _ _)
      | (with_reducible exact ih1 _ _ _ _ _ _ _ _)
      | (with_reducible exact ih2 _ _ _ _ _ _ _ _)
      | (with_reducible exact antecedentlaw18_awake.mono _)
      | (with_reducible exact antecedentref03_Perm.mono _ _)
      | (with_reducible exact chain_Least.mono _ _ _)
      | (with_reducible exact LeO.refl _)
      | (with_reducible exact LeO.none _)
      | (with_reducible refine LeO.ite ?_ ?_)
      | (with_reducible refine LeO.bind ?_ (fun _ => ?_))
      | exact ih0 _ _ _ _
      | exact ih1 _ _ _ _ _ _ _ _
      | exact ih2 _ _ _ _ _ _ _ _
      | exact antecedentlaw18_awake.mono _
      | exact antecedentref03_Perm.mono _ _
      | exact chain_Least.mono _ _ _
      | exact LeO.none _
      | refine LeO.ite ?_ ?_
      | refine LeO.bind ?_ (fun _ => ?_)
    · intro y0 y1 y2 y3 y4 y5 y6 y7
      unfold antecedentlaw18_ChainWhole.l1
      repeat' first
      | (with_reducible exact ih0 _ _ _ _)
      | (with_reducible exact ih1 _ _ _ _ _ _ _ _)
      | (with_reducible exact ih2 _ _ _ _ _ _ _ _)
      | (with_reducible exact antecedentlaw18_awake.mono _)
      | (with_reducible exact antecedentref03_Perm.mono _ _)
      | (with_reducible exact chain_Least.mono _ _ _)
      | (with_reducible exact LeO.refl _)
      | (with_reducible exact LeO.none _)
      | (with_reducible refine LeO.ite ?_ ?_)
      | (with_reducible refine LeO.bind ?_ (fun _ => ?_))
      | exact ih0 _ _ _ _
      | exact ih1 _ _ _ _ _ _ _ _
      | exact ih2 _ _ _ _ _ _ _ _
      | exact antecedentlaw18_awake.mono _
      | exact antecedentref03_Perm.mono _ _
      | exact chain_Least.mono _ _ _
      | exact LeO.none _
      | refine LeO.ite ?_ ?_
      | refine LeO.bind ?_ (fun _ => ?_)
theorem antecedentlaw18_ChainWhole.mono : ∀ a0 a1 a2 k, LeO (antecedentlaw18_ChainWhole.f k a0 a1 a2) (antecedentlaw18_ChainWhole.f (k + 1) a0 a1 a2) := by
  intro a0 a1 a2 k
  obtain ⟨ih0, ih1, ih2⟩ := antecedentlaw18_ChainWhole.mono_l k
  unfold antecedentlaw18_ChainWhole.f
  repeat' first
      | (with_reducible exact ih0 _ _ _ _)
      | (with_reducible exact ih1 _ _ _ _ _ _ _ _)
      | (with_reducible exact ih2 _ _ _ _ _ _ _ _)
      | (with_reducible exact antecedentlaw18_awake.mono _)
      | (with_reducible exact antecedentref03_Perm.mono _ _)
      | (with_reducible exact chain_Least.mono _ _ _)
      | (with_reducible exact LeO.refl _)
      | (with_reducible exact LeO.none _)
      | (with_reducible refine LeO.ite ?_ ?_)
      | (with_reducible refine LeO.bind ?_ (fun _ => ?_))
      | exact ih0 _ _ _ _
      | exact ih1 _ _ _ _ _ _ _ _
      | exact ih2 _ _ _ _ _ _ _ _
      | exact antecedentlaw18_awake.mono _
      | exact antecedentref03_Perm.mono _ _
      | exact chain_Least.mono _ _ _
      | exact LeO.none _
      | refine LeO.ite ?_ ?_
      | refine LeO.bind ?_ (fun _ => ?_)
/-! ### antecedentlaw18_ChainTurned -/
mutual
def antecedentlaw18_ChainTurned.j0 : Nat → List Int → List (List Int) → Bool → Option (Bool)
  | 0, _, _, _ => none
  | k + 1, x0, x1, x31 => if x31 = true then ((antecedentlaw18_awake.f k).bind fun t452 => (if t452 = true then (some t452) else (none))) else ((chain_Least.f k (x0.length : Int) x1).bind fun t453 => (if t453 < 0 then (some true) else (antecedentlaw18_ChainTurned.l0 k x0 x1 t453 ([] : List (List Int)) ([] : List (List Int)) false (x1.length : Int) 0)))
def antecedentlaw18_ChainTurned.l0 : Nat → List Int → List (List Int) → Int → List (List Int) → List (List Int) → Bool → Int → Int → Option (Bool)
  | 0, _, _, _, _, _, _, _, _ => none
  | k + 1, x0, x1, x5, x6, x7, x8, x40, x41 => if x41 < x40 then (if 0 ≤ x41 then (if x41 < (x1.length : Int) then (antecedentlaw18_ChainTurned.l1 k x0 x1 x5 x6 x7 x8 x41 ([] : List Int) x40 x41 (rd_L3 x1 x41) ((rd_L3 x1 x41).length : Int) 0) else (none)) else (none)) else ((chain_Least.f k (x0.length : Int) x6).bind fun t454 => (if t454 = x5 then (if x8 = true then (some true) else ((chain_Least.f k (x0.length : Int) x7).bind fun t455 => (some (t455 == x5)))) else (none)))
def antecedentlaw18_ChainTurned.l1 : Nat → List Int → List (List Int) → Int → List (List Int) → List (List Int) → Bool → Int → List Int → Int → Int → List Int → Int → Int → Option (Bool)
  | 0, _, _, _, _, _, _, _, _, _, _, _, _, _ => none
  | k + 1, x0, x1, x5, x6, x7, x8, x9, x10, x40, x41, x47, x48, x49 => if x49 < x48 then (if 0 ≤ x49 then (if x49 < (x47.length : Int) then (if 0 ≤ (rd x47 x49) then (if (rd x47 x49) < (x0.length : Int) then (if x10.length < 17592186044416 then (antecedentlaw18_ChainTurned.l1 k x0 x1 x5 x6 x7 x8 x9 (x10 ++ [rd x0 (rd x47 x49)]) x40 x41 x47 x48 (wrap64 (x49 + 1))) else (none)) else (none)) else (none)) else (none)) else (none)) else (antecedentlaw18_ChainTurned.l2 k x0 x1 x5 x6 x7 x8 x9 x10 ([] : List Int) x40 x41 (x0.length : Int) 0)
def antecedentlaw18_ChainTurned.l2 : Nat → List Int → List (List Int) → Int → List (List Int) → List (List Int) → Bool → Int → List Int → List Int → Int → Int → Int → Int → Option (Bool)
  | 0, _, _, _, _, _, _, _, _, _, _, _, _, _ => none
  | k + 1, x0, x1, x5, x6, x7, x8, x9, x10, x11, x40, x41, x62, x63 => if x63 < x62 then (if 0 ≤ x9 then (if x9 < (x1.length : Int) then ((antecedentref18_Part.f k (([x63] : List Int)) (rd_L3 x1 x9)).bind fun t466 => (if t466 = true then (antecedentlaw18_ChainTurned.l2 k x0 x1 x5 x6 x7 x8 x9 x10 x11 x40 x41 x62 (wrap64 (x63 + 1))) else (if x11.length < 17592186044416 then (antecedentlaw18_ChainTurned.l2 k x0 x1 x5 x6 x7 x8 x9 x10 (x11 ++ [x63]) x40 x41 x62 (wrap64 (x63 + 1))) else (none)))) else (none)) else (none)) else (if x8 = true then (if x6.length < 5864062014805 then (if x7.length < 5864062014805 then (antecedentlaw18_ChainTurned.l0 k x0 x1 x5 (x6 ++ [x10]) (x7 ++ [x11]) true x40 (wrap64 (x41 + 1))) else (none)) else (none)) else (if 0 ≤ x9 then (if x9 < (x1.length : Int) then (if ((rd_L3 x1 x9).length : Int) = 0 then (if x6.length < 5864062014805 then (if x7.length < 5864062014805 then (antecedentlaw18_ChainTurned.l0 k x0 x1 x5 (x6 ++ [x10]) (x7 ++ [x11]) true x40 (wrap64 (x41 + 1))) else (none)) else (none)) else (if x6.length < 5864062014805 then (if x7.length < 5864062014805 then (antecedentlaw18_ChainTurned.l0 k x0 x1 x5 (x6 ++ [x10]) (x7 ++ [x11]) (((rd_L3 x1 x9).length : Int) == (x0.length : Int)) x40 (wrap64 (x41 + 1))) else (none)) else (none))) else (none)) else (none)))
end
def antecedentlaw18_ChainTurned.f (k : Nat) (l0 : List Int) (l1 : List (List Int)) : Option (Bool) := (antecedentlaw18_awake.f k).bind fun t449 => (if t449 = true then ((antecedentlaw18_few.f k l1).bind fun t450 => (if t450 = true then (if (l0.length : Int) > 8 then (antecedentlaw18_ChainTurned.j0 k l0 l1 true) else ((antecedentref03_Perm.f k l0).bind fun t451 => (antecedentlaw18_ChainTurned.j0 k l0 l1 (!t451)))) else (antecedentlaw18_ChainTurned.j0 k l0 l1 true))) else (none))
theorem antecedentlaw18_ChainTurned.mono_l : ∀ k, (∀ y0 y1 y2, LeO (antecedentlaw18_ChainTurned.j0 k y0 y1 y2) (antecedentlaw18_ChainTurned.j0 (k + 1) y0 y1 y2)) ∧ (∀ y0 y1 y2 y3 y4 y5 y6 y7, LeO (antecedentlaw18_ChainTurned.l0 k y0 y1 y2 y3 y4 y5 y6 y7) (antecedentlaw18_ChainTurned.l0 (k + 1) y0 y1 y2 y3 y4 y5 y6 y7)) ∧ (∀ y0 y1 y2 y3 y4 y5 y6 y7 y8 y9 y10 y11 y12, LeO (antecedentlaw18_ChainTurned.l1 k y0 y1 y2 y3 y4 y5 y6 y7 y8 y9 y10 y11 y12) (antecedentlaw18_ChainTurned.l1 (k + 1) y0 y1 y2 y3 y4 y5 y6 y7 y8 y9 y10 y11 y12)) ∧ (∀ y0 y1 y2 y3 y4 y5 y6 y7 y8 y9 y10 y11 y12, LeO (antecedentlaw18_ChainTurned.l2 k y0 y1 y2 y3 y4 y5 y6 y7 y8 y9 y10 y11 y12) (antecedentlaw18_ChainTurned.l2 (k + 1) y0 y1 y2 y3 y4 y5 y6 y7 y8 y9 y10 y11 y12))
  | 0 => ⟨fun _ _ _ r h => by simp [antecedentlaw18_ChainTurned.j0] at h, fun _ _ _ _ _ _ _ _ r h => by simp [antecedentlaw18_ChainTurned.l0] at h, fun _ _ _ _ _ _ _ _ _ _ _ _ _ r h => by simp [antecedentlaw18_ChainTurned.l1] at h, fun _ _ _ _ _ _ _ _ _ _ _ _ _ r h => by simp [antecedentlaw18_ChainTurned.l2] at h⟩
  | k + 1 => by
    obtain ⟨ih0, ih1, ih2, ih3⟩ := antecedentlaw18_ChainTurned.mono_l k
    refine ⟨?_, ?_, ?_, ?_⟩
    · intro y0 y1 y2
      unfold antecedentlaw18_ChainTurned.j0
      repeat' first
      | (with_reducible exact ih0 _ _ _)
      | (with_reducible exact ih1 _ _ _ _ _ _ _ _)
      | (with_reducible exact ih2 _ _ _ _ _ _ _ _ _ _ _ _ _)
      | (with_reducible exact ih3 _ _ _ _ _ _ _ _ _ _ _ _ _)
      | (with_reducible exact antecedentlaw18_awake.mono _)
      | (with_reducible exact antecedentlaw18_few.mono _ _)
      | (with_reducible exact antecedentref03_Perm.mono _ _)
      | (with_reducible exact antecedentref18_Part.mono _ _ _)
      | (with_reducible exact chain_Least.mono _ _ _)
      | (with_reducible exact LeO.refl _)
      | (with_reducible exact LeO.none _)
      | (with_reducible refine LeO.ite ?_ ?_)
      | (with_reducible refine LeO.bind ?_ (fun _ => ?_))
      | exact ih0 _ _ _
      | exact ih1 _ _ _ _ _ _ _ _
      | exact ih2 _ _ _ _ _ _ _ _ _ _ _ _ _
      | exact ih3 _ _ _ _ _ _ _ _ _ _ _ _ _
      | exact antecedentlaw18_awake.mono _
      | exact antecedentlaw18_few.mono _ _
      | exact antecedentref03_Perm.mono _ _
      | exact antecedentref18_Part.mono _ _ _
      | exact chain_Least.mono _ _ _
      | exact LeO.none _
      | refine LeO.ite ?_ ?_
      | refine LeO.bind ?_ (fun _ => ?_)
    · intro y0 y1 y2 y3 y4 y5 y6 y7
      unfold antecedentlaw18_ChainTurned.l0
      repeat' first
      | (with_reducible exact ih0 _ _ _)
      | (with_reducible exact ih1 _ _ _ _ _ _ _ _)
      | (with_reducible exact ih2 _ _ _ _ _ _ _ _ _ _ _ _ _)
      | (with_reducible exact ih3 _ _ _ _ _ _ _ _ _ _ _ _ _)
      | (with_reducible exact antecedentlaw18_awake.mono _)
      | (with_reducible exact antecedentlaw18_few.mono _ _)
      | (with_reducible exact antecedentref03_Perm.mono _ _)
      | (with_reducible exact antecedentref18_Part.mono _ _ _)
      | (with_reducible exact chain_Least.mono _ _ _)
      | (with_reducible exact LeO.refl _)
      | (with_reducible exact LeO.none _)
      | (with_reducible refine LeO.ite ?_ ?_)
      | (with_reducible refine LeO.bind ?_ (fun _ => ?_))
      | exact ih0 _ _ _
      | exact ih1 _ _ _ _ _ _ _ _
      | exact ih2 _ _ _ _ _ _ _ _ _ _ _ _ _
      | exact ih3 _ _ _ _ _ _ _ _ _ _ _ _ _
      | exact antecedentlaw18_awake.mono _
      | exact antecedentlaw18_few.mono _ _
      | exact antecedentref03_Perm.mono _ _
      | exact antecedentref18_Part.mono _ _ _
      | exact chain_Least.mono _ _ _
      | exact LeO.none _
      | refine LeO.ite ?_ ?_
      | refine LeO.bind ?_ (fun _ => ?_)
    · intro y0 y1 y2 y3 y4 y5 y6 y7 y8 y9 y10 y11 y12
      unfold antecedentlaw18_ChainTurned.l1
      repeat' first
      | (with_reducible exact ih0 _ _ _)
      | (with_reducible exact ih1 _ _ _ _ _ _ _ _)
      | (with_reducible exact ih2 _ _ _ _ _ _ _ _ _ _ _ _ _)
      | (with_reducible exact ih3 _ _ _ _ _ _ _ _ _ _ _ _ _)
      | (with_reducible exact antecedentlaw18_awake.mono _)
      | (with_reducible exact antecedentlaw18_few.mono _ _)
      | (with_reducible exact antecedentref03_Perm.mono _ _)
      | (with_reducible exact antecedentref18_Part.mono _ _ _)
      | (with_reducible exact chain_Least.mono _ _ _)
      | (with_reducible exact LeO.refl _)
      | (with_reducible exact LeO.none _)
      | (with_reducible refine LeO.ite ?_ ?_)
      | (with_reducible refine LeO.bind ?_ (fun _ => ?_))
      | exact ih0 _ _ _
      | exact ih1 _ _ _ _ _ _ _ _
      | exact ih2 _ _ _ _ _ _ _ _ _ _ _ _ _
      | exact ih3 _ _ _ _ _ _ _ _ _ _ _ _ _
      | exact antecedentlaw18_awake.mono _
      | exact antecedentlaw18_few.mono _ _
      | exact antecedentref03_Perm.mono _ _
      | exact antecedentref18_Part.mono _ _ _
      | exact chain_Least.mono _ _ _
      | exact LeO.none _
      | refine LeO.ite ?_ ?_
      | refine LeO.bind ?_ (fun _ => ?_)
    · intro y0 y1 y2 y3 y4 y5 y6 y7 y8 y9 y10 y11 y12
      unfold antecedentlaw18_ChainTurned.l2
      repeat' first
      | (with_reducible exact ih0 _ _ _)
      | (with_reducible exact ih1 _ _ _ _ _ _ _ _)
      | (with_reducible exact ih2 _ _ _ _ _ _ _ _ _ _ _ _ _)
      | (with_reducible exact ih3 _ _ _ _ _ _ _ _ _ _ _ _ _)
      | (with_reducible exact antecedentlaw18_awake.mono _)
      | (with_reducible exact antecedentlaw18_few.mono _ _)
      | (with_reducible exact antecedentref03_Perm.mono _ _)
      | (with_reducible exact antecedentref18_Part.mono _ _ _)
      | (with_reducible exact chain_Least.mono _ _ _)
      | (with_reducible exact LeO.refl _)
      | (with_reducible exact LeO.none _)
      | (with_reducible refine LeO.ite ?_ ?_)
      | (with_reducible refine LeO.bind ?_ (fun _ => ?_))
      | exact ih0 _ _ _
      | exact ih1 _ _ _ _ _ _ _ _
      | exact ih2 _ _ _ _ _ _ _ _ _ _ _ _ _
      | exact ih3 _ _ _ _ _ _ _ _ _ _ _ _ _
      | exact antecedentlaw18_awake.mono _
      | exact antecedentlaw18_few.mono _ _
      | exact antecedentref03_Perm.mono _ _
      | exact antecedentref18_Part.mono _ _ _
      | exact chain_Least.mono _ _ _
      | exact LeO.none _
      | refine LeO.ite ?_ ?_
      | refine LeO.bind ?_ (fun _ => ?_)
theorem antecedentlaw18_ChainTurned.mono : ∀ a0 a1 k, LeO (antecedentlaw18_ChainTurned.f k a0 a1) (antecedentlaw18_ChainTurned.f (k + 1) a0 a1) := by
  intro a0 a1 k
  obtain ⟨ih0, ih1, ih2, ih3⟩ := antecedentlaw18_ChainTurned.mono_l k
  unfold antecedentlaw18_ChainTurned.f
  repeat' first
      | (with_reducible exact ih0 _ _ _)
      | (with_reducible exact ih1 _ _ _ _ _ _ _ _)
      | (with_reducible exact ih2 _ _ _ _ _ _ _ _ _ _ _ _ _)
      | (with_reducible exact ih3 _ _ _ _ _ _ _ _ _ _ _ _ _)
      | (with_reducible exact antecedentlaw18_awake.mono _)
      | (with_reducible exact antecedentlaw18_few.mono _ _)
      | (with_reducible exact antecedentref03_Perm.mono _ _)
      | (with_reducible exact antecedentref18_Part.mono _ _ _)
      | (with_reducible exact chain_Least.mono _ _ _)
      | (with_reducible exact LeO.refl _)
      | (with_reducible exact LeO.none _)
      | (with_reducible refine LeO.ite ?_ ?_)
      | (with_reducible refine LeO.bind ?_ (fun _ => ?_))
      | exact ih0 _ _ _
      | exact ih1 _ _ _ _ _ _ _ _
      | exact ih2 _ _ _ _ _ _ _ _ _ _ _ _ _
      | exact ih3 _ _ _ _ _ _ _ _ _ _ _ _ _
      | exact antecedentlaw18_awake.mono _
      | exact antecedentlaw18_few.mono _ _
      | exact antecedentref03_Perm.mono _ _
      | exact antecedentref18_Part.mono _ _ _
      | exact chain_Least.mono _ _ _
      | exact LeO.none _
      | refine LeO.ite ?_ ?_
      | refine LeO.bind ?_ (fun _ => ?_)
end Go.Proofs.Ytliocmjeglbpiaa.Ps
