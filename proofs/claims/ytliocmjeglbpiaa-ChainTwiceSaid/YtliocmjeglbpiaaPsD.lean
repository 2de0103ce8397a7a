-- printed by a program of this session out of the translation: the functions, without their walks
import Derived.Test.YtliocmjeglbpiaaPs0
import Derived.Test.YtliocmjeglbpiaaGd
namespace Go.Proofs.Ytliocmjeglbpiaa.Ps
open Go.RowKit Go.Proofs.YtliocmjeglbpiaaW.PrintWords Go.Proofs.YtliocmjeglbpiaaW.PrintLast Go.Proofs.YtliocmjeglbpiaaW.PrintMore
set_option linter.unusedVariables false
set_option linter.unusedSimpArgs false

/-! ### chain_mask -/
def chain_mask.l0 : Nat → Int → Int → List Int → Int → Int → Option (Int × Bool)
  | 0, _, _, _, _, _ => none
  | k + 1, x0, x6, x9, x10, x11 => if x11 < x10 then (if 0 ≤ x11 then (if x11 < (x9.length : Int) then (if (rd x9 x11) < 0 then (some (0, false)) else (if (rd x9 x11) ≥ x0 then (some (0, false)) else (if 0 ≤ (rd x9 x11) then (if (Go.bits .and .u64 (shr .u64 x6 (rd x9 x11)) 1) = 1 then (some (0, false)) else (chain_mask.l0 k x0 (Go.bits .or .u64 x6 (shl .u64 1 (rd x9 x11))) x9 x10 (wrap64 (x11 + 1)))) else (none)))) else (none)) else (none)) else (some (x6, true))
def chain_mask.f (k : Nat) (a0 : Int) (l1 : List Int) : Option (Int × Bool) := chain_mask.l0 k a0 0 l1 (l1.length : Int) 0
theorem chain_mask.mono_l : ∀ k, (∀ y0 y1 y2 y3 y4, LeO (chain_mask.l0 k y0 y1 y2 y3 y4) (chain_mask.l0 (k + 1) y0 y1 y2 y3 y4))
  | 0 => fun _ _ _ _ _ r h => by simp [chain_mask.l0] at h
  | k + 1 => by
    have ih0 := chain_mask.mono_l k
    · intro y0 y1 y2 y3 y4
      unfold chain_mask.l0
      repeat' first
      | (with_reducible exact ih0 _ _ _ _ _)
      | (with_reducible exact LeO.refl _)
      | (with_reducible exact LeO.none _)
      | (with_reducible refine LeO.ite ?_ ?_)
      | (with_reducible refine LeO.bind ?_ (fun _ => ?_))
      | exact ih0 _ _ _ _ _
      | exact LeO.none _
      | refine LeO.ite ?_ ?_
      | refine LeO.bind ?_ (fun _ => ?_)
theorem chain_mask.mono : ∀ a0 a1 k, LeO (chain_mask.f k a0 a1) (chain_mask.f (k + 1) a0 a1) := by
  intro a0 a1 k
  have ih0 := chain_mask.mono_l k
  unfold chain_mask.f
  repeat' first
      | (with_reducible exact ih0 _ _ _ _ _)
      | (with_reducible exact LeO.refl _)
      | (with_reducible exact LeO.none _)
      | (with_reducible refine LeO.ite ?_ ?_)
      | (with_reducible refine LeO.bind ?_ (fun _ => ?_))
      | exact ih0 _ _ _ _ _
      | exact LeO.none _
      | refine LeO.ite ?_ ?_
      | refine LeO.bind ?_ (fun _ => ?_)
/-! ### chain_masks -/
def chain_masks.l0 : Nat → Int → List Int → List (List Int) → Int → Int → Option (List Int × Bool)
  | 0, _, _, _, _, _ => none
  | k + 1, x0, x6, x11, x12, x13 => if x13 < x12 then (if 0 ≤ x13 then (if x13 < (x11.length : Int) then ((chain_mask.f k x0 (rd_L3 x11 x13)).bind fun bt108 => (if bt108.2 = true then (if bt108.1 = 0 then (chain_masks.l0 k x0 x6 x11 x12 (wrap64 (x13 + 1))) else (if x6.length < 17592186044416 then (chain_masks.l0 k x0 (x6 ++ [bt108.1]) x11 x12 (wrap64 (x13 + 1))) else (none))) else (some (([] : List Int), false)))) else (none)) else (none)) else ((slices_Sort_uint_uint.f x6).bind fun t102 => ((slices_Compact_uint_uint.f t102).bind fun t103 => ((slices_SortStableFunc_uint_uint.f t103).bind fun t106 => (some (t106, true)))))
def chain_masks.f (k : Nat) (a0 : Int) (l1 : List (List Int)) : Option (List Int × Bool) := chain_masks.l0 k a0 ([] : List Int) l1 (l1.length : Int) 0
theorem chain_masks.mono_l : ∀ k, (∀ y0 y1 y2 y3 y4, LeO (chain_masks.l0 k y0 y1 y2 y3 y4) (chain_masks.l0 (k + 1) y0 y1 y2 y3 y4))
  | 0 => fun _ _ _ _ _ r h => by simp [chain_masks.l0] at h
  | k + 1 => by
    have ih0 := chain_masks.mono_l k
    · intro y0 y1 y2 y3 y4
      unfold chain_masks.l0
      repeat' first
      | (with_reducible exact ih0 _ _ _ _ _)
      | (with_reducible exact chain_mask.mono _ _ _)
      | (with_reducible exact LeO.refl _)
      | (with_reducible exact LeO.none _)
      | (with_reducible refine LeO.ite ?_ ?_)
      | (with_reducible refine LeO.bind ?_ (fun _ => ?_))
      | exact ih0 _ _ _ _ _
      | exact chain_mask.mono _ _ _
      | exact LeO.none _
      | refine LeO.ite ?_ ?_
      | refine LeO.bind ?_ (fun _ => ?_)
theorem chain_masks.mono : ∀ a0 a1 k, LeO (chain_masks.f k a0 a1) (chain_masks.f (k + 1) a0 a1) := by
  intro a0 a1 k
  have ih0 := chain_masks.mono_l k
  unfold chain_masks.f
  repeat' first
      | (with_reducible exact ih0 _ _ _ _ _)
      | (with_reducible exact chain_mask.mono _ _ _)
      | (with_reducible exact LeO.refl _)
      | (with_reducible exact LeO.none _)
      | (with_reducible refine LeO.ite ?_ ?_)
      | (with_reducible refine LeO.bind ?_ (fun _ => ?_))
      | exact ih0 _ _ _ _ _
      | exact chain_mask.mono _ _ _
      | exact LeO.none _
      | refine LeO.ite ?_ ?_
      | refine LeO.bind ?_ (fun _ => ?_)
/-! ### slices_Index_int_int -/
def slices_Index_int_int.l0 : Nat → List Int → Int → Int → Int → Option (Int)
  | 0, _, _, _, _ => none
  | k + 1, x0, x1, x7, x8 => if x8 < x7 then (if 0 ≤ x8 then (if x8 < (x0.length : Int) then (if x1 = (rd x0 x8) then (some x8) else (slices_Index_int_int.l0 k x0 x1 x7 (wrap64 (x8 + 1)))) else (none)) else (none)) else (some (-1))
def slices_Index_int_int.f (k : Nat) (l0 : List Int) (a1 : Int) : Option (Int) := slices_Index_int_int.l0 k l0 a1 (l0.length : Int) 0
theorem slices_Index_int_int.mono_l : ∀ k, (∀ y0 y1 y2 y3, LeO (slices_Index_int_int.l0 k y0 y1 y2 y3) (slices_Index_int_int.l0 (k + 1) y0 y1 y2 y3))
  | 0 => fun _ _ _ _ r h => by simp [slices_Index_int_int.l0] at h
  | k + 1 => by
    have ih0 := slices_Index_int_int.mono_l k
    · intro y0 y1 y2 y3
      unfold slices_Index_int_int.l0
      repeat' first
      | (with_reducible exact ih0 _ _ _ _)
      | (with_reducible exact LeO.refl _)
      | (with_reducible exact LeO.none _)
      | (with_reducible refine LeO.ite ?_ ?_)
      | (with_reducible refine LeO.bind ?_ (fun _ => ?_))
      | exact ih0 _ _ _ _
      | exact LeO.none _
      | refine LeO.ite ?_ ?_
      | refine LeO.bind ?_ (fun _ => ?_)
theorem slices_Index_int_int.mono : ∀ a0 a1 k, LeO (slices_Index_int_int.f k a0 a1) (slices_Index_int_int.f (k + 1) a0 a1) := by
  intro a0 a1 k
  have ih0 := slices_Index_int_int.mono_l k
  unfold slices_Index_int_int.f
  repeat' first
      | (with_reducible exact ih0 _ _ _ _)
      | (with_reducible exact LeO.refl _)
      | (with_reducible exact LeO.none _)
      | (with_reducible refine LeO.ite ?_ ?_)
      | (with_reducible refine LeO.bind ?_ (fun _ => ?_))
      | exact ih0 _ _ _ _
      | exact LeO.none _
      | refine LeO.ite ?_ ?_
      | refine LeO.bind ?_ (fun _ => ?_)
/-! ### slices_Contains_int_int -/
def slices_Contains_int_int.f (k : Nat) (l0 : List Int) (a1 : Int) : Option (Bool) := (slices_Index_int_int.f k l0 a1).bind fun t114 => (some (decide (t114 ≥ 0)))
theorem slices_Contains_int_int.mono : ∀ a0 a1 k, LeO (slices_Contains_int_int.f k a0 a1) (slices_Contains_int_int.f (k + 1) a0 a1) := by
  intro a0 a1 k
  unfold slices_Contains_int_int.f
  repeat' first
      | (with_reducible exact slices_Index_int_int.mono _ _ _)
      | (with_reducible exact LeO.refl _)
      | (with_reducible exact LeO.none _)
      | (with_reducible refine LeO.ite ?_ ?_)
      | (with_reducible refine LeO.bind ?_ (fun _ => ?_))
      | exact slices_Index_int_int.mono _ _ _
      | exact LeO.none _
      | refine LeO.ite ?_ ?_
      | refine LeO.bind ?_ (fun _ => ?_)
/-! ### slices_Reverse_uint_uint -/
def slices_Reverse_uint_uint.l0 : Nat → List Int → Int → Int → Option (List Int)
  | 0, _, _, _ => none
  | k + 1, x0, x2, x3 => if x2 < x3 then (if 0 ≤ x3 then (if x3 < (x0.length : Int) then (if 0 ≤ x2 then (if x2 < (x0.length : Int) then (slices_Reverse_uint_uint.l0 k ((x0.set (x2 : Int).toNat (rd x0 x3)).set (x3 : Int).toNat (rd x0 x2)) (wrap64 (x2 + 1)) (wrap64 (x3 - 1))) else (none)) else (none)) else (none)) else (none)) else (some x0)
def slices_Reverse_uint_uint.f (k : Nat) (l0 : List Int) : Option (List Int) := slices_Reverse_uint_uint.l0 k l0 0 (wrap64 ((l0.length : Int) - 1))
theorem slices_Reverse_uint_uint.mono_l : ∀ k, (∀ y0 y1 y2, LeO (slices_Reverse_uint_uint.l0 k y0 y1 y2) (slices_Reverse_uint_uint.l0 (k + 1) y0 y1 y2))
  | 0 => fun _ _ _ r h => by simp [slices_Reverse_uint_uint.l0] at h
  | k + 1 => by
    have ih0 := slices_Reverse_uint_uint.mono_l k
    · intro y0 y1 y2
      unfold slices_Reverse_uint_uint.l0
      repeat' first
      | (with_reducible exact ih0 _ _ _)
      | (with_reducible exact LeO.refl _)
      | (with_reducible exact LeO.none _)
      | (with_reducible refine LeO.ite ?_ ?_)
      | (with_reducible refine LeO.bind ?_ (fun _ => ?_))
      | exact ih0 _ _ _
      | exact LeO.none _
      | refine LeO.ite ?_ ?_
      | refine LeO.bind ?_ (fun _ => ?_)
theorem slices_Reverse_uint_uint.mono : ∀ a0 k, LeO (slices_Reverse_uint_uint.f k a0) (slices_Reverse_uint_uint.f (k + 1) a0) := by
  intro a0 k
  have ih0 := slices_Reverse_uint_uint.mono_l k
  unfold slices_Reverse_uint_uint.f
  repeat' first
      | (with_reducible exact ih0 _ _ _)
      | (with_reducible exact LeO.refl _)
      | (with_reducible exact LeO.none _)
      | (with_reducible refine LeO.ite ?_ ?_)
      | (with_reducible refine LeO.bind ?_ (fun _ => ?_))
      | exact ih0 _ _ _
      | exact LeO.none _
      | refine LeO.ite ?_ ?_
      | refine LeO.bind ?_ (fun _ => ?_)
/-! ### chain_perm -/
mutual
def chain_perm.l0 : Nat → Int → List Int → Int → List Int → Int → Int → Option (List Int)
  | 0, _, _, _, _, _, _ => none
  | k + 1, x0, x5, x6, x16, x17, x18 => if x18 < x17 then (if 0 ≤ x18 then (if x18 < (x16.length : Int) then (chain_perm.l1 k x0 x5 x6 (rd x16 x18) x16 x17 x18 x0 0) else (none)) else (none)) else (some x5)
def chain_perm.l1 : Nat → Int → List Int → Int → Int → List Int → Int → Int → Int → Int → Option (List Int)
  | 0, _, _, _, _, _, _, _, _, _ => none
  | k + 1, x0, x5, x6, x8, x16, x17, x18, x22, x23 => if x23 < x22 then (if 0 ≤ x23 then (if (Go.bits .and .u64 (shr .u64 (Go.bits .andNot .u64 x8 x6) x23) 1) = 1 then ((some (([x23] : List Int) : List Int)).bind fun y129 => (if x5.length + y129.length < 17592186044416 then (chain_perm.l1 k x0 (x5 ++ y129) x6 x8 x16 x17 x18 x22 (wrap64 (x23 + 1))) else (none))) else (chain_perm.l1 k x0 x5 x6 x8 x16 x17 x18 x22 (wrap64 (x23 + 1)))) else (none)) else (chain_perm.l0 k x0 x5 (Go.bits .or .u64 x6 x8) x16 x17 (wrap64 (x18 + 1)))
end
def chain_perm.f (k : Nat) (a0 : Int) (l1 : List Int) : Option (List Int) := (slices_Clone_uint_uint.f l1).bind fun t119 => (if 0 ≤ a0 then ((some (([IntKind.u64.wrap ((shl .u64 1 a0) - 1)] : List Int) : List Int)).bind fun y122 => (if t119.length + y122.length < 17592186044416 then ((some (t119 ++ y122 : List Int)).bind fun y125 => (chain_perm.l0 k a0 ([] : List Int) 0 y125 (y125.length : Int) 0)) else (none))) else (none))
theorem chain_perm.mono_l : ∀ k, (∀ y0 y1 y2 y3 y4 y5, LeO (chain_perm.l0 k y0 y1 y2 y3 y4 y5) (chain_perm.l0 (k + 1) y0 y1 y2 y3 y4 y5)) ∧ (∀ y0 y1 y2 y3 y4 y5 y6 y7 y8, LeO (chain_perm.l1 k y0 y1 y2 y3 y4 y5 y6 y7 y8) (chain_perm.l1 (k + 1) y0 y1 y2 y3 y4 y5 y6 y7 y8))
  | 0 => ⟨fun _ _ _ _ _ _ r h => by simp [chain_perm.l0] at h, fun _ _ _ _ _ _ _ _ _ r h => by simp [chain_perm.l1] at h⟩
  | k + 1 => by
    obtain ⟨ih0, ih1⟩ := chain_perm.mono_l k
    refine ⟨?_, ?_⟩
    · intro y0 y1 y2 y3 y4 y5
      unfold chain_perm.l0
      repeat' first
      | (with_reducible exact ih0 _ _ _ _ _ _)
      | (with_reducible exact ih1 _ _ _ _ _ _ _ _ _)
      | (with_reducible exact LeO.refl _)
      | (with_reducible exact LeO.none _)
      | (with_reducible refine LeO.ite ?_ ?_)
      | (with_reducible refine LeO.bind ?_ (fun _ => ?_))
      | exact ih0 _ _ _ _ _ _
      | exact ih1 _ _ _ _ _ _ _ _ _
      | exact LeO.none _
      | refine LeO.ite ?_ ?_
      | refine LeO.bind ?_ (fun _ => ?_)
    · intro y0 y1 y2 y3 y4 y5 y6 y7 y8
      unfold chain_perm.l1
      repeat' first
      | (with_reducible exact ih0 _ _ _ _ _ _)
      | (with_reducible exact ih1 _ _ _ _ _ _ _ _ _)
      | (with_reducible exact LeO.refl _)
      | (with_reducible exact LeO.none _)
      | (with_reducible refine LeO.ite ?_ ?_)
      | (with_reducible refine LeO.bind ?_ (fun _ => ?_))
      | exact ih0 _ _ _ _ _ _
      | exact ih1 _ _ _ _ _ _ _ _ _
      | exact LeO.none _
      | refine LeO.ite ?_ ?_
      | refine LeO.bind ?_ (fun _ => ?_)
theorem chain_perm.mono : ∀ a0 a1 k, LeO (chain_perm.f k a0 a1) (chain_perm.f (k + 1) a0 a1) := by
  intro a0 a1 k
  obtain ⟨ih0, ih1⟩ := chain_perm.mono_l k
  unfold chain_perm.f
  repeat' first
      | (with_reducible exact ih0 _ _ _ _ _ _)
      | (with_reducible exact ih1 _ _ _ _ _ _ _ _ _)
      | (with_reducible exact LeO.refl _)
      | (with_reducible exact LeO.none _)
      | (with_reducible refine LeO.ite ?_ ?_)
      | (with_reducible refine LeO.bind ?_ (fun _ => ?_))
      | exact ih0 _ _ _ _ _ _
      | exact ih1 _ _ _ _ _ _ _ _ _
      | exact LeO.none _
      | refine LeO.ite ?_ ?_
      | refine LeO.bind ?_ (fun _ => ?_)
/-! ### chain_Cover -/
mutual
def chain_Cover.j0 : Nat → Int → List (List Int) → Bool → Option ((List (List Int)) × Int)
  | 0, _, _, _ => none
  | k + 1, x0, x1, x18 => if x18 = true then (some (([] : List (List Int)), 1)) else ((chain_masks.f k x0 x1).bind fun bt135 => (if bt135.2 = true then ((chain_match.f bt135.1).bind fun t139 => (chain_Cover.l0 k x0 bt135.1 t139 ([] : List (List Int)) (bt135.1.length : Int) 0)) else (some (([] : List (List Int)), 1))))
def chain_Cover.l0 : Nat → Int → List Int → List Int → List (List Int) → Int → Int → Option ((List (List Int)) × Int)
  | 0, _, _, _, _, _, _ => none
  | k + 1, x0, x6, x8, x9, x30, x31 => if x31 < x30 then ((slices_Contains_int_int.f k x8 x31).bind fun t142 => (if t142 = true then (chain_Cover.l0 k x0 x6 x8 x9 x30 (wrap64 (x31 + 1))) else (chain_Cover.l1 k x0 x6 x8 x9 ([] : List Int) x31 x30 x31))) else (some (x9, 0))
def chain_Cover.l1 : Nat → Int → List Int → List Int → List (List Int) → List Int → Int → Int → Int → Option ((List (List Int)) × Int)
  | 0, _, _, _, _, _, _, _, _ => none
  | k + 1, x0, x6, x8, x9, x11, x12, x30, x31 => if x12 = (-1) then ((slices_Reverse_uint_uint.f k x11).bind fun t143 => ((chain_perm.f k x0 t143).bind fun t144 => (if x9.length < 5864062014805 then (chain_Cover.l0 k x0 x6 x8 (x9 ++ [t144]) x30 (wrap64 (x31 + 1))) else (none)))) else (if 0 ≤ x12 then (if x12 < (x6.length : Int) then (if x11.length < 17592186044416 then (if x12 < (x8.length : Int) then (chain_Cover.l1 k x0 x6 x8 x9 (x11 ++ [rd x6 x12]) (rd x8 x12) x30 x31) else (none)) else (none)) else (none)) else (none))
end
def chain_Cover.f (k : Nat) (a0 : Int) (l1 : List (List Int)) : Option ((List (List Int)) × Int) := if a0 < 0 then (chain_Cover.j0 k a0 l1 true) else (chain_Cover.j0 k a0 l1 (decide (a0 > 8)))
theorem chain_Cover.mono_l : ∀ k, (∀ y0 y1 y2, LeO (chain_Cover.j0 k y0 y1 y2) (chain_Cover.j0 (k + 1) y0 y1 y2)) ∧ (∀ y0 y1 y2 y3 y4 y5, LeO (chain_Cover.l0 k y0 y1 y2 y3 y4 y5) (chain_Cover.l0 (k + 1) y0 y1 y2 y3 y4 y5)) ∧ (∀ y0 y1 y2 y3 y4 y5 y6 y7, LeO (chain_Cover.l1 k y0 y1 y2 y3 y4 y5 y6 y7) (chain_Cover.l1 (k + 1) y0 y1 y2 y3 y4 y5 y6 y7))
  | 0 => ⟨fun _ _ _ r h => by simp [chain_Cover.j0] at h, fun _ _ _ _ _ _ r h => by simp [chain_Cover.l0] at h, fun _ _ _ _ _ _ _ _ r h => by simp [chain_Cover.l1] at h⟩
  | k + 1 => by
    obtain ⟨ih0, ih1, ih2⟩ := chain_Cover.mono_l k
    refine ⟨?_, ?_, ?_⟩
    · intro y0 y1 y2
      unfold chain_Cover.j0
      repeat' first
      | (with_reducible exact ih0 _ _ _)
      | (with_reducible exact ih1 _ _ _ _ _ _)
      | (with_reducible exact ih2 _ _ _ _ _ _ _ _)
      | (with_reducible exact chain_masks.mono _ _ _)
      | (with_reducible exact chain_perm.mono _ _ _)
      | (with_reducible exact slices_Contains_int_int.mono _ _ _)
      | (with_reducible exact slices_Reverse_uint_uint.mono _ _)
      | (with_reducible exact LeO.refl _)
      | (with_reducible exact LeO.none _)
      | (with_reducible refine LeO.ite ?_ ?_)
      | (with_reducible refine LeO.bind ?_ (fun _ => ?_))
      | exact ih0 _ _ _
      | exact ih1 _ _ _ _ _ _
      | exact ih2 _ _ _ _ _ _ _ _
      | exact chain_masks.mono _ _ _
      | exact chain_perm.mono _ _ _
      | exact slices_Contains_int_int.mono _ _ _
      | exact slices_Reverse_uint_uint.mono _ _
      | exact LeO.none _
      | refine LeO.ite ?_ ?_
      | refine LeO.bind ?_ (fun _ => ?_)
    · intro y0 y1 y2 y3 y4 y5
      unfold chain_Cover.l0
      repeat' first
      | (with_reducible exact ih0 _ _ _)
      | (with_reducible exact ih1 _ _ _ _ _ _)
      | (with_reducible exact ih2 _ _ _ _ _ _ _ _)
      | (with_reducible exact chain_masks.mono _ _ _)
      | (with_reducible exact chain_perm.mono _ _ _)
      | (with_reducible exact slices_Contains_int_int.mono _ _ _)
      | (with_reducible exact slices_Reverse_uint_uint.mono _ _)
      | (with_reducible exact LeO.refl _)
      | (with_reducible exact LeO.none _)
      | (with_reducible refine LeO.ite ?_ ?_)
      | (with_reducible refine LeO.bind ?_ (fun _ => ?_))
      | exact ih0 _ _ _
      | exact ih1 _ _ _ _ _ _
      | exact ih2 _ _ _ _ _ _ _ _
      | exact chain_masks.mono _ _ _
      | exact chain_perm.mono _ _ _
      | exact slices_Contains_int_int.mono _ _ _
      | exact slices_Reverse_uint_uint.mono _ _
      | exact LeO.none _
      | refine LeO.ite ?_ ?_
      | refine LeO.bind ?_ (fun _ => ?_)
    · intro y0 y1 y2 y3 y4 y5 y6 y7
      unfold chain_Cover.l1
      repeat' first
      | (with_reducible exact ih0 _ _ _)
      | (with_reducible exact ih1 _ _ _ _ _ _)
      | (with_reducible exact ih2 _ _ _ _ _ _ _ _)
      | (with_reducible exact chain_masks.mono _ _ _)
      | (with_reducible exact chain_perm.mono _ _ _)
      | (with_reducible exact slices_Contains_int_int.mono _ _ _)
      | (with_reducible exact slices_Reverse_uint_uint.mono _ _)
      | (with_reducible exact LeO.refl _)
      | (with_reducible exact LeO.none _)
      | (with_reducible refine LeO.ite ?_ ?_)
      | (with_reducible refine LeO.bind ?_ (fun _ => ?_))
      | exact ih0 _ _ _
      | exact ih1 _ _ _ _ _ _
      | exact ih2 _ _ _ _ _ _ _ _
      | exact chain_masks.mono _ _ _
      | exact chain_perm.mono _ _ _
      | exact slices_Contains_int_int.mono _ _ _
      | exact slices_Reverse_uint_uint.mono _ _
      | exact LeO.none _
      | refine LeO.ite ?_ ?_
      | refine LeO.bind ?_ (fun _ => ?_)
theorem chain_Cover.mono : ∀ a0 a1 k, LeO (chain_Cover.f k a0 a1) (chain_Cover.f (k + 1) a0 a1) := by
  intro a0 a1 k
  obtain ⟨ih0, ih1, ih2⟩ := chain_Cover.mono_l k
  unfold chain_Cover.f
  repeat' first
      | (with_reducible exact ih0 _ _ _)
      | (with_reducible exact ih1 _ _ _ _ _ _)
      | (with_reducible exact ih2 _ _ _ _ _ _ _ _)
      | (with_reducible exact chain_masks.mono _ _ _)
      | (with_reducible exact chain_perm.mono _ _ _)
      | (with_reducible exact slices_Contains_int_int.mono _ _ _)
      | (with_reducible exact slices_Reverse_uint_uint.mono _ _)
      | (with_reducible exact LeO.refl _)
      | (with_reducible exact LeO.none _)
      | (with_reducible refine LeO.ite ?_ ?_)
      | (with_reducible refine LeO.bind ?_ (fun _ => ?_))
      | exact ih0 _ _ _
      | exact ih1 _ _ _ _ _ _
      | exact ih2 _ _ _ _ _ _ _ _
      | exact chain_masks.mono _ _ _
      | exact chain_perm.mono _ _ _
      | exact slices_Contains_int_int.mono _ _ _
      | exact slices_Reverse_uint_uint.mono _ _
      | exact LeO.none _
      | refine LeO.ite ?_ ?_
      | refine LeO.bind ?_ (fun _ => ?_)
/-! ### chain_Least -/
def chain_Least.f (k : Nat) (a0 : Int) (l1 : List (List Int)) : Option (Int) := (chain_Cover.f k a0 l1).bind fun bt155 => (if bt155.2 = 0 then (some (bt155.1.length : Int)) else (some (-1)))
theorem chain_Least.mono : ∀ a0 a1 k, LeO (chain_Least.f k a0 a1) (chain_Least.f (k + 1) a0 a1) := by
  intro a0 a1 k
  unfold chain_Least.f
  repeat' first
      | (with_reducible exact chain_Cover.mono _ _ _)
      | (with_reducible exact LeO.refl _)
      | (with_reducible exact LeO.none _)
      | (with_reducible refine LeO.ite ?_ ?_)
      | (with_reducible refine LeO.bind ?_ (fun _ => ?_))
      | exact chain_Cover.mono _ _ _
      | exact LeO.none _
      | refine LeO.ite ?_ ?_
      | refine LeO.bind ?_ (fun _ => ?_)
/-! ### tuple_Perm -/
def tuple_Perm.l0 : Nat → List Int → List Bool → List Int → Int → Int → Option (Bool)
  | 0, _, _, _, _, _ => none
  | k + 1, x0, x3, x9, x10, x11 => if x11 < x10 then (if 0 ≤ x11 then (if x11 < (x9.length : Int) then (if (rd x9 x11) < 0 then (some false) else (if (rd x9 x11) ≥ (x0.length : Int) then (some false) else (if 0 ≤ (rd x9 x11) then (if (rd x9 x11) < (x3.length : Int) then (if rdOf false x3 (rd x9 x11) = true then (some false) else (tuple_Perm.l0 k x0 (x3.set ((rd x9 x11) : Int).toNat true) x9 x10 (wrap64 (x11 + 1)))) else (none)) else (none)))) else (none)) else (none)) else (some true)
def tuple_Perm.f (k : Nat) (l0 : List Int) : Option (Bool) := if 0 ≤ (l0.length : Int) then (if ((l0.length : Int) : Int).toNat ≤ 281474976710656 then (tuple_Perm.l0 k l0 (List.replicate ((l0.length : Int) : Int).toNat false) l0 (l0.length : Int) 0) else (none)) else (none)
theorem tuple_Perm.mono_l : ∀ k, (∀ y0 y1 y2 y3 y4, LeO (tuple_Perm.l0 k y0 y1 y2 y3 y4) (tuple_Perm.l0 (k + 1) y0 y1 y2 y3 y4))
  | 0 => fun _ _ _ _ _ r h => by simp [tuple_Perm.l0] at h
  | k + 1 => by
    have ih0 := tuple_Perm.mono_l k
    · intro y0 y1 y2 y3 y4
      unfold tuple_Perm.l0
      repeat' first
      | (with_reducible exact ih0 _ _ _ _ _)
      | (with_reducible exact LeO.refl _)
      | (with_reducible exact LeO.none _)
      | (with_reducible refine LeO.ite ?_ ?_)
      | (with_reducible refine LeO.bind ?_ (fun _ => ?_))
      | exact ih0 _ _ _ _ _
      | exact LeO.none _
      | refine LeO.ite ?_ ?_
      | refine LeO.bind ?_ (fun _ => ?_)
theorem tuple_Perm.mono : ∀ a0 k, LeO (tuple_Perm.f k a0) (tuple_Perm.f (k + 1) a0) := by
  intro a0 k
  have ih0 := tuple_Perm.mono_l k
  unfold tuple_Perm.f
  repeat' first
      | (with_reducible exact ih0 _ _ _ _ _)
      | (with_reducible exact LeO.refl _)
      | (with_reducible exact LeO.none _)
      | (with_reducible refine LeO.ite ?_ ?_)
      | (with_reducible refine LeO.bind ?_ (fun _ => ?_))
      | exact ih0 _ _ _ _ _
      | exact LeO.none _
      | refine LeO.ite ?_ ?_
      | refine LeO.bind ?_ (fun _ => ?_)
/-! ### chain_Fits -/
def chain_Fits.f (k : Nat) (l0 : List Int) (l1 : List Int) : Option (Bool) := (chain_mask.f k (l0.length : Int) l1).bind fun bt165 => (if bt165.2 = true then ((tuple_Perm.f k l0).bind fun t167 => (if t167 = true then (if 0 ≤ (l1.length : Int) then (if (l1.length : Int) ≤ (l0.length : Int) then ((chain_mask.f k (l0.length : Int) (l0.take ((l1.length : Int) : Int).toNat)).bind fun bt169 => (some (bt165.1 == bt169.1))) else (none)) else (none)) else (some false))) else (some false))
theorem chain_Fits.mono : ∀ a0 a1 k, LeO (chain_Fits.f k a0 a1) (chain_Fits.f (k + 1) a0 a1) := by
  intro a0 a1 k
  unfold chain_Fits.f
  repeat' first
      | (with_reducible exact chain_mask.mono _ _ _)
      | (with_reducible exact tuple_Perm.mono _ _)
      | (with_reducible exact LeO.refl _)
      | (with_reducible exact LeO.none _)
      | (with_reducible refine LeO.ite ?_ ?_)
      | (with_reducible refine LeO.bind ?_ (fun _ => ?_))
      | exact chain_mask.mono _ _ _
      | exact tuple_Perm.mono _ _
      | exact LeO.none _
      | refine LeO.ite ?_ ?_
      | refine LeO.bind ?_ (fun _ => ?_)
/-! ### antecedentlaw18_awake -/
def antecedentlaw18_awake.f (k : Nat)  : Option (Bool) := (some (([(([0] : List Int)), (([1, 0] : List Int)), (([1] : List Int))] : List (List Int)) : List (List Int))).bind fun y180 => ((chain_Cover.f k 2 y180).bind fun bt183 => (if bt183.2 = 0 then (if (bt183.1.length : Int) = 2 then ((chain_Least.f k 2 y180).bind fun t187 => (if t187 = 2 then (if 1 < (y180.length : Int) then ((chain_Fits.f k (([0, 1] : List Int)) (rd_L3 y180 1)).bind fun t192 => (if t192 = true then (if 2 < (y180.length : Int) then ((chain_Fits.f k (([0, 1] : List Int)) (rd_L3 y180 2)).bind fun t197 => (some (!t197))) else (none)) else (none))) else (none)) else (none))) else (none)) else (none)))
theorem antecedentlaw18_awake.mono : ∀ k, LeO (antecedentlaw18_awake.f k ) (antecedentlaw18_awake.f (k + 1) ) := by
  intro  k
  unfold antecedentlaw18_awake.f
  repeat' first
      | (with_reducible exact chain_Cover.mono _ _ _)
      | (with_reducible exact chain_Fits.mono _ _ _)
      | (with_reducible exact chain_Least.mono _ _ _)
      | (with_reducible exact LeO.refl _)
      | (with_reducible exact LeO.none _)
      | (with_reducible refine LeO.ite ?_ ?_)
      | (with_reducible refine LeO.bind ?_ (fun _ => ?_))
      | exact chain_Cover.mono _ _ _
      | exact chain_Fits.mono _ _ _
      | exact chain_Least.mono _ _ _
      | exact LeO.none _
      | refine LeO.ite ?_ ?_
      | refine LeO.bind ?_ (fun _ => ?_)
/-! ### antecedentlaw18_few -/
def antecedentlaw18_few.l0 : Nat → List (List Int) → Int → Int → Option (Bool)
  | 0, _, _, _ => none
  | k + 1, x0, x5, x6 => if x6 < x5 then (if 0 ≤ x6 then (if x6 < (x0.length : Int) then (if ((rd_L3 x0 x6).length : Int) > 10 then (some false) else (antecedentlaw18_few.l0 k x0 x5 (wrap64 (x6 + 1)))) else (none)) else (none)) else (some (decide ((x0.length : Int) ≤ 10)))
def antecedentlaw18_few.f (k : Nat) (l0 : List (List Int)) : Option (Bool) := antecedentlaw18_few.l0 k l0 (l0.length : Int) 0
theorem antecedentlaw18_few.mono_l : ∀ k, (∀ y0 y1 y2, LeO (antecedentlaw18_few.l0 k y0 y1 y2) (antecedentlaw18_few.l0 (k + 1) y0 y1 y2))
  | 0 => fun _ _ _ r h => by simp [antecedentlaw18_few.l0] at h
  | k + 1 => by
    have ih0 := antecedentlaw18_few.mono_l k
    · intro y0 y1 y2
      unfold antecedentlaw18_few.l0
      repeat' first
      | (with_reducible exact ih0 _ _ _)
      | (with_reducible exact LeO.refl _)
      | (with_reducible exact LeO.none _)
      | (with_reducible refine LeO.ite ?_ ?_)
      | (with_reducible refine LeO.bind ?_ (fun _ => ?_))
      | exact ih0 _ _ _
      | exact LeO.none _
      | refine LeO.ite ?_ ?_
      | refine LeO.bind ?_ (fun _ => ?_)
theorem antecedentlaw18_few.mono : ∀ a0 k, LeO (antecedentlaw18_few.f k a0) (antecedentlaw18_few.f (k + 1) a0) := by
  intro a0 k
  have ih0 := antecedentlaw18_few.mono_l k
  unfold antecedentlaw18_few.f
  repeat' first
      | (with_reducible exact ih0 _ _ _)
      | (with_reducible exact LeO.refl _)
      | (with_reducible exact LeO.none _)
      | (with_reducible refine LeO.ite ?_ ?_)
      | (with_reducible refine LeO.bind ?_ (fun _ => ?_))
      | exact ih0 _ _ _
      | exact LeO.none _
      | refine LeO.ite ?_ ?_
      | refine LeO.bind ?_ (fun _ => ?_)
/-! ### antecedentref18_Set -/
mutual
def antecedentref18_Set.l0 : Nat → Int → List Int → Int → Int → Option (Bool)
  | 0, _, _, _, _ => none
  | k + 1, x0, x1, x8, x9 => if x9 < x8 then (if 0 ≤ x9 then (if x9 < (x1.length : Int) then (if (rd x1 x9) < 0 then (antecedentref18_Set.j1 k x0 x1 x9 x8 x9 true) else (antecedentref18_Set.j1 k x0 x1 x9 x8 x9 (decide ((rd x1 x9) ≥ x0)))) else (none)) else (none)) else (some true)
def antecedentref18_Set.j1 : Nat → Int → List Int → Int → Int → Int → Bool → Option (Bool)
  | 0, _, _, _, _, _, _ => none
  | k + 1, x0, x1, x5, x8, x9, x24 => if x24 = true then (some false) else (antecedentref18_Set.l1 k x0 x1 x5 0 x8 x9)
def antecedentref18_Set.l1 : Nat → Int → List Int → Int → Int → Int → Int → Option (Bool)
  | 0, _, _, _, _, _, _ => none
  | k + 1, x0, x1, x5, x6, x8, x9 => if x6 < x5 then (if 0 ≤ x6 then (if x6 < (x1.length : Int) then (if 0 ≤ x5 then (if x5 < (x1.length : Int) then (if (rd x1 x6) = (rd x1 x5) then (some false) else (antecedentref18_Set.l1 k x0 x1 x5 (wrap64 (x6 + 1)) x8 x9)) else (none)) else (none)) else (none)) else (none)) else (antecedentref18_Set.l0 k x0 x1 x8 (wrap64 (x9 + 1)))
end
def antecedentref18_Set.f (k : Nat) (a0 : Int) (l1 : List Int) : Option (Bool) := antecedentref18_Set.l0 k a0 l1 (l1.length : Int) 0
theorem antecedentref18_Set.mono_l : ∀ k, (∀ y0 y1 y2 y3, LeO (antecedentref18_Set.l0 k y0 y1 y2 y3) (antecedentref18_Set.l0 (k + 1) y0 y1 y2 y3)) ∧ (∀ y0 y1 y2 y3 y4 y5, LeO (antecedentref18_Set.j1 k y0 y1 y2 y3 y4 y5) (antecedentref18_Set.j1 (k + 1) y0 y1 y2 y3 y4 y5)) ∧ (∀ y0 y1 y2 y3 y4 y5, LeO (antecedentref18_Set.l1 k y0 y1 y2 y3 y4 y5) (antecedentref18_Set.l1 (k + 1) y0 y1 y2 y3 y4 y5))
  | 0 => ⟨fun _ _ _ _ r h => by simp [antecedentref18_Set.l0] at h, fun _ _ _ _ _ _ r h => by simp [antecedentref18_Set.j1] at h, fun _ _ _ _ _ _ r h => by simp [antecedentref18_Set.l1] at h⟩
  | k + 1 => by
    obtain ⟨ih0, ih1, ih2⟩ := antecedentref18_Set.mono_l k
    refine ⟨?_, ?_, ?_⟩
    · intro y0 y1 y2 y3
      unfold antecedentref18_Set.l0
      repeat' first
      | (with_reducible exact ih0 _ _ _ _)
      | (with_reducible exact ih1 _ _ _ _ _ _)
      | (with_reducible exact ih2 _ _ _ _ _ _)
      | (with_reducible exact LeO.refl _)
      | (with_reducible exact LeO.none _)
      | (with_reducible refine LeO.ite ?_ ?_)
      | (with_reducible refine LeO.bind ?_ (fun _ => ?_))
      | exact ih0 _ _ _ _
      | exact ih1 _ _ _ _ _ _
      | exact ih2 _ _ _ _ _ _
      | exact LeO.none _
      | refine LeO.ite ?_ ?_
      | refine LeO.bind ?_ (fun _ => ?_)
    · intro y0 y1 y2 y3 y4 y5
      unfold antecedentref18_Set.j1
      repeat' first
      | (with_reducible exact ih0 _ _ _ _)
      | (with_reducible exact ih1 _ _ _ _ _ _)
      | (with_reducible exact ih2 _ _ _ _ _ _)
      | (with_reducible exact LeO.refl _)
      | (with_reducible exact LeO.none _)
      | (with_reducible refine LeO.ite ?_ ?_)
      | (with_reducible refine LeO.bind ?_ (fun _ => ?_))
      | exact ih0 _ _ _ _
      | exact ih1 _ _ _ _ _ _
      | exact ih2 _ _ _ _ _ _
      | exact LeO.none _
      | refine LeO.ite ?_ ?_
      | refine LeO.bind ?_ (fun _ => ?_)
    · intro y0 y1 y2 y3 y4 y5
      unfold antecedentref18_Set.l1
      repeat' first
      | (with_reducible exact ih0 _ _ _ _)
      | (with_reducible exact ih1 _ _ _ _ _ _)
      | (with_reducible exact ih2 _ _ _ _ _ _)
      | (with_reducible exact LeO.refl _)
      | (with_reducible exact LeO.none _)
      | (with_reducible refine LeO.ite ?_ ?_)
      | (with_reducible refine LeO.bind ?_ (fun _ => ?_))
      | exact ih0 _ _ _ _
      | exact ih1 _ _ _ _ _ _
      | exact ih2 _ _ _ _ _ _
      | exact LeO.none _
      | refine LeO.ite ?_ ?_
      | refine LeO.bind ?_ (fun _ => ?_)
theorem antecedentref18_Set.mono : ∀ a0 a1 k, LeO (antecedentref18_Set.f k a0 a1) (antecedentref18_Set.f (k + 1) a0 a1) := by
  intro a0 a1 k
  obtain ⟨ih0, ih1, ih2⟩ := antecedentref18_Set.mono_l k
  unfold antecedentref18_Set.f
  repeat' first
      | (with_reducible exact ih0 _ _ _ _)
      | (with_reducible exact ih1 _ _ _ _ _ _)
      | (with_reducible exact ih2 _ _ _ _ _ _)
      | (with_reducible exact LeO.refl _)
      | (with_reducible exact LeO.none _)
      | (with_reducible refine LeO.ite ?_ ?_)
      | (with_reducible refine LeO.bind ?_ (fun _ => ?_))
      | exact ih0 _ _ _ _
      | exact ih1 _ _ _ _ _ _
      | exact ih2 _ _ _ _ _ _
      | exact LeO.none _
      | refine LeO.ite ?_ ?_
      | refine LeO.bind ?_ (fun _ => ?_)
/-! ### antecedentref18_has -/
def antecedentref18_has.l0 : Nat → List Int → Int → Int → Int → Option (Bool)
  | 0, _, _, _, _ => none
  | k + 1, x0, x1, x7, x8 => if x8 < x7 then (if 0 ≤ x8 then (if x8 < (x0.length : Int) then (if (rd x0 x8) = x1 then (some true) else (antecedentref18_has.l0 k x0 x1 x7 (wrap64 (x8 + 1)))) else (none)) else (none)) else (some false)
def antecedentref18_has.f (k : Nat) (l0 : List Int) (a1 : Int) : Option (Bool) := antecedentref18_has.l0 k l0 a1 (l0.length : Int) 0
theorem antecedentref18_has.mono_l : ∀ k, (∀ y0 y1 y2 y3, LeO (antecedentref18_has.l0 k y0 y1 y2 y3) (antecedentref18_has.l0 (k + 1) y0 y1 y2 y3))
  | 0 => fun _ _ _ _ r h => by simp [antecedentref18_has.l0] at h
  | k + 1 => by
    have ih0 := antecedentref18_has.mono_l k
    · intro y0 y1 y2 y3
      unfold antecedentref18_has.l0
      repeat' first
      | (with_reducible exact ih0 _ _ _ _)
      | (with_reducible exact LeO.refl _)
      | (with_reducible exact LeO.none _)
      | (with_reducible refine LeO.ite ?_ ?_)
      | (with_reducible refine LeO.bind ?_ (fun _ => ?_))
      | exact ih0 _ _ _ _
      | exact LeO.none _
      | refine LeO.ite ?_ ?_
      | refine LeO.bind ?_ (fun _ => ?_)
theorem antecedentref18_has.mono : ∀ a0 a1 k, LeO (antecedentref18_has.f k a0 a1) (antecedentref18_has.f (k + 1) a0 a1) := by
  intro a0 a1 k
  have ih0 := antecedentref18_has.mono_l k
  unfold antecedentref18_has.f
  repeat' first
      | (with_reducible exact ih0 _ _ _ _)
      | (with_reducible exact LeO.refl _)
      | (with_reducible exact LeO.none _)
      | (with_reducible refine LeO.ite ?_ ?_)
      | (with_reducible refine LeO.bind ?_ (fun _ => ?_))
      | exact ih0 _ _ _ _
      | exact LeO.none _
      | refine LeO.ite ?_ ?_
      | refine LeO.bind ?_ (fun _ => ?_)
/-! ### antecedentref18_Part -/
def antecedentref18_Part.l0 : Nat → List Int → List Int → Int → Int → Option (Bool)
  | 0, _, _, _, _ => none
  | k + 1, x0, x1, x7, x8 => if x8 < x7 then (if 0 ≤ x8 then (if x8 < (x0.length : Int) then ((antecedentref18_has.f k x1 (rd x0 x8)).bind fun t205 => (if t205 = true then (antecedentref18_Part.l0 k x0 x1 x7 (wrap64 (x8 + 1))) else (some false))) else (none)) else (none)) else (some true)
def antecedentref18_Part.f (k : Nat) (l0 : List Int) (l1 : List Int) : Option (Bool) := antecedentref18_Part.l0 k l0 l1 (l0.length : Int) 0
theorem antecedentref18_Part.mono_l : ∀ k, (∀ y0 y1 y2 y3, LeO (antecedentref18_Part.l0 k y0 y1 y2 y3) (antecedentref18_Part.l0 (k + 1) y0 y1 y2 y3))
  | 0 => fun _ _ _ _ r h => by simp [antecedentref18_Part.l0] at h
  | k + 1 => by
    have ih0 := antecedentref18_Part.mono_l k
    · intro y0 y1 y2 y3
      unfold antecedentref18_Part.l0
      repeat' first
      | (with_reducible exact ih0 _ _ _ _)
      | (with_reducible exact antecedentref18_has.mono _ _ _)
      | (with_reducible exact LeO.refl _)
      | (with_reducible exact LeO.none _)
      | (with_reducible refine LeO.ite ?_ ?_)
      | (with_reducible refine LeO.bind ?_ (fun _ => ?_))
      | exact ih0 _ _ _ _
      | exact antecedentref18_has.mono _ _ _
      | exact LeO.none _
      | refine LeO.ite ?_ ?_
      | refine LeO.bind ?_ (fun _ => ?_)
theorem antecedentref18_Part.mono : ∀ a0 a1 k, LeO (antecedentref18_Part.f k a0 a1) (antecedentref18_Part.f (k + 1) a0 a1) := by
  intro a0 a1 k
  have ih0 := antecedentref18_Part.mono_l k
  unfold antecedentref18_Part.f
  repeat' first
      | (with_reducible exact ih0 _ _ _ _)
      | (with_reducible exact antecedentref18_has.mono _ _ _)
      | (with_reducible exact LeO.refl _)
      | (with_reducible exact LeO.none _)
      | (with_reducible refine LeO.ite ?_ ?_)
      | (with_reducible refine LeO.bind ?_ (fun _ => ?_))
      | exact ih0 _ _ _ _
      | exact antecedentref18_has.mono _ _ _
      | exact LeO.none _
      | refine LeO.ite ?_ ?_
      | refine LeO.bind ?_ (fun _ => ?_)
/-! ### antecedentref18_Unlike -/
mutual
def antecedentref18_Unlike.l0 : Nat → List (List Int) → List (List Int) → Int → Int → Option ((List (List Int)))
  | 0, _, _, _, _ => none
  | k + 1, x0, x3, x8, x9 => if x9 < x8 then (if 0 ≤ x9 then (if x9 < (x0.length : Int) then (antecedentref18_Unlike.l1 k x0 x3 x9 (decide (((rd_L3 x0 x9).length : Int) > 0)) x8 x9 (x3.length : Int) 0) else (none)) else (none)) else (some x3)
def antecedentref18_Unlike.l1 : Nat → List (List Int) → List (List Int) → Int → Bool → Int → Int → Int → Int → Option ((List (List Int)))
  | 0, _, _, _, _, _, _, _, _ => none
  | k + 1, x0, x3, x4, x5, x8, x9, x19, x20 => if x20 < x19 then (if x5 = true then (if 0 ≤ x20 then (if x20 < (x3.length : Int) then (if 0 ≤ x4 then (if x4 < (x0.length : Int) then ((antecedentref18_Part.f k (rd_L3 x3 x20) (rd_L3 x0 x4)).bind fun t209 => (if t209 = true then ((antecedentref18_Part.f k (rd_L3 x0 x4) (rd_L3 x3 x20)).bind fun t212 => (antecedentref18_Unlike.l1 k x0 x3 x4 (!t212) x8 x9 x19 (wrap64 (x20 + 1)))) else (antecedentref18_Unlike.l1 k x0 x3 x4 (!false) x8 x9 x19 (wrap64 (x20 + 1))))) else (none)) else (none)) else (none)) else (none)) else (antecedentref18_Unlike.l1 k x0 x3 x4 false x8 x9 x19 (wrap64 (x20 + 1)))) else (if x5 = true then (if 0 ≤ x4 then (if x4 < (x0.length : Int) then (if x3.length < 5864062014805 then (antecedentref18_Unlike.l0 k x0 (x3 ++ [rd_L3 x0 x4]) x8 (wrap64 (x9 + 1))) else (none)) else (none)) else (none)) else (antecedentref18_Unlike.l0 k x0 x3 x8 (wrap64 (x9 + 1))))
end
def antecedentref18_Unlike.f (k : Nat) (l0 : List (List Int)) : Option ((List (List Int))) := antecedentref18_Unlike.l0 k l0 ([] : List (List Int)) (l0.length : Int) 0
theorem antecedentref18_Unlike.mono_l : ∀ k, (∀ y0 y1 y2 y3, LeO (antecedentref18_Unlike.l0 k y0 y1 y2 y3) (antecedentref18_Unlike.l0 (k + 1) y0 y1 y2 y3)) ∧ (∀ y0 y1 y2 y3 y4 y5 y6 y7, LeO (antecedentref18_Unlike.l1 k y0 y1 y2 y3 y4 y5 y6 y7) (antecedentref18_Unlike.l1 (k + 1) y0 y1 y2 y3 y4 y5 y6 y7))
  | 0 => ⟨fun _ _ _ _ r h => by simp [antecedentref18_Unlike.l0] at h, fun _ _ _ _ _ _ _ _ r h => by simp [antecedentref18_Unlike.l1] at h⟩
  | k + 1 => by
    obtain ⟨ih0, ih1⟩ := antecedentref18_Unlike.mono_l k
    refine ⟨?_, ?_⟩
    · intro y0 y1 y2 y3
      unfold antecedentref18_Unlike.l0
      repeat' first
      | (with_reducible exact ih0 _ _ _ _)
      | (with_reducible exact ih1 _ _ _ _ _ _ _ _)
      | (with_reducible exact antecedentref18_Part.mono _ _ _)
      | (with_reducible exact LeO.refl _)
      | (with_reducible exact LeO.none _)
      | (with_reducible refine LeO.ite ?_ ?_)
      | (with_reducible refine LeO.bind ?_ (fun _ => ?_))
      | exact ih0 _ _ _ _
      | exact ih1 _ _ _ _ _ _ _ _
      | exact antecedentref18_Part.mono _ _ _
      | exact LeO.none _
      | refine LeO.ite ?_ ?_
      | refine LeO.bind ?_ (fun _ => ?_)
    · intro y0 y1 y2 y3 y4 y5 y6 y7
      unfold antecedentref18_Unlike.l1
      repeat' first
      | (with_reducible exact ih0 _ _ _ _)
      | (with_reducible exact ih1 _ _ _ _ _ _ _ _)
      | (with_reducible exact antecedentref18_Part.mono _ _ _)
      | (with_reducible exact LeO.refl _)
      | (with_reducible exact LeO.none _)
      | (with_reducible refine LeO.ite ?_ ?_)
      | (with_reducible refine LeO.bind ?_ (fun _ => ?_))
      | exact ih0 _ _ _ _
      | exact ih1 _ _ _ _ _ _ _ _
      | exact antecedentref18_Part.mono _ _ _
      | exact LeO.none _
      | refine LeO.ite ?_ ?_
      | refine LeO.bind ?_ (fun _ => ?_)
theorem antecedentref18_Unlike.mono : ∀ a0 k, LeO (antecedentref18_Unlike.f k a0) (antecedentref18_Unlike.f (k + 1) a0) := by
  intro a0 k
  obtain ⟨ih0, ih1⟩ := antecedentref18_Unlike.mono_l k
  unfold antecedentref18_Unlike.f
  repeat' first
      | (with_reducible exact ih0 _ _ _ _)
      | (with_reducible exact ih1 _ _ _ _ _ _ _ _)
      | (with_reducible exact antecedentref18_Part.mono _ _ _)
      | (with_reducible exact LeO.refl _)
      | (with_reducible exact LeO.none _)
      | (with_reducible refine LeO.ite ?_ ?_)
      | (with_reducible refine LeO.bind ?_ (fun _ => ?_))
      | exact ih0 _ _ _ _
      | exact ih1 _ _ _ _ _ _ _ _
      | exact antecedentref18_Part.mono _ _ _
      | exact LeO.none _
      | refine LeO.ite ?_ ?_
      | refine LeO.bind ?_ (fun _ => ?_)
/-! ### antecedentref18_Least -/
mutual
def antecedentref18_Least.j0 : Nat → Int → List (List Int) → Bool → Option (Int)
  | 0, _, _, _ => none
  | k + 1, x0, x1, x11 => if x11 = true then (some (-1)) else (antecedentref18_Least.l0 k x0 x1 (x1.length : Int) 0)
def antecedentref18_Least.l0 : Nat → Int → List (List Int) → Int → Int → Option (Int)
  | 0, _, _, _, _ => none
  | k + 1, x0, x1, x13, x14 => if x14 < x13 then (if 0 ≤ x14 then (if x14 < (x1.length : Int) then ((antecedentref18_Set.f k x0 (rd_L3 x1 x14)).bind fun t218 => (if t218 = true then (antecedentref18_Least.l0 k x0 x1 x13 (wrap64 (x14 + 1))) else (some (-1)))) else (none)) else (none)) else ((antecedentref18_Unlike.f k x1).bind fun t219 => ((antecedentref18_most.f t219 0 ([] : List (List Int))).bind fun t222 => (some t222)))
end
def antecedentref18_Least.f (k : Nat) (a0 : Int) (l1 : List (List Int)) : Option (Int) := if a0 < 0 then (antecedentref18_Least.j0 k a0 l1 true) else (antecedentref18_Least.j0 k a0 l1 (decide (a0 > 8)))
theorem antecedentref18_Least.mono_l : ∀ k, (∀ y0 y1 y2, LeO (antecedentref18_Least.j0 k y0 y1 y2) (antecedentref18_Least.j0 (k + 1) y0 y1 y2)) ∧ (∀ y0 y1 y2 y3, LeO (antecedentref18_Least.l0 k y0 y1 y2 y3) (antecedentref18_Least.l0 (k + 1) y0 y1 y2 y3))
  | 0 => ⟨fun _ _ _ r h => by simp [antecedentref18_Least.j0] at h, fun _ _ _ _ r h => by simp [antecedentref18_Least.l0] at h⟩
  | k + 1 => by
    obtain ⟨ih0, ih1⟩ := antecedentref18_Least.mono_l k
    refine ⟨?_, ?_⟩
    · intro y0 y1 y2
      unfold antecedentref18_Least.j0
      repeat' first
      | (with_reducible exact ih0 _ _ _)
      | (with_reducible exact ih1 _ _ _ _)
      | (with_reducible exact antecedentref18_Set.mono _ _ _)
      | (with_reducible exact antecedentref18_Unlike.mono _ _)
      | (with_reducible exact LeO.refl _)
      | (with_reducible exact LeO.none _)
      | (with_reducible refine LeO.ite ?_ ?_)
      | (with_reducible refine LeO.bind ?_ (fun _ => ?_))
      | exact ih0 _ _ _
      | exact ih1 _ _ _ _
      | exact antecedentref18_Set.mono _ _ _
      | exact antecedentref18_Unlike.mono _ _
      | exact LeO.none _
      | refine LeO.ite ?_ ?_
      | refine LeO.bind ?_ (fun _ => ?_)
    · intro y0 y1 y2 y3
      unfold antecedentref18_Least.l0
      repeat' first
      | (with_reducible exact ih0 _ _ _)
      | (with_reducible exact ih1 _ _ _ _)
      | (with_reducible exact antecedentref18_Set.mono _ _ _)
      | (with_reducible exact antecedentref18_Unlike.mono _ _)
      | (with_reducible exact LeO.refl _)
      | (with_reducible exact LeO.none _)
      | (with_reducible refine LeO.ite ?_ ?_)
      | (with_reducible refine LeO.bind ?_ (fun _ => ?_))
      | exact ih0 _ _ _
      | exact ih1 _ _ _ _
      | exact antecedentref18_Set.mono _ _ _
      | exact antecedentref18_Unlike.mono _ _
      | exact LeO.none _
      | refine LeO.ite ?_ ?_
      | refine LeO.bind ?_ (fun _ => ?_)
theorem antecedentref18_Least.mono : ∀ a0 a1 k, LeO (antecedentref18_Least.f k a0 a1) (antecedentref18_Least.f (k + 1) a0 a1) := by
  intro a0 a1 k
  obtain ⟨ih0, ih1⟩ := antecedentref18_Least.mono_l k
  unfold antecedentref18_Least.f
  repeat' first
      | (with_reducible exact ih0 _ _ _)
      | (with_reducible exact ih1 _ _ _ _)
      | (with_reducible exact antecedentref18_Set.mono _ _ _)
      | (with_reducible exact antecedentref18_Unlike.mono _ _)
      | (with_reducible exact LeO.refl _)
      | (with_reducible exact LeO.none _)
      | (with_reducible refine LeO.ite ?_ ?_)
      | (with_reducible refine LeO.bind ?_ (fun _ => ?_))
      | exact ih0 _ _ _
      | exact ih1 _ _ _ _
      | exact antecedentref18_Set.mono _ _ _
      | exact antecedentref18_Unlike.mono _ _
      | exact LeO.none _
      | refine LeO.ite ?_ ?_
      | refine LeO.bind ?_ (fun _ => ?_)
/-! ### antecedentlaw18_ChainLeast -/
def antecedentlaw18_ChainLeast.f (k : Nat) (a0 : Int) (l1 : List (List Int)) : Option (Bool) := (antecedentlaw18_awake.f k).bind fun t223 => (if t223 = true then ((antecedentlaw18_few.f k l1).bind fun t224 => (if t224 = true then ((chain_Cover.f k a0 l1).bind fun bt226 => ((antecedentref18_Least.f k a0 l1).bind fun t230 => (if t230 < 0 then (if bt226.2 = 1 then (if (bt226.1.length : Int) = 0 then ((chain_Least.f k a0 l1).bind fun t231 => (some (t231 == (-1)))) else (none)) else (none)) else (if bt226.2 = 0 then (if (bt226.1.length : Int) = t230 then ((chain_Least.f k a0 l1).bind fun t232 => (some (t232 == t230))) else (none)) else (none))))) else ((antecedentlaw18_awake.f k).bind fun t225 => (if t225 = true then (some t225) else (none))))) else (none))
theorem antecedentlaw18_ChainLeast.mono : ∀ a0 a1 k, LeO (antecedentlaw18_ChainLeast.f k a0 a1) (antecedentlaw18_ChainLeast.f (k + 1) a0 a1) := by
  intro a0 a1 k
  unfold antecedentlaw18_ChainLeast.f
  repeat' first
      | (with_reducible exact antecedentlaw18_awake.mono _)
      | (with_reducible exact antecedentlaw18_few.mono _ _)
      | (with_reducible exact antecedentref18_Least.mono _ _ _)
      | (with_reducible exact chain_Cover.mono _ _ _)
      | (with_reducible exact chain_Least.mono _ _ _)
      | (with_reducible exact LeO.refl _)
      | (with_reducible exact LeO.none _)
      | (with_reducible refine LeO.ite ?_ ?_)
      | (with_reducible refine LeO.bind ?_ (fun _ => ?_))
      | exact antecedentlaw18_awake.mono _
      | exact antecedentlaw18_few.mono _ _
      | exact antecedentref18_Least.mono _ _ _
      | exact chain_Cover.mono _ _ _
      | exact chain_Least.mono _ _ _
      | exact LeO.none _
      | refine LeO.ite ?_ ?_
      | refine LeO.bind ?_ (fun _ => ?_)
/-! ### antecedentref03_at -/
def antecedentref03_at.l0 : Nat → List Int → Int → Int → Int → Option (Int)
  | 0, _, _, _, _ => none
  | k + 1, x0, x1, x7, x8 => if x8 < x7 then (if 0 ≤ x8 then (if x8 < (x0.length : Int) then (if (rd x0 x8) = x1 then (some x8) else (antecedentref03_at.l0 k x0 x1 x7 (wrap64 (x8 + 1)))) else (none)) else (none)) else (some (-1))
def antecedentref03_at.f (k : Nat) (l0 : List Int) (a1 : Int) : Option (Int) := antecedentref03_at.l0 k l0 a1 (l0.length : Int) 0
theorem antecedentref03_at.mono_l : ∀ k, (∀ y0 y1 y2 y3, LeO (antecedentref03_at.l0 k y0 y1 y2 y3) (antecedentref03_at.l0 (k + 1) y0 y1 y2 y3))
  | 0 => fun _ _ _ _ r h => by simp [antecedentref03_at.l0] at h
  | k + 1 => by
    have ih0 := antecedentref03_at.mono_l k
    · intro y0 y1 y2 y3
      unfold antecedentref03_at.l0
      repeat' first
      | (with_reducible exact ih0 _ _ _ _)
      | (with_reducible exact LeO.refl _)
      | (with_reducible exact LeO.none _)
      | (with_reducible refine LeO.ite ?_ ?_)
      | (with_reducible refine LeO.bind ?_ (fun _ => ?_))
      | exact ih0 _ _ _ _
      | exact LeO.none _
      | refine LeO.ite ?_ ?_
      | refine LeO.bind ?_ (fun _ => ?_)
theorem antecedentref03_at.mono : ∀ a0 a1 k, LeO (antecedentref03_at.f k a0 a1) (antecedentref03_at.f (k + 1) a0 a1) := by
  intro a0 a1 k
  have ih0 := antecedentref03_at.mono_l k
  unfold antecedentref03_at.f
  repeat' first
      | (with_reducible exact ih0 _ _ _ _)
      | (with_reducible exact LeO.refl _)
      | (with_reducible exact LeO.none _)
      | (with_reducible refine LeO.ite ?_ ?_)
      | (with_reducible refine LeO.bind ?_ (fun _ => ?_))
      | exact ih0 _ _ _ _
      | exact LeO.none _
      | refine LeO.ite ?_ ?_
      | refine LeO.bind ?_ (fun _ => ?_)
/-! ### antecedentref03_Perm -/
def antecedentref03_Perm.l0 : Nat → List Int → Int → Int → Option (Bool)
  | 0, _, _, _ => none
  | k + 1, x0, x5, x6 => if x6 < x5 then ((antecedentref03_at.f k x0 x6).bind fun t234 => (if t234 < 0 then (some false) else (antecedentref03_Perm.l0 k x0 x5 (wrap64 (x6 + 1))))) else (some true)
def antecedentref03_Perm.f (k : Nat) (l0 : List Int) : Option (Bool) := antecedentref03_Perm.l0 k l0 (l0.length : Int) 0
theorem antecedentref03_Perm.mono_l : ∀ k, (∀ y0 y1 y2, LeO (antecedentref03_Perm.l0 k y0 y1 y2) (antecedentref03_Perm.l0 (k + 1) y0 y1 y2))
  | 0 => fun _ _ _ r h => by simp [antecedentref03_Perm.l0] at h
  | k + 1 => by
    have ih0 := antecedentref03_Perm.mono_l k
    · intro y0 y1 y2
      unfold antecedentref03_Perm.l0
      repeat' first
      | (with_reducible exact ih0 _ _ _)
      | (with_reducible exact antecedentref03_at.mono _ _ _)
      | (with_reducible exact LeO.refl _)
      | (with_reducible exact LeO.none _)
      | (with_reducible refine LeO.ite ?_ ?_)
      | (with_reducible refine LeO.bind ?_ (fun _ => ?_))
      | exact ih0 _ _ _
      | exact antecedentref03_at.mono _ _ _
      | exact LeO.none _
      | refine LeO.ite ?_ ?_
      | refine LeO.bind ?_ (fun _ => ?_)
theorem antecedentref03_Perm.mono : ∀ a0 k, LeO (antecedentref03_Perm.f k a0) (antecedentref03_Perm.f (k + 1) a0) := by
  intro a0 k
  have ih0 := antecedentref03_Perm.mono_l k
  unfold antecedentref03_Perm.f
  repeat' first
      | (with_reducible exact ih0 _ _ _)
      | (with_reducible exact antecedentref03_at.mono _ _ _)
      | (with_reducible exact LeO.refl _)
      | (with_reducible exact LeO.none _)
      | (with_reducible refine LeO.ite ?_ ?_)
      | (with_reducible refine LeO.bind ?_ (fun _ => ?_))
      | exact ih0 _ _ _
      | exact antecedentref03_at.mono _ _ _
      | exact LeO.none _
      | refine LeO.ite ?_ ?_
      | refine LeO.bind ?_ (fun _ => ?_)
/-! ### antecedentref18_Fits -/
def antecedentref18_Fits.f (k : Nat) (l0 : List Int) (l1 : List Int) : Option (Bool) := (antecedentref18_Set.f k (l0.length : Int) l0).bind fun t235 => (if t235 = true then ((antecedentref18_Set.f k (l0.length : Int) l1).bind fun t236 => (if t236 = true then (if 0 ≤ (l1.length : Int) then (if (l1.length : Int) ≤ (l0.length : Int) then ((antecedentref18_Part.f k (l0.take ((l1.length : Int) : Int).toNat) l1).bind fun t238 => (some t238)) else (none)) else (none)) else (some false))) else (some false))
theorem antecedentref18_Fits.mono : ∀ a0 a1 k, LeO (antecedentref18_Fits.f k a0 a1) (antecedentref18_Fits.f (k + 1) a0 a1) := by
  intro a0 a1 k
  unfold antecedentref18_Fits.f
  repeat' first
      | (with_reducible exact antecedentref18_Part.mono _ _ _)
      | (with_reducible exact antecedentref18_Set.mono _ _ _)
      | (with_reducible exact LeO.refl _)
      | (with_reducible exact LeO.none _)
      | (with_reducible refine LeO.ite ?_ ?_)
      | (with_reducible refine LeO.bind ?_ (fun _ => ?_))
      | exact antecedentref18_Part.mono _ _ _
      | exact antecedentref18_Set.mono _ _ _
      | exact LeO.none _
      | refine LeO.ite ?_ ?_
      | refine LeO.bind ?_ (fun _ => ?_)
/-! ### antecedentlaw18_ChainCovers -/
mutual
def antecedentlaw18_ChainCovers.l0 : Nat → Int → List (List Int) → List (List Int) → Int → Int → Option (Bool)
  | 0, _, _, _, _, _ => none
  | k + 1, x0, x1, x5, x28, x29 => if x29 < x28 then (if 0 ≤ x29 then (if x29 < (x5.length : Int) then ((antecedentref03_Perm.f k (rd_L3 x5 x29)).bind fun t247 => (if t247 = true then (if ((rd_L3 x5 x29).length : Int) = x0 then (antecedentlaw18_ChainCovers.l0 k x0 x1 x5 x28 (wrap64 (x29 + 1))) else (none)) else (none))) else (none)) else (none)) else (antecedentlaw18_ChainCovers.l1 k x1 x5 (x1.length : Int) 0)
def antecedentlaw18_ChainCovers.l1 : Nat → List (List Int) → List (List Int) → Int → Int → Option (Bool)
  | 0, _, _, _, _ => none
  | k + 1, x1, x5, x49, x50 => if x50 < x49 then (if 0 ≤ x50 then (if x50 < (x1.length : Int) then (antecedentlaw18_ChainCovers.l2 k x1 x5 x50 (((rd_L3 x1 x50).length : Int) == 0) x49 x50 (x5.length : Int) 0) else (none)) else (none)) else (some true)
def antecedentlaw18_ChainCovers.l2 : Nat → List (List Int) → List (List Int) → Int → Bool → Int → Int → Int → Int → Option (Bool)
  | 0, _, _, _, _, _, _, _, _ => none
  | k + 1, x1, x5, x8, x9, x49, x50, x60, x61 => if x61 < x60 then (if x9 = true then (antecedentlaw18_ChainCovers.l2 k x1 x5 x8 true x49 x50 x60 (wrap64 (x61 + 1))) else (if 0 ≤ x61 then (if x61 < (x5.length : Int) then (if 0 ≤ x8 then (if x8 < (x1.length : Int) then ((antecedentref18_Fits.f k (rd_L3 x5 x61) (rd_L3 x1 x8)).bind fun t252 => (if t252 = true then ((chain_Fits.f k (rd_L3 x5 x61) (rd_L3 x1 x8)).bind fun t255 => (antecedentlaw18_ChainCovers.l2 k x1 x5 x8 t255 x49 x50 x60 (wrap64 (x61 + 1)))) else (antecedentlaw18_ChainCovers.l2 k x1 x5 x8 false x49 x50 x60 (wrap64 (x61 + 1))))) else (none)) else (none)) else (none)) else (none))) else (if x9 = true then (antecedentlaw18_ChainCovers.l1 k x1 x5 x49 (wrap64 (x50 + 1))) else (none))
end
def antecedentlaw18_ChainCovers.f (k : Nat) (a0 : Int) (l1 : List (List Int)) : Option (Bool) := (antecedentlaw18_awake.f k).bind fun t239 => (if t239 = true then ((antecedentlaw18_few.f k l1).bind fun t240 => (if t240 = true then ((chain_Cover.f k a0 l1).bind fun bt242 => (if bt242.2 = 0 then (antecedentlaw18_ChainCovers.l0 k a0 l1 bt242.1 (bt242.1.length : Int) 0) else (some true))) else ((antecedentlaw18_awake.f k).bind fun t241 => (if t241 = true then (some t241) else (none))))) else (none))
theorem antecedentlaw18_ChainCovers.mono_l : ∀ k, (∀ y0 y1 y2 y3 y4, LeO (antecedentlaw18_ChainCovers.l0 k y0 y1 y2 y3 y4) (antecedentlaw18_ChainCovers.l0 (k + 1) y0 y1 y2 y3 y4)) ∧ (∀ y0 y1 y2 y3, LeO (antecedentlaw18_ChainCovers.l1 k y0 y1 y2 y3) (antecedentlaw18_ChainCovers.l1 (k + 1) y0 y1 y2 y3)) ∧ (∀ y0 y1 y2 y3 y4 y5 y6 y7, LeO (antecedentlaw18_ChainCovers.l2 k y0 y1 y2 y3 y4 y5 y6 y7) (antecedentlaw18_ChainCovers.l2 (k + 1) y0 y1 y2 y3 y4 y5 y6 y7))
  | 0 => ⟨fun _ _ _ _ _ r h => by simp [antecedentlaw18_ChainCovers.l0] at h, fun _ _ _ _ r h => by simp [antecedentlaw18_ChainCovers.l1] at h, fun _ _ _ _ _ _ _ _ r h => by simp [antecedentlaw18_ChainCovers.l2] at h⟩
  | k + 1 => by
    obtain ⟨ih0, ih1, ih2⟩ := antecedentlaw18_ChainCovers.mono_l k
    refine ⟨?_, ?_, ?_⟩
    · intro y0 y1 y2 y3 y4
      unfold antecedentlaw18_ChainCovers.l0
      repeat' first
      | (with_reducible exact ih0 _ _ _ _ _)
      | (with_reducible exact ih1 _ _ _ _)
      | (with_reducible exact ih2 _ _ _ _ _ _ _ _)
      | (with_reducible exact antecedentlaw18_awake.mono _)
      | (with_reducible exact antecedentlaw18_few.mono _ _)
      | (with_reducible exact antecedentref03_Perm.mono _ _)
      | (with_reducible exact antecedentref18_Fits.mono _ _ _)
      | (with_reducible exact chain_Cover.mono _ _ _)
      | (with_reducible exact chain_Fits.mono _ _ _)
      | (with_reducible exact LeO.refl _)
      | (with_reducible exact LeO.none _)
      | (with_reducible refine LeO.ite ?_ ?_)
      | (with_reducible refine LeO.bind ?_ (fun _ => ?_))
      | exact ih0 _ _ _ _ _
      | exact ih1 _ _ _ _
      | exact ih2 _ _ _ _ _ _ _ _
      | exact antecedentlaw18_awake.mono _
      | exact antecedentlaw18_few.mono _ _
      | exact antecedentref03_Perm.mono _ _
      | exact antecedentref18_Fits.mono _ _ _
      | exact chain_Cover.mono _ _ _
      | exact chain_Fits.mono _ _ _
      | exact LeO.none _
      | refine LeO.ite ?_ ?_
      | refine LeO.bind ?_ (fun _ => ?_)
    · intro y0 y1 y2 y3
      unfold antecedentlaw18_ChainCovers.l1
      repeat' first
      | (with_reducible exact ih0 _ _ _ _ _)
      | (with_reducible exact ih1 _ _ _ _)
      | (with_reducible exact ih2 _ _ _ _ _ _ _ _)
      | (with_reducible exact antecedentlaw18_awake.mono _)
      | (with_reducible exact antecedentlaw18_few.mono _ _)
      | (with_reducible exact antecedentref03_Perm.mono _ _)
      | (with_reducible exact antecedentref18_Fits.mono _ _ _)
      | (with_reducible exact chain_Cover.mono _ _ _)
      | (with_reducible exact chain_Fits.mono _ _ _)
      | (with_reducible exact LeO.refl _)
      | (with_reducible exact LeO.none _)
      | (with_reducible refine LeO.ite ?_ ?_)
      | (with_reducible refine LeO.bind ?_ (fun _ => ?_))
      | exact ih0 _ _ _ _ _
      | exact ih1 _ _ _ _
      | exact ih2 _ _ _ _ _ _ _ _
      | exact antecedentlaw18_awake.mono _
      | exact antecedentlaw18_few.mono _ _
      | exact antecedentref03_Perm.mono _ _
      | exact antecedentref18_Fits.mono _ _ _
      | exact chain_Cover.mono _ _ _
      | exact chain_Fits.mono _ _ _
      | exact LeO.none _
      | refine LeO.ite ?_ ?_
      | refine LeO.bind ?_ (fun _ => ?_)
    · intro y0 y1 y2 y3 y4 y5 y6 y7
      unfold antecedentlaw18_ChainCovers.l2
      repeat' first
      | (with_reducible exact ih0 _ _ _ _ _)
      | (with_reducible exact ih1 _ _ _ _)
      | (with_reducible exact ih2 _ _ _ _ _ _ _ _)
      | (with_reducible exact antecedentlaw18_awake.mono _)
      | (with_reducible exact antecedentlaw18_few.mono _ _)
      | (with_reducible exact antecedentref03_Perm.mono _ _)
      | (with_reducible exact antecedentref18_Fits.mono _ _ _)
      | (with_reducible exact chain_Cover.mono _ _ _)
      | (with_reducible exact chain_Fits.mono _ _ _)
      | (with_reducible exact LeO.refl _)
      | (with_reducible exact LeO.none _)
      | (with_reducible refine LeO.ite ?_ ?_)
      | (with_reducible refine LeO.bind ?_ (fun _ => ?_))
      | exact ih0 _ _ _ _ _
      | exact ih1 _ _ _ _
      | exact ih2 _ _ _ _ _ _ _ _
      | exact antecedentlaw18_awake.mono _
      | exact antecedentlaw18_few.mono _ _
      | exact antecedentref03_Perm.mono _ _
      | exact antecedentref18_Fits.mono _ _ _
      | exact chain_Cover.mono _ _ _
      | exact chain_Fits.mono _ _ _
      | exact LeO.none _
      | refine LeO.ite ?_ ?_
      | refine LeO.bind ?_ (fun _ => ?_)
theorem antecedentlaw18_ChainCovers.mono : ∀ a0 a1 k, LeO (antecedentlaw18_ChainCovers.f k a0 a1) (antecedentlaw18_ChainCovers.f (k + 1) a0 a1) := by
  intro a0 a1 k
  obtain ⟨ih0, ih1, ih2⟩ := antecedentlaw18_ChainCovers.mono_l k
  unfold antecedentlaw18_ChainCovers.f
  repeat' first
      | (with_reducible exact ih0 _ _ _ _ _)
      | (with_reducible exact ih1 _ _ _ _)
      | (with_reducible exact ih2 _ _ _ _ _ _ _ _)
      | (with_reducible exact antecedentlaw18_awake.mono _)
      | (with_reducible exact antecedentlaw18_few.mono _ _)
      | (with_reducible exact antecedentref03_Perm.mono _ _)
      | (with_reducible exact antecedentref18_Fits.mono _ _ _)
      | (with_reducible exact chain_Cover.mono _ _ _)
      | (with_reducible exact chain_Fits.mono _ _ _)
      | (with_reducible exact LeO.refl _)
      | (with_reducible exact LeO.none _)
      | (with_reducible refine LeO.ite ?_ ?_)
      | (with_reducible refine LeO.bind ?_ (fun _ => ?_))
      | exact ih0 _ _ _ _ _
      | exact ih1 _ _ _ _
      | exact ih2 _ _ _ _ _ _ _ _
      | exact antecedentlaw18_awake.mono _
      | exact antecedentlaw18_few.mono _ _
      | exact antecedentref03_Perm.mono _ _
      | exact antecedentref18_Fits.mono _ _ _
      | exact chain_Cover.mono _ _ _
      | exact chain_Fits.mono _ _ _
      | exact LeO.none _
      | refine LeO.ite ?_ ?_
      | refine LeO.bind ?_ (fun _ => ?_)
/-! ### antecedentlaw18_ChainTwice -/
mutual
def antecedentlaw18_ChainTwice.j0 : Nat → Int → List (List Int) → List Int → Bool → Option (Bool)
  | 0, _, _, _, _ => none
  | k + 1, x0, x1, x2, x24 => if x24 = true then ((antecedentlaw18_awake.f k).bind fun t258 => (if t258 = true then (some t258) else (none))) else ((chain_Least.f k x0 x1).bind fun t259 => (antecedentlaw18_ChainTwice.l0 k x0 x1 x2 t259 (([[]] : List (List Int))) (x1.length : Int) 0))
def antecedentlaw18_ChainTwice.l0 : Nat → Int → List (List Int) → List Int → Int → List (List Int) → Int → Int → Option (Bool)
  | 0, _, _, _, _, _, _, _ => none
  | k + 1, x0, x1, x2, x7, x8, x31, x32 => if x32 < x31 then (if 0 ≤ x32 then (if x32 < (x1.length : Int) then (antecedentlaw18_ChainTwice.l1 k x0 x1 x2 x7 x8 x32 ([] : List Int) x31 x32 ((rd_L3 x1 x32).length : Int) 0) else (none)) else (none)) else ((chain_Least.f k x0 x8).bind fun t277 => (if t277 = x7 then ((some (([] : List (List Int)) : List (List Int))).bind fun y278 => (if y278.length + x1.length < 5864062014805 then ((some (y278 ++ x1 : List (List Int))).bind fun y281 => (if y281.length < 5864062014805 then ((chain_Least.f k x0 (y281 ++ [x2])).bind fun t287 => (if x7 < 0 then (some true) else (if t287 < 0 then (some true) else (if t287 ≥ x7 then (some (decide (t287 ≤ (wrap64 (x7 + 1))))) else (none))))) else (none))) else (none))) else (if x0 < 0 then ((some (([] : List (List Int)) : List (List Int))).bind fun y288 => (if y288.length + x1.length < 5864062014805 then ((some (y288 ++ x1 : List (List Int))).bind fun y291 => (if y291.length < 5864062014805 then ((chain_Least.f k x0 (y291 ++ [x2])).bind fun t297 => (if x7 < 0 then (some true) else (if t297 < 0 then (some true) else (if t297 ≥ x7 then (some (decide (t297 ≤ (wrap64 (x7 + 1))))) else (none))))) else (none))) else (none))) else (if x0 > 8 then ((some (([] : List (List Int)) : List (List Int))).bind fun y298 => (if y298.length + x1.length < 5864062014805 then ((some (y298 ++ x1 : List (List Int))).bind fun y301 => (if y301.length < 5864062014805 then ((chain_Least.f k x0 (y301 ++ [x2])).bind fun t307 => (if x7 < 0 then (some true) else (if t307 < 0 then (some true) else (if t307 ≥ x7 then (some (decide (t307 ≤ (wrap64 (x7 + 1))))) else (none))))) else (none))) else (none))) else (none)))))
def antecedentlaw18_ChainTwice.l1 : Nat → Int → List (List Int) → List Int → Int → List (List Int) → Int → List Int → Int → Int → Int → Int → Option (Bool)
  | 0, _, _, _, _, _, _, _, _, _, _, _ => none
  | k + 1, x0, x1, x2, x7, x8, x9, x10, x31, x32, x39, x40 => if x40 < x39 then (if 0 ≤ x9 then (if x9 < (x1.length : Int) then (if 0 ≤ (wrap64 ((wrap64 (((rd_L3 x1 x9).length : Int) - 1)) - x40)) then (if (wrap64 ((wrap64 (((rd_L3 x1 x9).length : Int) - 1)) - x40)) < ((rd_L3 x1 x9).length : Int) then (if x10.length < 17592186044416 then (antecedentlaw18_ChainTwice.l1 k x0 x1 x2 x7 x8 x9 (x10 ++ [rd (rd_L3 x1 x9) (wrap64 ((wrap64 (((rd_L3 x1 x9).length : Int) - 1)) - x40))]) x31 x32 x39 (wrap64 (x40 + 1))) else (none)) else (none)) else (none)) else (none)) else (none)) else (if 0 ≤ x9 then (if x9 < (x1.length : Int) then ((some (([x10, rd_L3 x1 x9] : List (List Int)) : List (List Int))).bind fun y271 => (if x8.length + y271.length < 5864062014805 then (antecedentlaw18_ChainTwice.l0 k x0 x1 x2 x7 (x8 ++ y271) x31 (wrap64 (x32 + 1))) else (none))) else (none)) else (none))
end
def antecedentlaw18_ChainTwice.f (k : Nat) (a0 : Int) (l1 : List (List Int)) (l2 : List Int) : Option (Bool) := (antecedentlaw18_awake.f k).bind fun t256 => (if t256 = true then ((antecedentlaw18_few.f k l1).bind fun t257 => (if t257 = true then (antecedentlaw18_ChainTwice.j0 k a0 l1 l2 (decide ((l2.length : Int) > 10))) else (antecedentlaw18_ChainTwice.j0 k a0 l1 l2 true))) else (none))
theorem antecedentlaw18_ChainTwice.mono_l : ∀ k, (∀ y0 y1 y2 y3, LeO (antecedentlaw18_ChainTwice.j0 k y0 y1 y2 y3) (antecedentlaw18_ChainTwice.j0 (k + 1) y0 y1 y2 y3)) ∧ (∀ y0 y1 y2 y3 y4 y5 y6, LeO (antecedentlaw18_ChainTwice.l0 k y0 y1 y2 y3 y4 y5 y6) (antecedentlaw18_ChainTwice.l0 (k + 1) y0 y1 y2 y3 y4 y5 y6)) ∧ (∀ y0 y1 y2 y3 y4 y5 y6 y7 y8 y9 y10, LeO (antecedentlaw18_ChainTwice.l1 k y0 y1 y2 y3 y4 y5 y6 y7 y8 y9 y10) (antecedentlaw18_ChainTwice.l1 (k + 1) y0 y1 y2 y3 y4 y5 y6 y7 y8 y9 y10))
  | 0 => ⟨fun _ _ _ _ r h => by simp [antecedentlaw18_ChainTwice.j0] at h, fun _ _ _ _ _ _ _ r h => by simp [antecedentlaw18_ChainTwice.l0] at h, fun _ _ _ _ _ _ _ _ _ _ _ r h => by simp [antecedentlaw18_ChainTwice.l1] at h⟩
  | k + 1 => by
    obtain ⟨ih0, ih1, ih2⟩ := antecedentlaw18_ChainTwice.mono_l k
    refine ⟨?_, ?_, ?_⟩
    · intro y0 y1 y2 y3
      unfold antecedentlaw18_ChainTwice.j0
      repeat' first
      | (with_reducible exact ih0 _ _ _ _)
      | (with_reducible exact ih1 _ _ _ _ _ _ _)
      | (with_reducible exact ih2 _ _ _ _ _ _ _ _ _ _ _)
      | (with_reducible exact antecedentlaw18_awake.mono _)
      | (with_reducible exact antecedentlaw18_few.mono _ _)
      | (with_reducible exact chain_Least.mono _ _ _)
      | (with_reducible exact LeO.refl _)
      | (with_reducible exact LeO.none _)
      | (with_reducible refine LeO.ite ?_ ?_)
      | (with_reducible refine LeO.bind ?_ (fun _ => ?_))
      | exact ih0 _ _ _ _
      | exact ih1 _ _ _ _ _ _ _
      | exact ih2 _ _ _ _ _ _ _ _ _ _ _
      | exact antecedentlaw18_awake.mono _
      | exact antecedentlaw18_few.mono _ _
      | exact chain_Least.mono _ _ _
      | exact LeO.none _
      | refine LeO.ite ?_ ?_
      | refine LeO.bind ?_ (fun _ => ?_)
    · intro y0 y1 y2 y3 y4 y5 y6
      unfold antecedentlaw18_ChainTwice.l0
      repeat' first
      | (with_reducible exact ih0 _ _ _ _)
      | (with_reducible exact ih1 _ _ _ _ _ _ _)
      | (with_reducible exact ih2 _ _ _ _ _ _ _ _ _ _ _)
      | (with_reducible exact antecedentlaw18_awake.mono _)
      | (with_reducible exact antecedentlaw18_few.mono _ _)
      | (with_reducible exact chain_Least.mono _ _ _)
      | (with_reducible exact LeO.refl _)
      | (with_reducible exact LeO.none _)
      | (with_reducible refine LeO.ite ?_ ?_)
      | (with_reducible refine LeO.bind ?_ (fun _ => ?_))
      | exact ih0 _ _ _ _
      | exact ih1 _ _ _ _ _ _ _
      | exact ih2 _ _ _ _ _ _ _ _ _ _ _
      | exact antecedentlaw18_awake.mono _
      | exact antecedentlaw18_few.mono _ _
      | exact chain_Least.mono _ _ _
      | exact LeO.none _
      | refine LeO.ite ?_ ?_
      | refine LeO.bind ?_ (fun _ => ?_)
    · intro y0 y1 y2 y3 y4 y5 y6 y7 y8 y9 y10
      unfold antecedentlaw18_ChainTwice.l1
      repeat' first
      | (with_reducible exact ih0 _ _ _ _)
      | (with_reducible exact ih1 _ _ _ _ _ _ _)
      | (with_reducible exact ih2 _ _ _ _ _ _ _ _ _ _ _)
      | (with_reducible exact antecedentlaw18_awake.mono _)
      | (with_reducible exact antecedentlaw18_few.mono _ _)
      | (with_reducible exact chain_Least.mono _ _ _)
      | (with_reducible exact LeO.refl _)
      | (with_reducible exact LeO.none _)
      | (with_reducible refine LeO.ite ?_ ?_)
      | (with_reducible refine LeO.bind ?_ (fun _ => ?_))
      | exact ih0 _ _ _ _
      | exact ih1 _ _ _ _ _ _ _
      | exact ih2 _ _ _ _ _ _ _ _ _ _ _
      | exact antecedentlaw18_awake.mono _
      | exact antecedentlaw18_few.mono _ _
      | exact chain_Least.mono _ _ _
      | exact LeO.none _
      | refine LeO.ite ?_ ?_
      | refine LeO.bind ?_ (fun _ => ?_)
theorem antecedentlaw18_ChainTwice.mono : ∀ a0 a1 a2 k, LeO (antecedentlaw18_ChainTwice.f k a0 a1 a2) (antecedentlaw18_ChainTwice.f (k + 1) a0 a1 a2) := by
  intro a0 a1 a2 k
  obtain ⟨ih0, ih1, ih2⟩ := antecedentlaw18_ChainTwice.mono_l k
  unfold antecedentlaw18_ChainTwice.f
  repeat' first
      | (with_reducible exact ih0 _ _ _ _)
      | (with_reducible exact ih1 _ _ _ _ _ _ _)
      | (with_reducible exact ih2 _ _ _ _ _ _ _ _ _ _ _)
      | (with_reducible exact antecedentlaw18_awake.mono _)
      | (with_reducible exact antecedentlaw18_few.mono _ _)
      | (with_reducible exact chain_Least.mono _ _ _)
      | (with_reducible exact LeO.refl _)
      | (with_reducible exact LeO.none _)
      | (with_reducible refine LeO.ite ?_ ?_)
      | (with_reducible refine LeO.bind ?_ (fun _ => ?_))
      | exact ih0 _ _ _ _
      | exact ih1 _ _ _ _ _ _ _
      | exact ih2 _ _ _ _ _ _ _ _ _ _ _
      | exact antecedentlaw18_awake.mono _
      | exact antecedentlaw18_few.mono _ _
      | exact chain_Least.mono _ _ _
      | exact LeO.none _
      | refine LeO.ite ?_ ?_
      | refine LeO.bind ?_ (fun _ => ?_)
/-! ### antecedentlaw18_ChainWhole -/
mutual
def antecedentlaw18_ChainWhole.j0 : Nat → Int → List Int → List Int → Bool → Option (Bool)
  | 0, _, _, _, _ => none
  | k + 1, x0, x1, x2, x31 => if x31 = true then ((antecedentlaw18_awake.f k).bind fun t310 => (if t310 = true then (some t310) else (none))) else (antecedentlaw18_ChainWhole.l0 k x0 x1 x2 (x1.length : Int) ([] : List (List Int)) 0 (x2.length : Int) 0)
def antecedentlaw18_ChainWhole.l0 : Nat → Int → List Int → List Int → Int → List (List Int) → Int → Int → Int → Option (Bool)
  | 0, _, _, _, _, _, _, _, _ => none
  | k + 1, x0, x1, x2, x7, x8, x10, x36, x37 => if x37 < x36 then (if 0 ≤ x37 then (if x37 < (x2.length : Int) then (if (wrap64 (x7 + 1)) = 0 then (none) else (if 0 ≤ (Int.tmod (wrap64 (rd x2 x37)) (wrap64 (x7 + 1))) then (if (Int.tmod (wrap64 (rd x2 x37)) (wrap64 (x7 + 1))) ≤ (x1.length : Int) then (if x8.length < 5864062014805 then (antecedentlaw18_ChainWhole.l0 k x0 x1 x2 x7 (x8 ++ [(x1.take ((Int.tmod (wrap64 (rd x2 x37)) (wrap64 (x7 + 1))) : Int).toNat)]) (mx x10 (Int.tmod (wrap64 (rd x2 x37)) (wrap64 (x7 + 1)))) x36 (wrap64 (x37 + 1))) else (none)) else (none)) else (none))) else (none)) else (none)) else (antecedentlaw18_ChainWhole.l1 k x0 x1 x7 x8 ([] : List (List Int)) x10 x7 0)
def antecedentlaw18_ChainWhole.l1 : Nat → Int → List Int → Int → List (List Int) → List (List Int) → Int → Int → Int → Option (Bool)
  | 0, _, _, _, _, _, _, _, _ => none
  | k + 1, x0, x1, x7, x8, x9, x10, x58, x59 => if x59 < x58 then (if 0 ≤ x59 then (if x59 < (x1.length : Int) then (if x9.length < 5864062014805 then (antecedentlaw18_ChainWhole.l1 k x0 x1 x7 x8 (x9 ++ [(([rd x1 x59] : List Int))]) x10 x58 (wrap64 (x59 + 1))) else (none)) else (none)) else (none)) else ((chain_Least.f k x7 x8).bind fun t327 => (if t327 = (mn x10 1) then ((chain_Least.f k x7 x9).bind fun t328 => (if t328 = x7 then ((chain_Least.f k (wrap64 (x0)) ([] : List (List Int))).bind fun t329 => (some (t329 == (-(mx 0 (mn 1 (wrap64 ((wrap64 (x0)) - 8)))))))) else (none))) else (none)))
end
def antecedentlaw18_ChainWhole.f (k : Nat) (a0 : Int) (l1 : List Int) (l2 : List Int) : Option (Bool) := (antecedentlaw18_awake.f k).bind fun t308 => (if t308 = true then (if (l1.length : Int) > 8 then (antecedentlaw18_ChainWhole.j0 k a0 l1 l2 true) else (if (l2.length : Int) > 10 then (antecedentlaw18_ChainWhole.j0 k a0 l1 l2 true) else ((antecedentref03_Perm.f k l1).bind fun t309 => (antecedentlaw18_ChainWhole.j0 k a0 l1 l2 (!t309))))) else (none))
theorem antecedentlaw18_ChainWhole.mono_l : ∀ k, (∀ y0 y1 y2 y3, LeO (antecedentlaw18_ChainWhole.j0 k y0 y1 y2 y3) (antecedentlaw18_ChainWhole.j0 (k + 1) y0 y1 y2 y3)) ∧ (∀ y0 y1 y2 y3 y4 y5 y6 y7, LeO (antecedentlaw18_ChainWhole.l0 k y0 y1 y2 y3 y4 y5 y6 y7) (antecedentlaw18_ChainWhole.l0 (k + 1) y0 y1 y2 y3 y4 y5 y6 y7)) ∧ (∀ y0 y1 y2 y3 y4 y5 y6 y7, LeO (antecedentlaw18_ChainWhole.l1 k y0 y1 y2 y3 y4 y5 y6 y7) (antecedentlaw18_ChainWhole.l1 (k + 1) y0 y1 y2 y3 y4 y5 y6 y7))
  | 0 => ⟨fun _ _ _ _ r h => by simp [antecedentlaw18_ChainWhole.j0] at h, fun _ _ _ _ _ _ _ _ r h => by simp [antecedentlaw18_ChainWhole.l0] at h, fun _ _ _ _ _ _ _ _ r h => by simp [antecedentlaw18_ChainWhole.l1] at h⟩
  | k + 1 => by
    obtain ⟨ih0, ih1, ih2⟩ := antecedentlaw18_ChainWhole.mono_l k
    refine ⟨?_, ?_, ?_⟩
    · intro y0 y1 y2 y3
      unfold antecedentlaw18_ChainWhole.j0
      repeat' first
      | (with_reducible exact ih0 _ _ _ _)
      | (with_reducible exact ih1 _ _ _ _ _ _ _ _)
      | (with_reducible exact ih2 _ _ _ _ _ _ _ _)
      | (with_reducible exact antecedentlaw18_awake.mono _)
      | (with_reducible exact antecedentref03_Perm.mono _ _)
      | (with_reducible exact chain_Least.mono _ _ _)
      | (with_reducible exact LeO.refl _)
      | (with_reducible exact LeO.none _)
      | (with_reducible refine LeO.ite ?_ ?_)
      | (with_reducible refine LeO.bind ?_ (fun _ => ?_))
      | exact ih0 _ _ _ _
      | exact ih1 _ _ _ _ _ _ _ _
      | exact ih2 _ _ _ _ _ _ _ _
      | exact antecedentlaw18_awake.mono _
      | exact antecedentref03_Perm.mono _ _
      | exact chain_Least.mono _ _ _
      | exact LeO.none _
      | refine LeO.ite ?_ ?_
      | refine LeO.bind ?_ (fun _ => ?_)
    · intro y0 y1 y2 y3 y4 y5 y6 y7
      unfold antecedentlaw18_ChainWhole.l0
      repeat' first
      | (with_reducible exact ih0 _ _ _ _)
      | (with_reducible exact ih1 _ _ _ _ _ _ _ _)
      | (with_reducible exact ih2 _ _ _ _ _ _ _ _)
      | (with_reducible exact antecedentlaw18_awake.mono _)
      | (with_reducible exact antecedentref03_Perm.mono _ _)
      | (with_reducible exact chain_Least.mono _ _ _)
      | (with_reducible exact LeO.refl _)
      | (with_reducible exact LeO.none _)
      | (with_reducible refine LeO.ite ?_ ?_)
      | (with_reducible refine LeO.bind ?_ (fun _ => ?_))
      | exact ih0 _ _ _ _
      | exact ih1 _ _ _ _ _ _ _ _
      | exact ih2 _ _ _ _ _ _ _ _
      | exact antecedentlaw18_awake.mono _
      | exact antecedentref03_Perm.mono _ _
      | exact chain_Least.mono _ _ _
      | exact LeO.none _
      | refine LeO.ite ?_ ?_
      | refine LeO.bind ?_ (fun _ => ?_)
    · intro y0 y1 y2 y3 y4 y5 y6 y7
      unfold antecedentlaw18_ChainWhole.l1
      repeat' first
      | (with_reducible exact ih0 _ _ _ _)
      | (with_reducible exact ih1 _ _ _ _ _ _ _ _)
      | (with_reducible exact ih2 _ _ _ _ _ _ _ _)
      | (with_reducible exact antecedentlaw18_awake.mono _)
      | (with_reducible exact antecedentref03_Perm.mono _ _)
      | (with_reducible exact chain_Least.mono _ _ _)
      | (with_reducible exact LeO.refl _)
      | (with_reducible exact LeO.none _)
      | (with_reducible refine LeO.ite ?_ ?_)
      | (with_reducible refine LeO.bind ?_ (fun _ => ?_))
      | exact ih0 _ _ _ _
      | exact ih1 _ _ _ _ _ _ _ _
      | exact ih2 _ _ _ _ _ _ _ _
      | exact antecedentlaw18_awake.mono _
      | exact antecedentref03_Perm.mono _ _
      | exact chain_Least.mono _ _ _
      | exact LeO.none _
      | refine LeO.ite ?_ ?_
      | refine LeO.bind ?_ (fun _ => ?_)
theorem antecedentlaw18_ChainWhole.mono : ∀ a0 a1 a2 k, LeO (antecedentlaw18_ChainWhole.f k a0 a1 a2) (antecedentlaw18_ChainWhole.f (k + 1) a0 a1 a2) := by
  intro a0 a1 a2 k
  obtain ⟨ih0, ih1, ih2⟩ := antecedentlaw18_ChainWhole.mono_l k
  unfold antecedentlaw18_ChainWhole.f
  repeat' first
      | (with_reducible exact ih0 _ _ _ _)
      | (with_reducible exact ih1 _ _ _ _ _ _ _ _)
      | (with_reducible exact ih2 _ _ _ _ _ _ _ _)
      | (with_reducible exact antecedentlaw18_awake.mono _)
      | (with_reducible exact antecedentref03_Perm.mono _ _)
      | (with_reducible exact chain_Least.mono _ _ _)
      | (with_reducible exact LeO.refl _)
      | (with_reducible exact LeO.none _)
      | (with_reducible refine LeO.ite ?_ ?_)
      | (with_reducible refine LeO.bind ?_ (fun _ => ?_))
      | exact ih0 _ _ _ _
      | exact ih1 _ _ _ _ _ _ _ _
      | exact ih2 _ _ _ _ _ _ _ _
      | exact antecedentlaw18_awake.mono _
      | exact antecedentref03_Perm.mono _ _
      | exact chain_Least.mono _ _ _
      | exact LeO.none _
      | refine LeO.ite ?_ ?_
      | refine LeO.bind ?_ (fun _ => ?_)
/-! ### antecedentlaw18_ChainTurned -/
mutual
def antecedentlaw18_ChainTurned.j0 : Nat → List Int → List (List Int) → Bool → Option (Bool)
  | 0, _, _, _ => none
  | k + 1, x0, x1, x31 => if x31 = true then ((antecedentlaw18_awake.f k).bind fun t333 => (if t333 = true then (some t333) else (none))) else ((chain_Least.f k (x0.length : Int) x1).bind fun t334 => (if t334 < 0 then (some true) else (antecedentlaw18_ChainTurned.l0 k x0 x1 t334 ([] : List (List Int)) ([] : List (List Int)) false (x1.length : Int) 0)))
def antecedentlaw18_ChainTurned.l0 : Nat → List Int → List (List Int) → Int → List (List Int) → List (List Int) → Bool → Int → Int → Option (Bool)
  | 0, _, _, _, _, _, _, _, _ => none
  | k + 1, x0, x1, x5, x6, x7, x8, x40, x41 => if x41 < x40 then (if 0 ≤ x41 then (if x41 < (x1.length : Int) then (antecedentlaw18_ChainTurned.l1 k x0 x1 x5 x6 x7 x8 x41 ([] : List Int) x40 x41 (rd_L3 x1 x41) ((rd_L3 x1 x41).length : Int) 0) else (none)) else (none)) else ((chain_Least.f k (x0.length : Int) x6).bind fun t335 => (if t335 = x5 then (if x8 = true then (some true) else ((chain_Least.f k (x0.length : Int) x7).bind fun t336 => (some (t336 == x5)))) else (none)))
def antecedentlaw18_ChainTurned.l1 : Nat → List Int → List (List Int) → Int → List (List Int) → List (List Int) → Bool → Int → List Int → Int → Int → List Int → Int → Int → Option (Bool)
  | 0, _, _, _, _, _, _, _, _, _, _, _, _, _ => none
  | k + 1, x0, x1, x5, x6, x7, x8, x9, x10, x40, x41, x47, x48, x49 => if x49 < x48 then (if 0 ≤ x49 then (if x49 < (x47.length : Int) then (if 0 ≤ (rd x47 x49) then (if (rd x47 x49) < (x0.length : Int) then (if x10.length < 17592186044416 then (antecedentlaw18_ChainTurned.l1 k x0 x1 x5 x6 x7 x8 x9 (x10 ++ [rd x0 (rd x47 x49)]) x40 x41 x47 x48 (wrap64 (x49 + 1))) else (none)) else (none)) else (none)) else (none)) else (none)) else (antecedentlaw18_ChainTurned.l2 k x0 x1 x5 x6 x7 x8 x9 x10 ([] : List Int) x40 x41 (x0.length : Int) 0)
def antecedentlaw18_ChainTurned.l2 : Nat → List Int → List (List Int) → Int → List (List Int) → List (List Int) → Bool → Int → List Int → List Int → Int → Int → Int → Int → Option (Bool)
  | 0, _, _, _, _, _, _, _, _, _, _, _, _, _ => none
  | k + 1, x0, x1, x5, x6, x7, x8, x9, x10, x11, x40, x41, x62, x63 => if x63 < x62 then (if 0 ≤ x9 then (if x9 < (x1.length : Int) then ((antecedentref18_Part.f k (([x63] : List Int)) (rd_L3 x1 x9)).bind fun t347 => (if t347 = true then (antecedentlaw18_ChainTurned.l2 k x0 x1 x5 x6 x7 x8 x9 x10 x11 x40 x41 x62 (wrap64 (x63 + 1))) else (if x11.length < 17592186044416 then (antecedentlaw18_ChainTurned.l2 k x0 x1 x5 x6 x7 x8 x9 x10 (x11 ++ [x63]) x40 x41 x62 (wrap64 (x63 + 1))) else (none)))) else (none)) else (none)) else (if x8 = true then (if x6.length < 5864062014805 then (if x7.length < 5864062014805 then (antecedentlaw18_ChainTurned.l0 k x0 x1 x5 (x6 ++ [x10]) (x7 ++ [x11]) true x40 (wrap64 (x41 + 1))) else (none)) else (none)) else (if 0 ≤ x9 then (if x9 < (x1.length : Int) then (if ((rd_L3 x1 x9).length : Int) = 0 then (if x6.length < 5864062014805 then (if x7.length < 5864062014805 then (antecedentlaw18_ChainTurned.l0 k x0 x1 x5 (x6 ++ [x10]) (x7 ++ [x11]) true x40 (wrap64 (x41 + 1))) else (none)) else (none)) else (if x6.length < 5864062014805 then (if x7.length < 5864062014805 then (antecedentlaw18_ChainTurned.l0 k x0 x1 x5 (x6 ++ [x10]) (x7 ++ [x11]) (((rd_L3 x1 x9).length : Int) == (x0.length : Int)) x40 (wrap64 (x41 + 1))) else (none)) else (none))) else (none)) else (none)))
end
def antecedentlaw18_ChainTurned.f (k : Nat) (l0 : List Int) (l1 : List (List Int)) : Option (Bool) := (antecedentlaw18_awake.f k).bind fun t330 => (if t330 = true then ((antecedentlaw18_few.f k l1).bind fun t331 => (if t331 = true then (if (l0.length : Int) > 8 then (antecedentlaw18_ChainTurned.j0 k l0 l1 true) else ((antecedentref03_Perm.f k l0).bind fun t332 => (antecedentlaw18_ChainTurned.j0 k l0 l1 (!t332)))) else (antecedentlaw18_ChainTurned.j0 k l0 l1 true))) else (none))
theorem antecedentlaw18_ChainTurned.mono_l : ∀ k, (∀ y0 y1 y2, LeO (antecedentlaw18_ChainTurned.j0 k y0 y1 y2) (antecedentlaw18_ChainTurned.j0 (k + 1) y0 y1 y2)) ∧ (∀ y0 y1 y2 y3 y4 y5 y6 y7, LeO (antecedentlaw18_ChainTurned.l0 k y0 y1 y2 y3 y4 y5 y6 y7) (antecedentlaw18_ChainTurned.l0 (k + 1) y0 y1 y2 y3 y4 y5 y6 y7)) ∧ (∀ y0 y1 y2 y3 y4 y5 y6 y7 y8 y9 y10 y11 y12, LeO (antecedentlaw18_ChainTurned.l1 k y0 y1 y2 y3 y4 y5 y6 y7 y8 y9 y10 y11 y12) (antecedentlaw18_ChainTurned.l1 (k + 1) y0 y1 y2 y3 y4 y5 y6 y7 y8 y9 y10 y11 y12)) ∧ (∀ y0 y1 y2 y3 y4 y5 y6 y7 y8 y9 y10 y11 y12, LeO (antecedentlaw18_ChainTurned.l2 k y0 y1 y2 y3 y4 y5 y6 y7 y8 y9 y10 y11 y12) (antecedentlaw18_ChainTurned.l2 (k + 1) y0 y1 y2 y3 y4 y5 y6 y7 y8 y9 y10 y11 y12))
  | 0 => ⟨fun _ _ _ r h => by simp [antecedentlaw18_ChainTurned.j0] at h, fun _ _ _ _ _ _ _ _ r h => by simp [antecedentlaw18_ChainTurned.l0] at h, fun _ _ _ _ _ _ _ _ _ _ _ _ _ r h => by simp [antecedentlaw18_ChainTurned.l1] at h, fun _ _ _ _ _ _ _ _ _ _ _ _ _ r h => by simp [antecedentlaw18_ChainTurned.l2] at h⟩
  | k + 1 => by
    obtain ⟨ih0, ih1, ih2, ih3⟩ := antecedentlaw18_ChainTurned.mono_l k
    refine ⟨?_, ?_, ?_, ?_⟩
    · intro y0 y1 y2
      unfold antecedentlaw18_ChainTurned.j0
      repeat' first
      | (with_reducible exact ih0 _ _ _)
      | (with_reducible exact ih1 _ _ _ _ _ _ _ _)
      | (with_reducible exact ih2 _ _ _ _ _ _ _ _ _ _ _ _ _)
      | (with_reducible exact ih3 _ _ _ _ _ _ _ _ _ _ _ _ _)
      | (with_reducible exact antecedentlaw18_awake.mono _)
      | (with_reducible exact antecedentlaw18_few.mono _ _)
      | (with_reducible exact antecedentref03_Perm.mono _ _)
      | (with_reducible exact antecedentref18_Part.mono _ _ _)
      | (with_reducible exact chain_Least.mono _ _ _)
      | (with_reducible exact LeO.refl _)
      | (with_reducible exact LeO.none _)
      | (with_reducible refine LeO.ite ?_ ?_)
      | (with_reducible refine LeO.bind ?_ (fun _ => ?_))
      | exact ih0 _ _ _
      | exact ih1 _ _ _ _ _ _ _ _
      | exact ih2 _ _ _ _ _ _ _ _ _ _ _ _ _
      | exact ih3 _ _ _ _ _ _ _ _ _ _ _ _ _
      | exact antecedentlaw18_awake.mono _
      | exact antecedentlaw18_few.mono _ _
      | exact antecedentref03_Perm.mono _ _
      | exact antecedentref18_Part.mono _ _ _
      | exact chain_Least.mono _ _ _
      | exact LeO.none _
      | refine LeO.ite ?_ ?_
      | refine LeO.bind ?_ (fun _ => ?_)
    · intro y0 y1 y2 y3 y4 y5 y6 y7
      unfold antecedentlaw18_ChainTurned.l0
      repeat' first
      | (with_reducible exact ih0 _ _ _)
      | (with_reducible exact ih1 _ _ _ _ _ _ _ _)
      | (with_reducible exact ih2 _ _ _ _ _ _ _ _ _ _ _ _ _)
      | (with_reducible exact ih3 _ _ _ _ _ _ _ _ _ _ _ _ _)
      | (with_reducible exact antecedentlaw18_awake.mono _)
      | (with_reducible exact antecedentlaw18_few.mono _ _)
      | (with_reducible exact antecedentref03_Perm.mono _ _)
      | (with_reducible exact antecedentref18_Part.mono _ _ _)
      | (with_reducible exact chain_Least.mono _ _ _)
      | (with_reducible exact LeO.refl _)
      | (with_reducible exact LeO.none _)
      | (with_reducible refine LeO.ite ?_ ?_)
      | (with_reducible refine LeO.bind ?_ (fun _ => ?_))
      | exact ih0 _ _ _
      | exact ih1 _ _ _ _ _ _ _ _
      | exact ih2 _ _ _ _ _ _ _ _ _ _ _ _ _
      | exact ih3 _ _ _ _ _ _ _ _ _ _ _ _ _
      | exact antecedentlaw18_awake.mono _
      | exact antecedentlaw18_few.mono _ _
      | exact antecedentref03_Perm.mono _ _
      | exact antecedentref18_Part.mono _ _ _
      | exact chain_Least.mono _ _ _
      | exact LeO.none _
      | refine LeO.ite ?_ ?_
      | refine LeO.bind ?_ (fun _ => ?_)
    · intro y0 y1 y2 y3 y4 y5 y6 y7 y8 y9 y10 y11 y12
      unfold antecedentlaw18_ChainTurned.l1
      repeat' first
      | (with_reducible exact ih0 _ _ _)
      | (with_reducible exact ih1 _ _ _ _ _ _ _ _)
      | (with_reducible exact ih2 _ _ _ _ _ _ _ _ _ _ _ _ _)
      | (with_reducible exact ih3 _ _ _ _ _ _ _ _ _ _ _ _ _)
      | (with_reducible exact antecedentlaw18_awake.mono _)
      | (with_reducible exact antecedentlaw18_few.mono _ _)
      | (with_reducible exact antecedentref03_Perm.mono _ _)
      | (with_reducible exact antecedentref18_Part.mono _ _ _)
      | (with_reducible exact chain_Least.mono _ _ _)
      | (with_reducible exact LeO.refl _)
      | (with_reducible exact LeO.none _)
      | (with_reducible refine LeO.ite ?_ ?_)
      | (with_reducible refine LeO.bind ?_ (fun _ => ?_))
      | exact ih0 _ _ _
      | exact ih1 _ _ _ _ _ _ _ _
      | exact ih2 _ _ _ _ _ _ _ _ _ _ _ _ _
      | exact ih3 _ _ _ _ _ _ _ _ _ _ _ _ _
      | exact antecedentlaw18_awake.mono _
      | exact antecedentlaw18_few.mono _ _
      | exact antecedentref03_Perm.mono _ _
      | exact antecedentref18_Part.mono _ _ _
      | exact chain_Least.mono _ _ _
      | exact LeO.none _
      | refine LeO.ite ?_ ?_
      | refine LeO.bind ?_ (fun _ => ?_)
    · intro y0 y1 y2 y3 y4 y5 y6 y7 y8 y9 y10 y11 y12
      unfold antecedentlaw18_ChainTurned.l2
      repeat' first
      | (with_reducible exact ih0 _ _ _)
      | (with_reducible exact ih1 _ _ _ _ _ _ _ _)
      | (with_reducible exact ih2 _ _ _ _ _ _ _ _ _ _ _ _ _)
      | (with_reducible exact ih3 _ _ _ _ _ _ _ _ _ _ _ _ _)
      | (with_reducible exact antecedentlaw18_awake.mono _)
      | (with_reducible exact antecedentlaw18_few.mono _ _)
      | (with_reducible exact antecedentref03_Perm.mono _ _)
      | (with_reducible exact antecedentref18_Part.mono _ _ _)
      | (with_reducible exact chain_Least.mono _ _ _)
      | (with_reducible exact LeO.refl _)
      | (with_reducible exact LeO.none _)
      | (with_reducible refine LeO.ite ?_ ?_)
      | (with_reducible refine LeO.bind ?_ (fun _ => ?_))
      | exact ih0 _ _ _
      | exact ih1 _ _ _ _ _ _ _ _
      | exact ih2 _ _ _ _ _ _ _ _ _ _ _ _ _
      | exact ih3 _ _ _ _ _ _ _ _ _ _ _ _ _
      | exact antecedentlaw18_awake.mono _
      | exact antecedentlaw18_few.mono _ _
      | exact antecedentref03_Perm.mono _ _
      | exact antecedentref18_Part.mono _ _ _
      | exact chain_Least.mono _ _ _
      | exact LeO.none _
      | refine LeO.ite ?_ ?_
      | refine LeO.bind ?_ (fun _ => ?_)
theorem antecedentlaw18_ChainTurned.mono : ∀ a0 a1 k, LeO (antecedentlaw18_ChainTurned.f k a0 a1) (antecedentlaw18_ChainTurned.f (k + 1) a0 a1) := by
  intro a0 a1 k
  obtain ⟨ih0, ih1, ih2, ih3⟩ := antecedentlaw18_ChainTurned.mono_l k
  unfold antecedentlaw18_ChainTurned.f
  repeat' first
      | (with_reducible exact ih0 _ _ _)
      | (with_reducible exact ih1 _ _ _ _ _ _ _ _)
      | (with_reducible exact ih2 _ _ _ _ _ _ _ _ _ _ _ _ _)
      | (with_reducible exact ih3 _ _ _ _ _ _ _ _ _ _ _ _ _)
      | (with_reducible exact antecedentlaw18_awake.mono _)
      | (with_reducible exact antecedentlaw18_few.mono _ _)
      | (with_reducible exact antecedentref03_Perm.mono _ _)
      | (with_reducible exact antecedentref18_Part.mono _ _ _)
      | (with_reducible exact chain_Least.mono _ _ _)
      | (with_reducible exact LeO.refl _)
      | (with_reducible exact LeO.none _)
      | (with_reducible refine LeO.ite ?_ ?_)
      | (with_reducible refine LeO.bind ?_ (fun _ => ?_))
      | exact ih0 _ _ _
      | exact ih1 _ _ _ _ _ _ _ _
      | exact ih2 _ _ _ _ _ _ _ _ _ _ _ _ _
      | exact ih3 _ _ _ _ _ _ _ _ _ _ _ _ _
      | exact antecedentlaw18_awake.mono _
      | exact antecedentlaw18_few.mono _ _
      | exact antecedentref03_Perm.mono _ _
      | exact antecedentref18_Part.mono _ _ _
      | exact chain_Least.mono _ _ _
      | exact LeO.none _
      | refine LeO.ite ?_ ?_
      | refine LeO.bind ?_ (fun _ => ?_)
end Go.Proofs.Ytliocmjeglbpiaa.Ps
