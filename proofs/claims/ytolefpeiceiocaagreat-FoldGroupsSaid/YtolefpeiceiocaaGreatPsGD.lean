/- HOW FACTS GO OVER FROM A WORLD TO A LATER ONE, in few words. No condition. -/
import Derived.Test.YtolefpeiceiocaaGreatWMore
import Derived.Test.YtolefpeiceiocaaGreatWN
import Derived.Test.YtolefpeiceiocaaGreatWShare
import Derived.Test.YtolefpeiceiocaaGreatPs0
import Derived.Test.YtolefpeiceiocaaGreatPs3
import Derived.Test.YtolefpeiceiocaaGreatPs5
import Derived.Test.YtolefpeiceiocaaGreatGref
set_option linter.unusedVariables false
namespace Go.Proofs.YtolefpeiceiocaaGreatW.PrintWords
open Go Go.RowKit
/-- W is w, with more made and drawn -/
class Up (w W : World) : Prop where up : Below w.heap.size w W
instance up_refl (w : World) : Up w w := ⟨Below.refl _ _⟩
instance up_alloc (w W : World) (o : Obj) [h : Up w W] : Up w (W.alloc o) := ⟨below_alloc h.up o⟩
instance up_drew (w W : World) [h : Up w W] : Up w W.drew := ⟨below_drew h.up⟩
instance up_drewN (w W : World) (n : Nat) [h : Up w W] : Up w (W.drewN n) := ⟨pw_below_drewN h.up n⟩
section
variable {α : Type} {d : Kd α} {e base n : Nat} {w w0 W : World} {ok : Nat → Prop} {A : Option Addr} {v : Value} {xs : List α}
theorem uv (h : Kd.V d e w base ok v xs) [u : Up w W] : Kd.V d e W base ok v xs := Kd.V_below h u.up
theorem ur (h : Kd.R d e w base ok v xs) [u : Up w W] : Kd.R d e W base ok v xs := Kd.R_below h u.up
theorem un (h : Kd.N d e w base ok v xs) [u : Up w W] : Kd.N d e W base ok v xs := Kd.N_below h u.up
theorem uc (h : Kd.C d w A n xs) [u : Up w W] : Kd.C d W A n xs := Kd.C_below h u.up
theorem ul {g : Nat} {o : Obj} (h : w.heap[g]? = some o) [u : Up w W] : W.heap[g]? = some o := blk_below h u.up
theorem ub (h : Below w0.heap.size w0 w) [u : Up w W] : Below w0.heap.size w0 W := below_then h h.size u.up
end
theorem blk3 {w : World} {g : Nat} {t : TypeId} {v0 v1 v2 : Value} (h : w.heap[g]? = some (.cells #[v0, v1, v2] t (0, 0))) : w.cell? ⟨g, 0, none⟩ = some v0 ∧ w.cell? ⟨g, 1, none⟩ = some v1 ∧ w.cell? ⟨g, 2, none⟩ = some v2 := ⟨blk_cell h 0, blk_cell h 1, blk_cell h 2⟩
theorem frz3 {w : World} {g : Nat} {t : TypeId} {cs : Array Value} (h : w.heap[g]? = some (.cells cs t (0, 0))) : w.frozen? ⟨g, 0, none⟩ = false ∧ w.frozen? ⟨g, 1, none⟩ = false ∧ w.frozen? ⟨g, 2, none⟩ = false := ⟨blk_frozen h 0, blk_frozen h 1, blk_frozen h 2⟩
end Go.Proofs.YtolefpeiceiocaaGreatW.PrintWords
-- printed by a program of this session out of the translation
namespace Go.Proofs.YtolefpeiceiocaaGreat.Ps
open Go.RowKit Go.Proofs.YtolefpeiceiocaaGreatW.PrintWords Go.Proofs.YtolefpeiceiocaaGreatW.PrintLast Go.Proofs.YtolefpeiceiocaaGreatW.PrintMore
attribute [local go_sem] max2_int min2_int max_two min_two max_three min_three max_four min_four   -- for this text's walks alone
set_option linter.unusedVariables false
set_option linter.unusedSimpArgs false

theorem k25_heap : Kd.Heap k25 := Kd.heap_iso _ (Kd.heap_pair (Kd.heap_int .i64) (Kd.heap_pair (Kd.heap_int .i64) Kd.heap_string))
mutual
def antecedentref20_Groups.l0 : Nat → Int → List (List (S25)) → Int → Int → Option ((List (List (S25))) × Int)
  | 0, _, _, _, _ => none
  | k + 1, x0, x1, x20, x21 => if x21 < x20 then (if 0 ≤ x21 then (if x21 < (x1.length : Int) then (if ((rd_L3 x1 x21).length : Int) = 0 then (some (([] : List (List (S25))), 1)) else (if 0 < (x1.length : Int) then (if ((rd_L3 x1 x21).length : Int) = ((rd_L3 x1 0).length : Int) then (antecedentref20_Groups.l0 k x0 x1 x20 (wrap64 (x21 + 1))) else (some (([] : List (List (S25))), 1))) else (none))) else (none)) else (none)) else (antecedentref20_Groups.l1 k x0 x1 ([] : List (List (S25))) (x1.length : Int) 0)
def antecedentref20_Groups.l1 : Nat → Int → List (List (S25)) → List (List (S25)) → Int → Int → Option ((List (List (S25))) × Int)
  | 0, _, _, _, _, _ => none
  | k + 1, x0, x1, x7, x44, x45 => if x45 < x44 then (if 0 ≤ x45 then (if x45 < (x1.length : Int) then (if 0 ≤ (wrap64 (((rd_L3 x1 x45).length : Int) - 1)) then (if (wrap64 (((rd_L3 x1 x45).length : Int) - 1)) ≤ ((rd_L3 x1 x45).length : Int) then (antecedentref20_Groups.l2 k x0 x1 x7 ((rd_L3 x1 x45).take ((wrap64 (((rd_L3 x1 x45).length : Int) - 1)) : Int).toNat) 0 x44 x45) else (none)) else (none)) else (none)) else (none)) else (antecedentref20_Groups.l3 k x0 x1 x7 ([] : List (List (S25))) (x7.length : Int) 0)
def antecedentref20_Groups.l2 : Nat → Int → List (List (S25)) → List (List (S25)) → List (S25) → Int → Int → Int → Option ((List (List (S25))) × Int)
  | 0, _, _, _, _, _, _, _ => none
  | k + 1, x0, x1, x7, x9, x10, x44, x45 => if x10 < (x7.length : Int) then (if 0 ≤ x10 then ((antecedentref03_Order.f k (rd_L3 x7 x10) x9).bind fun t243 => (if t243 < 0 then (antecedentref20_Groups.l2 k x0 x1 x7 x9 (wrap64 (x10 + 1)) x44 x45) else ((antecedentref03_Order.f k (rd_L3 x7 x10) x9).bind fun t245 => (if t245 = 0 then (antecedentref20_Groups.l1 k x0 x1 x7 x44 (wrap64 (x45 + 1))) else (if x10 ≤ (x7.length : Int) then ((some (x7.take (x10 : Int).toNat : List (List (S25)))).bind fun y246 => (if ([] : List (List (S25))).length + y246.length < 5864062014805 then ((some (([] : List (List (S25))) ++ y246 : List (List (S25)))).bind fun y251 => ((some (([x9] : List (List (S25))) : List (List (S25)))).bind fun y254 => (if y251.length + y254.length < 5864062014805 then ((some (y251 ++ y254 : List (List (S25)))).bind fun y257 => ((some (x7.drop (x10 : Int).toNat : List (List (S25)))).bind fun y260 => (if y257.length + y260.length < 5864062014805 then (antecedentref20_Groups.l1 k x0 x1 (y257 ++ y260) x44 (wrap64 (x45 + 1))) else (none)))) else (none)))) else (none))) else (none)))))) else (none)) else (if 0 ≤ x10 then (if x10 ≤ (x7.length : Int) then ((some (x7.take (x10 : Int).toNat : List (List (S25)))).bind fun y268 => (if ([] : List (List (S25))).length + y268.length < 5864062014805 then ((some (([] : List (List (S25))) ++ y268 : List (List (S25)))).bind fun y273 => ((some (([x9] : List (List (S25))) : List (List (S25)))).bind fun y276 => (if y273.length + y276.length < 5864062014805 then ((some (y273 ++ y276 : List (List (S25)))).bind fun y279 => ((some (x7.drop (x10 : Int).toNat : List (List (S25)))).bind fun y282 => (if y279.length + y282.length < 5864062014805 then (antecedentref20_Groups.l1 k x0 x1 (y279 ++ y282) x44 (wrap64 (x45 + 1))) else (none)))) else (none)))) else (none))) else (none)) else (none))
def antecedentref20_Groups.l3 : Nat → Int → List (List (S25)) → List (List (S25)) → List (List (S25)) → Int → Int → Option ((List (List (S25))) × Int)
  | 0, _, _, _, _, _, _ => none
  | k + 1, x0, x1, x7, x12, x102, x103 => if x103 < x102 then (antecedentref20_Groups.l4 k x0 x1 x7 x12 x103 ([] : List (S25)) x102 x103 (x1.length : Int) 0) else (some (x12, 0))
def antecedentref20_Groups.l4 : Nat → Int → List (List (S25)) → List (List (S25)) → List (List (S25)) → Int → List (S25) → Int → Int → Int → Int → Option ((List (List (S25))) × Int)
  | 0, _, _, _, _, _, _, _, _, _, _ => none
  | k + 1, x0, x1, x7, x12, x13, x14, x102, x103, x107, x108 => if x108 < x107 then (if 0 ≤ x108 then (if x108 < (x1.length : Int) then (if 0 ≤ (wrap64 (((rd_L3 x1 x108).length : Int) - 1)) then (if (wrap64 (((rd_L3 x1 x108).length : Int) - 1)) ≤ ((rd_L3 x1 x108).length : Int) then (if 0 ≤ x13 then (if x13 ≤ (wrap64 (x13 + 1)) then (if (wrap64 (x13 + 1)) ≤ (x7.length : Int) then ((antecedentref04_Same.f k (([((rd_L3 x1 x108).take ((wrap64 (((rd_L3 x1 x108).length : Int) - 1)) : Int).toNat)] : List (List (S25)))) ((x7.take ((wrap64 (x13 + 1)) : Int).toNat).drop (x13 : Int).toNat)).bind fun t305 => (if t305 = true then (if (wrap64 (((rd_L3 x1 x108).length : Int) - 1)) < ((rd_L3 x1 x108).length : Int) then ((some (([(⟨(rd_T25 (rd_L3 x1 x108) (wrap64 (((rd_L3 x1 x108).length : Int) - 1))).f0, (rd_T25 (rd_L3 x1 x108) (wrap64 (((rd_L3 x1 x108).length : Int) - 1))).f1, (rd_T25 (rd_L3 x1 x108) (wrap64 (((rd_L3 x1 x108).length : Int) - 1))).f2⟩ : S25)] : List (S25)) : List (S25))).bind fun y308 => (if x14.length + y308.length < 4398046511104 then (antecedentref20_Groups.l4 k x0 x1 x7 x12 x13 (x14 ++ y308) x102 x103 x107 (wrap64 (x108 + 1))) else (none))) else (none)) else (antecedentref20_Groups.l4 k x0 x1 x7 x12 x13 x14 x102 x103 x107 (wrap64 (x108 + 1))))) else (none)) else (none)) else (none)) else (none)) else (none)) else (none)) else (none)) else ((antecedentref20_Of.f x0 x14).bind fun bt314 => (if bt314.2.2.2 = 0 then ((some (([] : List (S25)) : List (S25))).bind fun y319 => (if 0 ≤ x13 then (if x13 < (x7.length : Int) then (if y319.length + (rd_L3 x7 x13).length < 4398046511104 then ((some (y319 ++ (rd_L3 x7 x13) : List (S25))).bind fun y323 => ((some (([(⟨bt314.1, bt314.2.1, bt314.2.2.1⟩ : S25)] : List (S25)) : List (S25))).bind fun y326 => (if y323.length + y326.length < 4398046511104 then ((some (([(y323 ++ y326)] : List (List (S25))) : List (List (S25)))).bind fun y332 => (if x12.length + y332.length < 5864062014805 then (antecedentref20_Groups.l3 k x0 x1 x7 (x12 ++ y332) x102 (wrap64 (x103 + 1))) else (none))) else (none)))) else (none)) else (none)) else (none))) else (some (([] : List (List (S25))), bt314.2.2.2))))
end
def antecedentref20_Groups.f (k : Nat) (a0 : Int) (l1 : List (List (S25))) : Option ((List (List (S25))) × Int) := antecedentref20_Groups.l0 k a0 l1 (l1.length : Int) 0
theorem antecedentref20_Groups.mono_l : ∀ k, (∀ y0 y1 y2 y3, LeO (antecedentref20_Groups.l0 k y0 y1 y2 y3) (antecedentref20_Groups.l0 (k + 1) y0 y1 y2 y3)) ∧ (∀ y0 y1 y2 y3 y4, LeO (antecedentref20_Groups.l1 k y0 y1 y2 y3 y4) (antecedentref20_Groups.l1 (k + 1) y0 y1 y2 y3 y4)) ∧ (∀ y0 y1 y2 y3 y4 y5 y6, LeO (antecedentref20_Groups.l2 k y0 y1 y2 y3 y4 y5 y6) (antecedentref20_Groups.l2 (k + 1) y0 y1 y2 y3 y4 y5 y6)) ∧ (∀ y0 y1 y2 y3 y4 y5, LeO (antecedentref20_Groups.l3 k y0 y1 y2 y3 y4 y5) (antecedentref20_Groups.l3 (k + 1) y0 y1 y2 y3 y4 y5)) ∧ (∀ y0 y1 y2 y3 y4 y5 y6 y7 y8 y9, LeO (antecedentref20_Groups.l4 k y0 y1 y2 y3 y4 y5 y6 y7 y8 y9) (antecedentref20_Groups.l4 (k + 1) y0 y1 y2 y3 y4 y5 y6 y7 y8 y9))
  | 0 => ⟨fun _ _ _ _ r h => by simp [antecedentref20_Groups.l0] at h, fun _ _ _ _ _ r h => by simp [antecedentref20_Groups.l1] at h, fun _ _ _ _ _ _ _ r h => by simp [antecedentref20_Groups.l2] at h, fun _ _ _ _ _ _ r h => by simp [antecedentref20_Groups.l3] at h, fun _ _ _ _ _ _ _ _ _ _ r h => by simp [antecedentref20_Groups.l4] at h⟩
  | k + 1 => by
    obtain ⟨ih0, ih1, ih2, ih3, ih4⟩ := antecedentref20_Groups.mono_l k
    refine ⟨?_, ?_, ?_, ?_, ?_⟩
    · intro y0 y1 y2 y3
      unfold antecedentref20_Groups.l0
      repeat' first
      | (with_reducible exact ih0 _ _ _ _)
      | (with_reducible exact ih1 _ _ _ _ _)
      | (with_reducible exact ih2 _ _ _ _ _ _ _)
      | (with_reducible exact ih3 _ _ _ _ _ _)
      | (with_reducible exact ih4 _ _ _ _ _ _ _ _ _ _)
      | (with_reducible exact antecedentref03_Order.mono _ _ _)
      | (with_reducible exact antecedentref04_Same.mono _ _ _)
      | (with_reducible exact LeO.refl _)
      | (with_reducible exact LeO.none _)
      | (with_reducible refine LeO.ite ?_ ?_)
      | (with_reducible refine LeO.bind ?_ (fun _ => ?_))
      | exact ih0 _ _ _ _
      | exact ih1 _ _ _ _ _
      | exact ih2 _ _ _ _ _ _ _
      | exact ih3 _ _ _ _ _ _
      | exact ih4 _ _ _ _ _ _ _ _ _ _
      | exact antecedentref03_Order.mono _ _ _
      | exact antecedentref04_Same.mono _ _ _
      | exact LeO.none _
      | refine LeO.ite ?_ ?_
      | refine LeO.bind ?_ (fun _ => ?_)
    · intro y0 y1 y2 y3 y4
      unfold antecedentref20_Groups.l1
      repeat' first
      | (with_reducible exact ih0 _ _ _ _)
      | (with_reducible exact ih1 _ _ _ _ _)
      | (with_reducible exact ih2 _ _ _ _ _ _ _)
      | (with_reducible exact ih3 _ _ _ _ _ _)
      | (with_reducible exact ih4 _ _ _ _ _ _ _ _ _ _)
      | (with_reducible exact antecedentref03_Order.mono _ _ _)
      | (with_reducible exact antecedentref04_Same.mono _ _ _)
      | (with_reducible exact LeO.refl _)
      | (with_reducible exact LeO.none _)
      | (with_reducible refine LeO.ite ?_ ?_)
      | (with_reducible refine LeO.bind ?_ (fun _ => ?_))
      | exact ih0 _ _ _ _
      | exact ih1 _ _ _ _ _
      | exact ih2 _ _ _ _ _ _ _
      | exact ih3 _ _ _ _ _ _
      | exact ih4 _ _ _ _ _ _ _ _ _ _
      | exact antecedentref03_Order.mono _ _ _
      | exact antecedentref04_Same.mono _ _ _
      | exact LeO.none _
      | refine LeO.ite ?_ ?_
      | refine LeO.bind ?_ (fun _ => ?_)
    · intro y0 y1 y2 y3 y4 y5 y6
      unfold antecedentref20_Groups.l2
      repeat' first
      | (with_reducible exact ih0 _ _ _ _)
      | (with_reducible exact ih1 _ _ _ _ _)
      | (with_reducible exact ih2 _ _ _ _ _ _ _)
      | (with_reducible exact ih3 _ _ _ _ _ _)
      | (with_reducible exact ih4 _ _ _ _ _ _ _ _ _ _)
      | (with_reducible exact antecedentref03_Order.mono _ _ _)
      | (with_reducible exact antecedentref04_Same.mono _ _ _)
      | (with_reducible exact LeO.refl _)
      | (with_reducible exact LeO.none _)
      | (with_reducible refine LeO.ite ?_ ?_)
      | (with_reducible refine LeO.bind ?_ (fun _ => ?_))
      | exact ih0 _ _ _ _
      | exact ih1 _ _ _ _ _
      | exact ih2 _ _ _ _ _ _ _
      | exact ih3 _ _ _ _ _ _
      | exact ih4 _ _ _ _ _ _ _ _ _ _
      | exact antecedentref03_Order.mono _ _ _
      | exact antecedentref04_Same.mono _ _ _
      | exact LeO.none _
      | refine LeO.ite ?_ ?_
      | refine LeO.bind ?_ (fun _ => ?_)
    · intro y0 y1 y2 y3 y4 y5
      unfold antecedentref20_Groups.l3
      repeat' first
      | (with_reducible exact ih0 _ _ _ _)
      | (with_reducible exact ih1 _ _ _ _ _)
      | (with_reducible exact ih2 _ _ _ _ _ _ _)
      | (with_reducible exact ih3 _ _ _ _ _ _)
      | (with_reducible exact ih4 _ _ _ _ _ _ _ _ _ _)
      | (with_reducible exact antecedentref03_Order.mono _ _ _)
      | (with_reducible exact antecedentref04_Same.mono _ _ _)
      | (with_reducible exact LeO.refl _)
      | (with_reducible exact LeO.none _)
      | (with_reducible refine LeO.ite ?_ ?_)
      | (with_reducible refine LeO.bind ?_ (fun _ => ?_))
      | exact ih0 _ _ _ _
      | exact ih1 _ _ _ _ _
      | exact ih2 _ _ _ _ _ _ _
      | exact ih3 _ _ _ _ _ _
      | exact ih4 _ _ _ _ _ _ _ _ _ _
      | exact antecedentref03_Order.mono _ _ _
      | exact antecedentref04_Same.mono _ _ _
      | exact LeO.none _
      | refine LeO.ite ?_ ?_
      | refine LeO.bind ?_ (fun _ => ?_)
    · intro y0 y1 y2 y3 y4 y5 y6 y7 y8 y9
      unfold antecedentref20_Groups.l4
      repeat' first
      | (with_reducible exact ih0 _ _ _ _)
      | (with_reducible exact ih1 _ _ _ _ _)
      | (with_reducible exact ih2 _ _ _ _ _ _ _)
      | (with_reducible exact ih3 _ _ _ _ _ _)
      | (with_reducible exact ih4 _ _ _ _ _ _ _ _ _ _)
      | (with_reducible exact antecedentref03_Order.mono _ _ _)
      | (with_reducible exact antecedentref04_Same.mono _ _ _)
      | (with_reducible exact LeO.refl _)
      | (with_reducible exact LeO.none _)
      | (with_reducible refine LeO.ite ?_ ?_)
      | (with_reducible refine LeO.bind ?_ (fun _ => ?_))
      | exact ih0 _ _ _ _
      | exact ih1 _ _ _ _ _
      | exact ih2 _ _ _ _ _ _ _
      | exact ih3 _ _ _ _ _ _
      | exact ih4 _ _ _ _ _ _ _ _ _ _
      | exact antecedentref03_Order.mono _ _ _
      | exact antecedentref04_Same.mono _ _ _
      | exact LeO.none _
      | refine LeO.ite ?_ ?_
      | refine LeO.bind ?_ (fun _ => ?_)
theorem antecedentref20_Groups.mono : ∀ a0 a1 k, LeO (antecedentref20_Groups.f k a0 a1) (antecedentref20_Groups.f (k + 1) a0 a1) := by
  intro a0 a1 k
  obtain ⟨ih0, ih1, ih2, ih3, ih4⟩ := antecedentref20_Groups.mono_l k
  unfold antecedentref20_Groups.f
  repeat' first
      | (with_reducible exact ih0 _ _ _ _)
      | (with_reducible exact ih1 _ _ _ _ _)
      | (with_reducible exact ih2 _ _ _ _ _ _ _)
      | (with_reducible exact ih3 _ _ _ _ _ _)
      | (with_reducible exact ih4 _ _ _ _ _ _ _ _ _ _)
      | (with_reducible exact antecedentref03_Order.mono _ _ _)
      | (with_reducible exact antecedentref04_Same.mono _ _ _)
      | (with_reducible exact LeO.refl _)
      | (with_reducible exact LeO.none _)
      | (with_reducible refine LeO.ite ?_ ?_)
      | (with_reducible refine LeO.bind ?_ (fun _ => ?_))
      | exact ih0 _ _ _ _
      | exact ih1 _ _ _ _ _
      | exact ih2 _ _ _ _ _ _ _
      | exact ih3 _ _ _ _ _ _
      | exact ih4 _ _ _ _ _ _ _ _ _ _
      | exact antecedentref03_Order.mono _ _ _
      | exact antecedentref04_Same.mono _ _ _
      | exact LeO.none _
      | refine LeO.ite ?_ ?_
      | refine LeO.bind ?_ (fun _ => ?_)
end Go.Proofs.YtolefpeiceiocaaGreat.Ps
