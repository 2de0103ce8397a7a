-- printed by a program of this session out of the translation: the functions, without their walks
import Derived.Test.YtmgbfgloegcloaaPs0
import Derived.Test.YtmgbfgloegcloaaGd
namespace Go.Proofs.Ytmgbfgloegcloaa.Ps
open Go.RowKit Go.Proofs.YtmgbfgloegcloaaW.PrintWords Go.Proofs.YtmgbfgloegcloaaW.PrintLast Go.Proofs.YtmgbfgloegcloaaW.PrintMore
set_option linter.unusedVariables false
set_option linter.unusedSimpArgs false

/-! ### safe_names -/
def safe_names.l0 : Nat → List ByteArray → List (S40) → Int → Int → Option (List ByteArray)
  | 0, _, _, _, _ => none
  | k + 1, x5, x10, x11, x12 => if x12 < x11 then (if 0 ≤ x12 then (if x12 < (x10.length : Int) then (if ((rd_T40 x10 x12).f0).toList = ([] : List UInt8) then (safe_names.l0 k x5 x10 x11 (wrap64 (x12 + 1))) else (if x5.length < 8796093022208 then (safe_names.l0 k (x5 ++ [(rd_T40 x10 x12).f0]) x10 x11 (wrap64 (x12 + 1))) else (none))) else (none)) else (none)) else ((slices_Sort_string_string.f x5).bind fun t109 => ((slices_Compact_string_string.f t109).bind fun t110 => (some t110)))
def safe_names.f (k : Nat) (l0 : List (S40)) (l1 : List ByteArray) : Option (List ByteArray) := (slices_Clone_string_string.f l1).bind fun t101 => (safe_names.l0 k t101 l0 (l0.length : Int) 0)
theorem safe_names.mono_l : ∀ k, (∀ y0 y1 y2 y3, LeO (safe_names.l0 k y0 y1 y2 y3) (safe_names.l0 (k + 1) y0 y1 y2 y3))
  | 0 => fun _ _ _ _ r h => by simp [safe_names.l0] at h
  | k + 1 => by
    have ih0 := safe_names.mono_l k
    · intro y0 y1 y2 y3
      unfold safe_names.l0
      repeat' first
      | (with_reducible exact ih0 _ _ _ _)
      | (with_reducible exact LeO.refl _)
      | (with_reducible exact LeO.none _)
      | (with_reducible refine LeO.ite ?_ ?_)
      | (with_reducible refine LeO.bind ?_ (fun _ => ?_))
      | exact ih0 _ _ _ _
      | exact LeO.none _
      | refine LeO.ite ?_ ?_
      | refine LeO.bind ?_ (fun _ => ?_)
theorem safe_names.mono : ∀ a0 a1 k, LeO (safe_names.f k a0 a1) (safe_names.f (k + 1) a0 a1) := by
  intro a0 a1 k
  have ih0 := safe_names.mono_l k
  unfold safe_names.f
  repeat' first
      | (with_reducible exact ih0 _ _ _ _)
      | (with_reducible exact LeO.refl _)
      | (with_reducible exact LeO.none _)
      | (with_reducible refine LeO.ite ?_ ?_)
      | (with_reducible refine LeO.bind ?_ (fun _ => ?_))
      | exact ih0 _ _ _ _
      | exact LeO.none _
      | refine LeO.ite ?_ ?_
      | refine LeO.bind ?_ (fun _ => ?_)
/-! ### api_Term_44 -/
mutual
def api_Term_44.l0 : Nat → List (List (S40)) → Int → List (List (S40)) → Int → Int → Option ((List (S40)))
  | 0, _, _, _, _, _ => none
  | k + 1, x0, x3, x9, x10, x11 => if x11 < x10 then (if 0 ≤ x11 then (if x11 < (x9.length : Int) then (if (wrap64 (x3 + ((rd_L5 x9 x11).length : Int))) < 0 then (none) else (api_Term_44.l0 k x0 (wrap64 (x3 + ((rd_L5 x9 x11).length : Int))) x9 x10 (wrap64 (x11 + 1)))) else (none)) else (none)) else ((api_Term_49.f ([] : List (S40)) x3).bind fun t114 => (api_Term_44.l1 k t114 x0 (x0.length : Int) 0))
def api_Term_44.l1 : Nat → List (S40) → List (List (S40)) → Int → Int → Option ((List (S40)))
  | 0, _, _, _, _ => none
  | k + 1, x6, x25, x26, x27 => if x27 < x26 then (if 0 ≤ x27 then (if x27 < (x25.length : Int) then (if x6.length + (rd_L5 x25 x27).length < 2932031007402 then (api_Term_44.l1 k (x6 ++ (rd_L5 x25 x27)) x25 x26 (wrap64 (x27 + 1))) else (none)) else (none)) else (none)) else (some x6)
end
def api_Term_44.f (k : Nat) (l0 : List (List (S40))) : Option ((List (S40))) := api_Term_44.l0 k l0 0 l0 (l0.length : Int) 0
theorem api_Term_44.mono_l : ∀ k, (∀ y0 y1 y2 y3 y4, LeO (api_Term_44.l0 k y0 y1 y2 y3 y4) (api_Term_44.l0 (k + 1) y0 y1 y2 y3 y4)) ∧ (∀ y0 y1 y2 y3, LeO (api_Term_44.l1 k y0 y1 y2 y3) (api_Term_44.l1 (k + 1) y0 y1 y2 y3))
  | 0 => ⟨fun _ _ _ _ _ r h => by simp [api_Term_44.l0] at h, fun _ _ _ _ r h => by simp [api_Term_44.l1] at h⟩
  | k + 1 => by
    obtain ⟨ih0, ih1⟩ := api_Term_44.mono_l k
    refine ⟨?_, ?_⟩
    · intro y0 y1 y2 y3 y4
      unfold api_Term_44.l0
      repeat' first
      | (with_reducible exact ih0 _ _ _ _ _)
      | (with_reducible exact ih1 _ _ _ _)
      | (with_reducible exact LeO.refl _)
      | (with_reducible exact LeO.none _)
      | (with_reducible refine LeO.ite ?_ ?_)
      | (with_reducible refine LeO.bind ?_ (fun _ => ?_))
      | exact ih0 _ _ _ _ _
      | exact ih1 _ _ _ _
      | exact LeO.none _
      | refine LeO.ite ?_ ?_
      | refine LeO.bind ?_ (fun _ => ?_)
    · intro y0 y1 y2 y3
      unfold api_Term_44.l1
      repeat' first
      | (with_reducible exact ih0 _ _ _ _ _)
      | (with_reducible exact ih1 _ _ _ _)
      | (with_reducible exact LeO.refl _)
      | (with_reducible exact LeO.none _)
      | (with_reducible refine LeO.ite ?_ ?_)
      | (with_reducible refine LeO.bind ?_ (fun _ => ?_))
      | exact ih0 _ _ _ _ _
      | exact ih1 _ _ _ _
      | exact LeO.none _
      | refine LeO.ite ?_ ?_
      | refine LeO.bind ?_ (fun _ => ?_)
theorem api_Term_44.mono : ∀ a0 k, LeO (api_Term_44.f k a0) (api_Term_44.f (k + 1) a0) := by
  intro a0 k
  obtain ⟨ih0, ih1⟩ := api_Term_44.mono_l k
  unfold api_Term_44.f
  repeat' first
      | (with_reducible exact ih0 _ _ _ _ _)
      | (with_reducible exact ih1 _ _ _ _)
      | (with_reducible exact LeO.refl _)
      | (with_reducible exact LeO.none _)
      | (with_reducible refine LeO.ite ?_ ?_)
      | (with_reducible refine LeO.bind ?_ (fun _ => ?_))
      | exact ih0 _ _ _ _ _
      | exact ih1 _ _ _ _
      | exact LeO.none _
      | refine LeO.ite ?_ ?_
      | refine LeO.bind ?_ (fun _ => ?_)
/-! ### safe_terms -/
def safe_terms.f (k : Nat) (a0_0 : Int) (a0_1 : ByteArray) (l0_2 : List (S40)) (a0_3 : ByteArray) (a0_4 : ByteArray) (a0_5 : Int) (a0_6 : Int) (a0_7 : ByteArray) (a0_8 : ByteArray) (a0_9 : Int) (a0_10 : Int) (a0_11 : ByteArray) (a0_12 : ByteArray) (a0_13 : Int) (a0_14 : Int) (a0_15 : ByteArray) (l0_16 : List (S82)) : Option ((List (S40))) := (api_Term_44.f k (([l0_2, (([(⟨a0_4, (⟨a0_5, a0_6, a0_7⟩ : S38)⟩ : S40), (⟨a0_8, (⟨a0_9, a0_10, a0_11⟩ : S38)⟩ : S40), (⟨a0_12, (⟨a0_13, a0_14, a0_15⟩ : S38)⟩ : S40)] : List (S40)))] : List (List (S40))))).bind fun t128 => (some t128)
theorem safe_terms.mono : ∀ a0 a1 a2 a3 a4 a5 a6 a7 a8 a9 a10 a11 a12 a13 a14 a15 a16 k, LeO (safe_terms.f k a0 a1 a2 a3 a4 a5 a6 a7 a8 a9 a10 a11 a12 a13 a14 a15 a16) (safe_terms.f (k + 1) a0 a1 a2 a3 a4 a5 a6 a7 a8 a9 a10 a11 a12 a13 a14 a15 a16) := by
  intro a0 a1 a2 a3 a4 a5 a6 a7 a8 a9 a10 a11 a12 a13 a14 a15 a16 k
  unfold safe_terms.f
  repeat' first
      | (with_reducible exact api_Term_44.mono _ _)
      | (with_reducible exact LeO.refl _)
      | (with_reducible exact LeO.none _)
      | (with_reducible refine LeO.ite ?_ ?_)
      | (with_reducible refine LeO.bind ?_ (fun _ => ?_))
      | exact api_Term_44.mono _ _
      | exact LeO.none _
      | refine LeO.ite ?_ ?_
      | refine LeO.bind ?_ (fun _ => ?_)
/-! ### safe_Binds -/
def safe_Binds.f (k : Nat) (a0_0 : Int) (a0_1 : ByteArray) (l0_2 : List (S40)) (a0_3 : ByteArray) (a0_4 : ByteArray) (a0_5 : Int) (a0_6 : Int) (a0_7 : ByteArray) (a0_8 : ByteArray) (a0_9 : Int) (a0_10 : Int) (a0_11 : ByteArray) (a0_12 : ByteArray) (a0_13 : Int) (a0_14 : Int) (a0_15 : ByteArray) (l0_16 : List (S82)) (l1 : List ByteArray) : Option (List ByteArray) := (safe_terms.f k a0_0 a0_1 l0_2 a0_3 a0_4 a0_5 a0_6 a0_7 a0_8 a0_9 a0_10 a0_11 a0_12 a0_13 a0_14 a0_15 l0_16).bind fun t132 => ((safe_names.f k t132 l1).bind fun t135 => (some t135))
theorem safe_Binds.mono : ∀ a0 a1 a2 a3 a4 a5 a6 a7 a8 a9 a10 a11 a12 a13 a14 a15 a16 a17 k, LeO (safe_Binds.f k a0 a1 a2 a3 a4 a5 a6 a7 a8 a9 a10 a11 a12 a13 a14 a15 a16 a17) (safe_Binds.f (k + 1) a0 a1 a2 a3 a4 a5 a6 a7 a8 a9 a10 a11 a12 a13 a14 a15 a16 a17) := by
  intro a0 a1 a2 a3 a4 a5 a6 a7 a8 a9 a10 a11 a12 a13 a14 a15 a16 a17 k
  unfold safe_Binds.f
  repeat' first
      | (with_reducible exact safe_names.mono _ _ _)
      | (with_reducible exact safe_terms.mono _ _ _ _ _ _ _ _ _ _ _ _ _ _ _ _ _ _)
      | (with_reducible exact LeO.refl _)
      | (with_reducible exact LeO.none _)
      | (with_reducible refine LeO.ite ?_ ?_)
      | (with_reducible refine LeO.bind ?_ (fun _ => ?_))
      | exact safe_names.mono _ _ _
      | exact safe_terms.mono _ _ _ _ _ _ _ _ _ _ _ _ _ _ _ _ _ _
      | exact LeO.none _
      | refine LeO.ite ?_ ?_
      | refine LeO.bind ?_ (fun _ => ?_)
/-! ### safe_Order -/
mutual
def safe_Order.l0 : Nat → List (S43) → List ByteArray → List Bool → List Int → Option (List Int × List ByteArray × Int)
  | 0, _, _, _, _ => none
  | k + 1, x0, x7, x8, x9 => if (x9.length : Int) < (x0.length : Int) then (safe_Order.l1 k x0 x7 x8 x9 x0 (x0.length : Int) 0) else (some (x9, x7, 0))
def safe_Order.l1 : Nat → List (S43) → List ByteArray → List Bool → List Int → List (S43) → Int → Int → Option (List Int × List ByteArray × Int)
  | 0, _, _, _, _, _, _, _ => none
  | k + 1, x0, x7, x8, x9, x22, x23, x24 => if x24 < x23 then (if 0 ≤ x24 then (if x24 < (x22.length : Int) then (if x24 < (x8.length : Int) then (if rdOf false x8 x24 = true then (safe_Order.l1 k x0 x7 x8 x9 x22 x23 (wrap64 (x24 + 1))) else ((safe_ready.f ((rd_T43 x22 x24).f0) ((rd_T43 x22 x24).f1.f0) ((rd_T43 x22 x24).f1.f1) ((rd_T43 x22 x24).f2) ((rd_T43 x22 x24).f3.f0) ((rd_T43 x22 x24).f3.f1.f0) ((rd_T43 x22 x24).f3.f1.f1) ((rd_T43 x22 x24).f3.f1.f2) ((rd_T43 x22 x24).f4.f0) ((rd_T43 x22 x24).f4.f1.f0) ((rd_T43 x22 x24).f4.f1.f1) ((rd_T43 x22 x24).f4.f1.f2) ((rd_T43 x22 x24).f5.f0) ((rd_T43 x22 x24).f5.f1.f0) ((rd_T43 x22 x24).f5.f1.f1) ((rd_T43 x22 x24).f5.f1.f2) ((rd_T43 x22 x24).f6) x7).bind fun t147 => (if t147 = true then (if x9.length < 17592186044416 then ((safe_Binds.f k ((rd_T43 x22 x24).f0) ((rd_T43 x22 x24).f1.f0) ((rd_T43 x22 x24).f1.f1) ((rd_T43 x22 x24).f2) ((rd_T43 x22 x24).f3.f0) ((rd_T43 x22 x24).f3.f1.f0) ((rd_T43 x22 x24).f3.f1.f1) ((rd_T43 x22 x24).f3.f1.f2) ((rd_T43 x22 x24).f4.f0) ((rd_T43 x22 x24).f4.f1.f0) ((rd_T43 x22 x24).f4.f1.f1) ((rd_T43 x22 x24).f4.f1.f2) ((rd_T43 x22 x24).f5.f0) ((rd_T43 x22 x24).f5.f1.f0) ((rd_T43 x22 x24).f5.f1.f1) ((rd_T43 x22 x24).f5.f1.f2) ((rd_T43 x22 x24).f6) x7).bind fun t152 => (safe_Order.l0 k x0 t152 (x8.set (x24 : Int).toNat true) (x9 ++ [x24]))) else (none)) else (safe_Order.l1 k x0 x7 x8 x9 x22 x23 (wrap64 (x24 + 1)))))) else (none)) else (none)) else (none)) else (some (([] : List Int), ([] : List ByteArray), 7))
end
def safe_Order.f (k : Nat) (l0 : List (S43)) (l1 : List ByteArray) : Option (List Int × List ByteArray × Int) := (safe_names.f k ([] : List (S40)) l1).bind fun t138 => (if 0 ≤ (l0.length : Int) then (if ((l0.length : Int) : Int).toNat ≤ 281474976710656 then (safe_Order.l0 k l0 t138 (List.replicate ((l0.length : Int) : Int).toNat false) ([] : List Int)) else (none)) else (none))
theorem safe_Order.mono_l : ∀ k, (∀ y0 y1 y2 y3, LeO (safe_Order.l0 k y0 y1 y2 y3) (safe_Order.l0 (k + 1) y0 y1 y2 y3)) ∧ (∀ y0 y1 y2 y3 y4 y5 y6, LeO (safe_Order.l1 k y0 y1 y2 y3 y4 y5 y6) (safe_Order.l1 (k + 1) y0 y1 y2 y3 y4 y5 y6))
  | 0 => ⟨fun _ _ _ _ r h => by simp [safe_Order.l0] at h, fun _ _ _ _ _ _ _ r h => by simp [safe_Order.l1] at h⟩
  | k + 1 => by
    obtain ⟨ih0, ih1⟩ := safe_Order.mono_l k
    refine ⟨?_, ?_⟩
    · intro y0 y1 y2 y3
      unfold safe_Order.l0
      repeat' first
      | (with_reducible exact ih0 _ _ _ _)
      | (with_reducible exact ih1 _ _ _ _ _ _ _)
      | (with_reducible exact safe_Binds.mono _ _ _ _ _ _ _ _ _ _ _ _ _ _ _ _ _ _ _)
      | (with_reducible exact safe_names.mono _ _ _)
      | (with_reducible exact LeO.refl _)
      | (with_reducible exact LeO.none _)
      | (with_reducible refine LeO.ite ?_ ?_)
      | (with_reducible refine LeO.bind ?_ (fun _ => ?_))
      | exact ih0 _ _ _ _
      | exact ih1 _ _ _ _ _ _ _
      | exact safe_Binds.mono _ _ _ _ _ _ _ _ _ _ _ _ _ _ _ _ _ _ _
      | exact safe_names.mono _ _ _
      | exact LeO.none _
      | refine LeO.ite ?_ ?_
      | refine LeO.bind ?_ (fun _ => ?_)
    · intro y0 y1 y2 y3 y4 y5 y6
      unfold safe_Order.l1
      repeat' first
      | (with_reducible exact ih0 _ _ _ _)
      | (with_reducible exact ih1 _ _ _ _ _ _ _)
      | (with_reducible exact safe_Binds.mono _ _ _ _ _ _ _ _ _ _ _ _ _ _ _ _ _ _ _)
      | (with_reducible exact safe_names.mono _ _ _)
      | (with_reducible exact LeO.refl _)
      | (with_reducible exact LeO.none _)
      | (with_reducible refine LeO.ite ?_ ?_)
      | (with_reducible refine LeO.bind ?_ (fun _ => ?_))
      | exact ih0 _ _ _ _
      | exact ih1 _ _ _ _ _ _ _
      | exact safe_Binds.mono _ _ _ _ _ _ _ _ _ _ _ _ _ _ _ _ _ _ _
      | exact safe_names.mono _ _ _
      | exact LeO.none _
      | refine LeO.ite ?_ ?_
      | refine LeO.bind ?_ (fun _ => ?_)
theorem safe_Order.mono : ∀ a0 a1 k, LeO (safe_Order.f k a0 a1) (safe_Order.f (k + 1) a0 a1) := by
  intro a0 a1 k
  obtain ⟨ih0, ih1⟩ := safe_Order.mono_l k
  unfold safe_Order.f
  repeat' first
      | (with_reducible exact ih0 _ _ _ _)
      | (with_reducible exact ih1 _ _ _ _ _ _ _)
      | (with_reducible exact safe_Binds.mono _ _ _ _ _ _ _ _ _ _ _ _ _ _ _ _ _ _ _)
      | (with_reducible exact safe_names.mono _ _ _)
      | (with_reducible exact LeO.refl _)
      | (with_reducible exact LeO.none _)
      | (with_reducible refine LeO.ite ?_ ?_)
      | (with_reducible refine LeO.bind ?_ (fun _ => ?_))
      | exact ih0 _ _ _ _
      | exact ih1 _ _ _ _ _ _ _
      | exact safe_Binds.mono _ _ _ _ _ _ _ _ _ _ _ _ _ _ _ _ _ _ _
      | exact safe_names.mono _ _ _
      | exact LeO.none _
      | refine LeO.ite ?_ ?_
      | refine LeO.bind ?_ (fun _ => ?_)
/-! ### antecedentref11_Same -/
def antecedentref11_Same.l0 : Nat → List ByteArray → List ByteArray → Int → Int → Option (Bool)
  | 0, _, _, _, _ => none
  | k + 1, x0, x1, x12, x13 => if x13 < x12 then (if 0 ≤ x13 then (if x13 < (x0.length : Int) then (if x13 < (x1.length : Int) then (if (rdOf ByteArray.empty x0 x13).toList = (rdOf ByteArray.empty x1 x13).toList then (antecedentref11_Same.l0 k x0 x1 x12 (wrap64 (x13 + 1))) else (some false)) else (none)) else (none)) else (none)) else (some true)
def antecedentref11_Same.f (k : Nat) (l0 : List ByteArray) (l1 : List ByteArray) : Option (Bool) := if (l0.length : Int) = (l1.length : Int) then (antecedentref11_Same.l0 k l0 l1 (l0.length : Int) 0) else (some false)
theorem antecedentref11_Same.mono_l : ∀ k, (∀ y0 y1 y2 y3, LeO (antecedentref11_Same.l0 k y0 y1 y2 y3) (antecedentref11_Same.l0 (k + 1) y0 y1 y2 y3))
  | 0 => fun _ _ _ _ r h => by simp [antecedentref11_Same.l0] at h
  | k + 1 => by
    have ih0 := antecedentref11_Same.mono_l k
    · intro y0 y1 y2 y3
      unfold antecedentref11_Same.l0
      repeat' first
      | (with_reducible exact ih0 _ _ _ _)
      | (with_reducible exact LeO.refl _)
      | (with_reducible exact LeO.none _)
      | (with_reducible refine LeO.ite ?_ ?_)
      | (with_reducible refine LeO.bind ?_ (fun _ => ?_))
      | exact ih0 _ _ _ _
      | exact LeO.none _
      | refine LeO.ite ?_ ?_
      | refine LeO.bind ?_ (fun _ => ?_)
theorem antecedentref11_Same.mono : ∀ a0 a1 k, LeO (antecedentref11_Same.f k a0 a1) (antecedentref11_Same.f (k + 1) a0 a1) := by
  intro a0 a1 k
  have ih0 := antecedentref11_Same.mono_l k
  unfold antecedentref11_Same.f
  repeat' first
      | (with_reducible exact ih0 _ _ _ _)
      | (with_reducible exact LeO.refl _)
      | (with_reducible exact LeO.none _)
      | (with_reducible refine LeO.ite ?_ ?_)
      | (with_reducible refine LeO.bind ?_ (fun _ => ?_))
      | exact ih0 _ _ _ _
      | exact LeO.none _
      | refine LeO.ite ?_ ?_
      | refine LeO.bind ?_ (fun _ => ?_)
/-! ### safe_Vars -/
def safe_Vars.f (k : Nat) (a0_0 : Int) (a0_1 : ByteArray) (l0_2 : List (S40)) (a0_3 : ByteArray) (a0_4 : ByteArray) (a0_5 : Int) (a0_6 : Int) (a0_7 : ByteArray) (a0_8 : ByteArray) (a0_9 : Int) (a0_10 : Int) (a0_11 : ByteArray) (a0_12 : ByteArray) (a0_13 : Int) (a0_14 : Int) (a0_15 : ByteArray) (l0_16 : List (S82)) : Option (List ByteArray) := (safe_terms.f k a0_0 a0_1 l0_2 a0_3 a0_4 a0_5 a0_6 a0_7 a0_8 a0_9 a0_10 a0_11 a0_12 a0_13 a0_14 a0_15 l0_16).bind fun t158 => ((safe_names.f k t158 ([] : List ByteArray)).bind fun t161 => (some t161))
theorem safe_Vars.mono : ∀ a0 a1 a2 a3 a4 a5 a6 a7 a8 a9 a10 a11 a12 a13 a14 a15 a16 k, LeO (safe_Vars.f k a0 a1 a2 a3 a4 a5 a6 a7 a8 a9 a10 a11 a12 a13 a14 a15 a16) (safe_Vars.f (k + 1) a0 a1 a2 a3 a4 a5 a6 a7 a8 a9 a10 a11 a12 a13 a14 a15 a16) := by
  intro a0 a1 a2 a3 a4 a5 a6 a7 a8 a9 a10 a11 a12 a13 a14 a15 a16 k
  unfold safe_Vars.f
  repeat' first
      | (with_reducible exact safe_names.mono _ _ _)
      | (with_reducible exact safe_terms.mono _ _ _ _ _ _ _ _ _ _ _ _ _ _ _ _ _ _)
      | (with_reducible exact LeO.refl _)
      | (with_reducible exact LeO.none _)
      | (with_reducible refine LeO.ite ?_ ?_)
      | (with_reducible refine LeO.bind ?_ (fun _ => ?_))
      | exact safe_names.mono _ _ _
      | exact safe_terms.mono _ _ _ _ _ _ _ _ _ _ _ _ _ _ _ _ _ _
      | exact LeO.none _
      | refine LeO.ite ?_ ?_
      | refine LeO.bind ?_ (fun _ => ?_)
/-! ### safe_Rule -/
def safe_Rule.l0 : Nat → List Int → Int → Int → ByteArray → List (S40) → Int → List (S43) → ByteArray → List (S40) → Int → List (S43) → Option (ByteArray × (List (S40)) × Int × (List (S43)) × Int)
  | 0, _, _, _, _, _, _, _, _, _, _, _ => none
  | k + 1, x32, x33, x34, x165000, x165001, x165002, x165003, x175000, x175001, x175002, x175003 => if x34 < x33 then (if 0 ≤ x34 then (if x34 < (x32.length : Int) then (if 0 ≤ (rd x32 x34) then (if (rd x32 x34) < (x165003.length : Int) then (if x175003.length < 606627104979 then (safe_Rule.l0 k x32 x33 (wrap64 (x34 + 1)) x165000 x165001 x165002 x165003 x175000 x175001 x175002 (x175003 ++ [(⟨(rd_T43 x165003 (rd x32 x34)).f0, (⟨(rd_T43 x165003 (rd x32 x34)).f1.f0, (rd_T43 x165003 (rd x32 x34)).f1.f1⟩ : S36), (rd_T43 x165003 (rd x32 x34)).f2, (⟨(rd_T43 x165003 (rd x32 x34)).f3.f0, (⟨(rd_T43 x165003 (rd x32 x34)).f3.f1.f0, (rd_T43 x165003 (rd x32 x34)).f3.f1.f1, (rd_T43 x165003 (rd x32 x34)).f3.f1.f2⟩ : S38)⟩ : S40), (⟨(rd_T43 x165003 (rd x32 x34)).f4.f0, (⟨(rd_T43 x165003 (rd x32 x34)).f4.f1.f0, (rd_T43 x165003 (rd x32 x34)).f4.f1.f1, (rd_T43 x165003 (rd x32 x34)).f4.f1.f2⟩ : S38)⟩ : S40), (⟨(rd_T43 x165003 (rd x32 x34)).f5.f0, (⟨(rd_T43 x165003 (rd x32 x34)).f5.f1.f0, (rd_T43 x165003 (rd x32 x34)).f5.f1.f1, (rd_T43 x165003 (rd x32 x34)).f5.f1.f2⟩ : S38)⟩ : S40), (rd_T43 x165003 (rd x32 x34)).f6⟩ : S43)])) else (none)) else (none)) else (none)) else (none)) else (none)) else (some (x175000, x175001, x175002, x175003, 0))
def safe_Rule.f (k : Nat) (a0_0 : ByteArray) (l0_1 : List (S40)) (a0_2 : Int) (l0_3 : List (S43)) : Option (ByteArray × (List (S40)) × Int × (List (S43)) × Int) := (safe_Order.f k l0_3 ([] : List ByteArray)).bind fun bt166 => (if bt166.2.2 = 0 then ((heads_free.f l0_1 bt166.2.1).bind fun t173 => (if t173 = true then (some ((⟨#[]⟩ : ByteArray), ([] : List (S40)), 0, ([] : List (S43)), 7)) else (safe_Rule.l0 k bt166.1 (bt166.1.length : Int) 0 a0_0 l0_1 a0_2 l0_3 a0_0 l0_1 a0_2 ([] : List (S43))))) else (some ((⟨#[]⟩ : ByteArray), ([] : List (S40)), 0, ([] : List (S43)), bt166.2.2)))
theorem safe_Rule.mono_l : ∀ k, (∀ y0 y1 y2 y3 y4 y5 y6 y7 y8 y9 y10, LeO (safe_Rule.l0 k y0 y1 y2 y3 y4 y5 y6 y7 y8 y9 y10) (safe_Rule.l0 (k + 1) y0 y1 y2 y3 y4 y5 y6 y7 y8 y9 y10))
  | 0 => fun _ _ _ _ _ _ _ _ _ _ _ r h => by simp [safe_Rule.l0] at h
  | k + 1 => by
    have ih0 := safe_Rule.mono_l k
    · intro y0 y1 y2 y3 y4 y5 y6 y7 y8 y9 y10
      unfold safe_Rule.l0
      repeat' first
      | (with_reducible exact ih0 _ _ _ _ _ _ _ _ _ _ _)
      | (with_reducible exact safe_Order.mono _ _ _)
      | (with_reducible exact LeO.refl _)
      | (with_reducible exact LeO.none _)
      | (with_reducible refine LeO.ite ?_ ?_)
      | (with_reducible refine LeO.bind ?_ (fun _ => ?_))
      | exact ih0 _ _ _ _ _ _ _ _ _ _ _
      | exact safe_Order.mono _ _ _
      | exact LeO.none _
      | refine LeO.ite ?_ ?_
      | refine LeO.bind ?_ (fun _ => ?_)
theorem safe_Rule.mono : ∀ a0 a1 a2 a3 k, LeO (safe_Rule.f k a0 a1 a2 a3) (safe_Rule.f (k + 1) a0 a1 a2 a3) := by
  intro a0 a1 a2 a3 k
  have ih0 := safe_Rule.mono_l k
  unfold safe_Rule.f
  repeat' first
      | (with_reducible exact ih0 _ _ _ _ _ _ _ _ _ _ _)
      | (with_reducible exact safe_Order.mono _ _ _)
      | (with_reducible exact LeO.refl _)
      | (with_reducible exact LeO.none _)
      | (with_reducible refine LeO.ite ?_ ?_)
      | (with_reducible refine LeO.bind ?_ (fun _ => ?_))
      | exact ih0 _ _ _ _ _ _ _ _ _ _ _
      | exact safe_Order.mono _ _ _
      | exact LeO.none _
      | refine LeO.ite ?_ ?_
      | refine LeO.bind ?_ (fun _ => ?_)
/-! ### antecedentlaw11_awake -/
def antecedentlaw11_awake.f (k : Nat)  : Option (Bool) := (some (([(⟨3, (⟨(⟨#[]⟩ : ByteArray), ([] : List (S40))⟩ : S36), (⟨#[60]⟩ : ByteArray), (⟨(⟨#[88]⟩ : ByteArray), (⟨0, 0, (⟨#[]⟩ : ByteArray)⟩ : S38)⟩ : S40), (⟨(⟨#[88]⟩ : ByteArray), (⟨0, 0, (⟨#[]⟩ : ByteArray)⟩ : S38)⟩ : S40), (⟨(⟨#[]⟩ : ByteArray), (⟨0, 0, (⟨#[]⟩ : ByteArray)⟩ : S38)⟩ : S40), ([] : List (S82))⟩ : S43), (⟨1, (⟨(⟨#[113]⟩ : ByteArray), (([(⟨(⟨#[88]⟩ : ByteArray), (⟨0, 0, (⟨#[]⟩ : ByteArray)⟩ : S38)⟩ : S40)] : List (S40)))⟩ : S36), (⟨#[]⟩ : ByteArray), (⟨(⟨#[]⟩ : ByteArray), (⟨0, 0, (⟨#[]⟩ : ByteArray)⟩ : S38)⟩ : S40), (⟨(⟨#[]⟩ : ByteArray), (⟨0, 0, (⟨#[]⟩ : ByteArray)⟩ : S38)⟩ : S40), (⟨(⟨#[]⟩ : ByteArray), (⟨0, 0, (⟨#[]⟩ : ByteArray)⟩ : S38)⟩ : S40), ([] : List (S82))⟩ : S43)] : List (S43)) : List (S43))).bind fun y184 => ((safe_Order.f k y184 ([] : List ByteArray)).bind fun bt187 => ((safe_Rule.f k (⟨#[112]⟩ : ByteArray) (([(⟨(⟨#[88]⟩ : ByteArray), (⟨0, 0, (⟨#[]⟩ : ByteArray)⟩ : S38)⟩ : S40)] : List (S40))) 0 ([] : List (S43))).bind fun bt197 => (if bt187.2.2 = 0 then (if (bt187.1.length : Int) = 2 then (if 0 < (bt187.1.length : Int) then (if (rd bt187.1 0) = 1 then ((antecedentref11_Same.f k bt187.2.1 (([(⟨#[88]⟩ : ByteArray)] : List ByteArray))).bind fun t211 => (if t211 = true then (if bt197.2.2.2.2 = 7 then (if 0 < (y184.length : Int) then ((safe_Vars.f k ((rd_T43 y184 0).f0) ((rd_T43 y184 0).f1.f0) ((rd_T43 y184 0).f1.f1) ((rd_T43 y184 0).f2) ((rd_T43 y184 0).f3.f0) ((rd_T43 y184 0).f3.f1.f0) ((rd_T43 y184 0).f3.f1.f1) ((rd_T43 y184 0).f3.f1.f2) ((rd_T43 y184 0).f4.f0) ((rd_T43 y184 0).f4.f1.f0) ((rd_T43 y184 0).f4.f1.f1) ((rd_T43 y184 0).f4.f1.f2) ((rd_T43 y184 0).f5.f0) ((rd_T43 y184 0).f5.f1.f0) ((rd_T43 y184 0).f5.f1.f1) ((rd_T43 y184 0).f5.f1.f2) ((rd_T43 y184 0).f6)).bind fun t213 => (some ((t213.length : Int) == 1))) else (none)) else (some false)) else (some false))) else (some false)) else (none)) else (some false)) else (some false))))
theorem antecedentlaw11_awake.mono : ∀ k, LeO (antecedentlaw11_awake.f k ) (antecedentlaw11_awake.f (k + 1) ) := by
  intro  k
  unfold antecedentlaw11_awake.f
  repeat' first
      | (with_reducible exact antecedentref11_Same.mono _ _ _)
      | (with_reducible exact safe_Order.mono _ _ _)
      | (with_reducible exact safe_Rule.mono _ _ _ _ _)
      | (with_reducible exact safe_Vars.mono _ _ _ _ _ _ _ _ _ _ _ _ _ _ _ _ _ _)
      | (with_reducible exact LeO.refl _)
      | (with_reducible exact LeO.none _)
      | (with_reducible refine LeO.ite ?_ ?_)
      | (with_reducible refine LeO.bind ?_ (fun _ => ?_))
      | exact antecedentref11_Same.mono _ _ _
      | exact safe_Order.mono _ _ _
      | exact safe_Rule.mono _ _ _ _ _
      | exact safe_Vars.mono _ _ _ _ _ _ _ _ _ _ _ _ _ _ _ _ _ _
      | exact LeO.none _
      | refine LeO.ite ?_ ?_
      | refine LeO.bind ?_ (fun _ => ?_)
/-! ### antecedentref09_Few -/
mutual
def antecedentref09_Few.j0 : Nat → Int → Bool → List (S51) → ByteArray → List (S40) → Option (Bool)
  | 0, _, _, _, _, _ => none
  | k + 1, x2, x22, x217000, x217001, x217002 => if x22 = true then (some false) else (antecedentref09_Few.l0 k x2 0 (x217000.length : Int) 0 x217000 x217001 x217002)
def antecedentref09_Few.l0 : Nat → Int → Int → Int → Int → List (S51) → ByteArray → List (S40) → Option (Bool)
  | 0, _, _, _, _, _, _, _ => none
  | k + 1, x2, x7, x25, x26, x217000, x217001, x217002 => if x26 < x25 then (if 0 ≤ x26 then (if x26 < (x217000.length : Int) then (if (((rd_T51 x217000 x26).f2).length : Int) > x2 then (antecedentref09_Few.j2 k x2 x7 x25 x26 true x217000 x217001 x217002 ((rd_T51 x217000 x26).f0.f0) ((rd_T51 x217000 x26).f0.f1) ((rd_T51 x217000 x26).f1) ((rd_T51 x217000 x26).f2)) else (antecedentref09_Few.j2 k x2 x7 x25 x26 (decide ((((rd_T51 x217000 x26).f0.f1).length : Int) > 10)) x217000 x217001 x217002 ((rd_T51 x217000 x26).f0.f0) ((rd_T51 x217000 x26).f0.f1) ((rd_T51 x217000 x26).f1) ((rd_T51 x217000 x26).f2))) else (none)) else (none)) else (some true)
def antecedentref09_Few.j2 : Nat → Int → Int → Int → Int → Bool → List (S51) → ByteArray → List (S40) → ByteArray → List (S40) → Int → List (S43) → Option (Bool)
  | 0, _, _, _, _, _, _, _, _, _, _, _, _ => none
  | k + 1, x2, x7, x25, x26, x45, x217000, x217001, x217002, x219000, x219001, x219002, x219003 => if x45 = true then (some false) else (antecedentref09_Few.l1 k x2 x7 x25 x26 (x219003.length : Int) 0 x217000 x217001 x217002 x219000 x219001 x219002 x219003)
def antecedentref09_Few.l1 : Nat → Int → Int → Int → Int → Int → Int → List (S51) → ByteArray → List (S40) → ByteArray → List (S40) → Int → List (S43) → Option (Bool)
  | 0, _, _, _, _, _, _, _, _, _, _, _, _, _ => none
  | k + 1, x2, x7, x25, x26, x48, x49, x217000, x217001, x217002, x219000, x219001, x219002, x219003 => if x49 < x48 then (if 0 ≤ x49 then (if x49 < (x219003.length : Int) then (if (((rd_T43 x219003 x49).f6).length : Int) > 30 then (some false) else (if (((rd_T43 x219003 x49).f1.f1).length : Int) > 10 then (some false) else (if (wrap64 (x7 + (((rd_T43 x219003 x49).f6).length : Int))) > 60 then (some false) else (antecedentref09_Few.l1 k x2 (wrap64 (x7 + (((rd_T43 x219003 x49).f6).length : Int))) x25 x26 x48 (wrap64 (x49 + 1)) x217000 x217001 x217002 x219000 x219001 x219002 x219003)))) else (none)) else (none)) else (antecedentref09_Few.l0 k x2 x7 x25 (wrap64 (x26 + 1)) x217000 x217001 x217002)
end
def antecedentref09_Few.f (k : Nat) (l0_0 : List (S51)) (a0_1 : ByteArray) (l0_2 : List (S40)) (a1 : Int) (a2 : Int) : Option (Bool) := if (l0_0.length : Int) > a1 then (antecedentref09_Few.j0 k a2 true l0_0 a0_1 l0_2) else (antecedentref09_Few.j0 k a2 (decide ((l0_2.length : Int) > 10)) l0_0 a0_1 l0_2)
theorem antecedentref09_Few.mono_l : ∀ k, (∀ y0 y1 y2 y3 y4, LeO (antecedentref09_Few.j0 k y0 y1 y2 y3 y4) (antecedentref09_Few.j0 (k + 1) y0 y1 y2 y3 y4)) ∧ (∀ y0 y1 y2 y3 y4 y5 y6, LeO (antecedentref09_Few.l0 k y0 y1 y2 y3 y4 y5 y6) (antecedentref09_Few.l0 (k + 1) y0 y1 y2 y3 y4 y5 y6)) ∧ (∀ y0 y1 y2 y3 y4 y5 y6 y7 y8 y9 y10 y11, LeO (antecedentref09_Few.j2 k y0 y1 y2 y3 y4 y5 y6 y7 y8 y9 y10 y11) (antecedentref09_Few.j2 (k + 1) y0 y1 y2 y3 y4 y5 y6 y7 y8 y9 y10 y11)) ∧ (∀ y0 y1 y2 y3 y4 y5 y6 y7 y8 y9 y10 y11 y12, LeO (antecedentref09_Few.l1 k y0 y1 y2 y3 y4 y5 y6 y7 y8 y9 y10 y11 y12) (antecedentref09_Few.l1 (k + 1) y0 y1 y2 y3 y4 y5 y6 y7 y8 y9 y10 y11 y12))
  | 0 => ⟨fun _ _ _ _ _ r h => by simp [antecedentref09_Few.j0] at h, fun _ _ _ _ _ _ _ r h => by simp [antecedentref09_Few.l0] at h, fun _ _ _ _ _ _ _ _ _ _ _ _ r h => by simp [antecedentref09_Few.j2] at h, fun _ _ _ _ _ _ _ _ _ _ _ _ _ r h => by simp [antecedentref09_Few.l1] at h⟩
  | k + 1 => by
    obtain ⟨ih0, ih1, ih2, ih3⟩ := antecedentref09_Few.mono_l k
    refine ⟨?_, ?_, ?_, ?_⟩
    · intro y0 y1 y2 y3 y4
      unfold antecedentref09_Few.j0
      repeat' first
      | (with_reducible exact ih0 _ _ _ _ _)
      | (with_reducible exact ih1 _ _ _ _ _ _ _)
      | (with_reducible exact ih2 _ _ _ _ _ _ _ _ _ _ _ _)
      | (with_reducible exact ih3 _ _ _ _ _ _ _ _ _ _ _ _ _)
      | (with_reducible exact LeO.refl _)
      | (with_reducible exact LeO.none _)
      | (with_reducible refine LeO.ite ?_ ?_)
      | (with_reducible refine LeO.bind ?_ (fun _ => ?_))
      | exact ih0 _ _ _ _ _
      | exact ih1 _ _ _ _ _ _ _
      | exact ih2 _ _ _ _ _ _ _ _ _ _ _ _
      | exact ih3 _ _ _ _ _ _ _ _ _ _ _ _ _
      | exact LeO.none _
      | refine LeO.ite ?_ ?_
      | refine LeO.bind ?_ (fun _ => ?_)
    · intro y0 y1 y2 y3 y4 y5 y6
      unfold antecedentref09_Few.l0
      repeat' first
      | (with_reducible exact ih0 _ _ _ _ _)
      | (with_reducible exact ih1 _ _ _ _ _ _ _)
      | (with_reducible exact ih2 _ _ _ _ _ _ _ _ _ _ _ _)
      | (with_reducible exact ih3 _ _ _ _ _ _ _ _ _ _ _ _ _)
      | (with_reducible exact LeO.refl _)
      | (with_reducible exact LeO.none _)
      | (with_reducible refine LeO.ite ?_ ?_)
      | (with_reducible refine LeO.bind ?_ (fun _ => ?_))
      | exact ih0 _ _ _ _ _
      | exact ih1 _ _ _ _ _ _ _
      | exact ih2 _ _ _ _ _ _ _ _ _ _ _ _
      | exact ih3 _ _ _ _ _ _ _ _ _ _ _ _ _
      | exact LeO.none _
      | refine LeO.ite ?_ ?_
      | refine LeO.bind ?_ (fun _ => ?_)
    · intro y0 y1 y2 y3 y4 y5 y6 y7 y8 y9 y10 y11
      unfold antecedentref09_Few.j2
      repeat' first
      | (with_reducible exact ih0 _ _ _ _ _)
      | (with_reducible exact ih1 _ _ _ _ _ _ _)
      | (with_reducible exact ih2 _ _ _ _ _ _ _ _ _ _ _ _)
      | (with_reducible exact ih3 _ _ _ _ _ _ _ _ _ _ _ _ _)
      | (with_reducible exact LeO.refl _)
      | (with_reducible exact LeO.none _)
      | (with_reducible refine LeO.ite ?_ ?_)
      | (with_reducible refine LeO.bind ?_ (fun _ => ?_))
      | exact ih0 _ _ _ _ _
      | exact ih1 _ _ _ _ _ _ _
      | exact ih2 _ _ _ _ _ _ _ _ _ _ _ _
      | exact ih3 _ _ _ _ _ _ _ _ _ _ _ _ _
      | exact LeO.none _
      | refine LeO.ite ?_ ?_
      | refine LeO.bind ?_ (fun _ => ?_)
    · intro y0 y1 y2 y3 y4 y5 y6 y7 y8 y9 y10 y11 y12
      unfold antecedentref09_Few.l1
      repeat' first
      | (with_reducible exact ih0 _ _ _ _ _)
      | (with_reducible exact ih1 _ _ _ _ _ _ _)
      | (with_reducible exact ih2 _ _ _ _ _ _ _ _ _ _ _ _)
      | (with_reducible exact ih3 _ _ _ _ _ _ _ _ _ _ _ _ _)
      | (with_reducible exact LeO.refl _)
      | (with_reducible exact LeO.none _)
      | (with_reducible refine LeO.ite ?_ ?_)
      | (with_reducible refine LeO.bind ?_ (fun _ => ?_))
      | exact ih0 _ _ _ _ _
      | exact ih1 _ _ _ _ _ _ _
      | exact ih2 _ _ _ _ _ _ _ _ _ _ _ _
      | exact ih3 _ _ _ _ _ _ _ _ _ _ _ _ _
      | exact LeO.none _
      | refine LeO.ite ?_ ?_
      | refine LeO.bind ?_ (fun _ => ?_)
theorem antecedentref09_Few.mono : ∀ a0 a1 a2 a3 a4 k, LeO (antecedentref09_Few.f k a0 a1 a2 a3 a4) (antecedentref09_Few.f (k + 1) a0 a1 a2 a3 a4) := by
  intro a0 a1 a2 a3 a4 k
  obtain ⟨ih0, ih1, ih2, ih3⟩ := antecedentref09_Few.mono_l k
  unfold antecedentref09_Few.f
  repeat' first
      | (with_reducible exact ih0 _ _ _ _ _)
      | (with_reducible exact ih1 _ _ _ _ _ _ _)
      | (with_reducible exact ih2 _ _ _ _ _ _ _ _ _ _ _ _)
      | (with_reducible exact ih3 _ _ _ _ _ _ _ _ _ _ _ _ _)
      | (with_reducible exact LeO.refl _)
      | (with_reducible exact LeO.none _)
      | (with_reducible refine LeO.ite ?_ ?_)
      | (with_reducible refine LeO.bind ?_ (fun _ => ?_))
      | exact ih0 _ _ _ _ _
      | exact ih1 _ _ _ _ _ _ _
      | exact ih2 _ _ _ _ _ _ _ _ _ _ _ _
      | exact ih3 _ _ _ _ _ _ _ _ _ _ _ _ _
      | exact LeO.none _
      | refine LeO.ite ?_ ?_
      | refine LeO.bind ?_ (fun _ => ?_)
/-! ### antecedentlaw11_few -/
def antecedentlaw11_few.f (k : Nat) (l0 : List (S43)) (l1 : List ByteArray) : Option (Bool) := (antecedentref09_Few.f k (([(⟨(⟨(⟨#[]⟩ : ByteArray), ([] : List (S40))⟩ : S36), 0, l0⟩ : S51)] : List (S51))) (⟨#[]⟩ : ByteArray) ([] : List (S40)) 1 13).bind fun t225 => (if t225 = true then (some (decide ((l1.length : Int) ≤ 20))) else (some false))
theorem antecedentlaw11_few.mono : ∀ a0 a1 k, LeO (antecedentlaw11_few.f k a0 a1) (antecedentlaw11_few.f (k + 1) a0 a1) := by
  intro a0 a1 k
  unfold antecedentlaw11_few.f
  repeat' first
      | (with_reducible exact antecedentref09_Few.mono _ _ _ _ _ _)
      | (with_reducible exact LeO.refl _)
      | (with_reducible exact LeO.none _)
      | (with_reducible refine LeO.ite ?_ ?_)
      | (with_reducible refine LeO.bind ?_ (fun _ => ?_))
      | exact antecedentref09_Few.mono _ _ _ _ _ _
      | exact LeO.none _
      | refine LeO.ite ?_ ?_
      | refine LeO.bind ?_ (fun _ => ?_)
/-! ### antecedentref11_add -/
mutual
def antecedentref11_add.l0 : Nat → List ByteArray → ByteArray → List ByteArray → Bool → Int → Int → Option (List ByteArray)
  | 0, _, _, _, _, _, _ => none
  | k + 1, x0, x1, x5, x6, x9, x10 => if x10 < x9 then (if x6 = true then (antecedentref11_add.j1 k x0 x1 x5 x6 x10 x9 x10 false) else (if 0 ≤ x10 then (if x10 < (x0.length : Int) then (antecedentref11_add.j1 k x0 x1 x5 x6 x10 x9 x10 (Op.bytesLess x1.toList ((rdOf ByteArray.empty x0 x10).toList) || (x1.toList == ((rdOf ByteArray.empty x0 x10).toList)))) else (none)) else (none))) else (if x6 = true then (some x5) else (if x5.length < 8796093022208 then (some (x5 ++ [x1])) else (none)))
def antecedentref11_add.j1 : Nat → List ByteArray → ByteArray → List ByteArray → Bool → Int → Int → Int → Bool → Option (List ByteArray)
  | 0, _, _, _, _, _, _, _, _ => none
  | k + 1, x0, x1, x5, x6, x7, x9, x10, x22 => if x22 = true then (if x5.length < 8796093022208 then ((some (x5 ++ [x1] : List ByteArray)).bind fun y230 => (if 0 ≤ x7 then (if x7 < (x0.length : Int) then (if (rdOf ByteArray.empty x0 x7).toList = x1.toList then (antecedentref11_add.l0 k x0 x1 y230 true x9 (wrap64 (x10 + 1))) else (if y230.length < 8796093022208 then (antecedentref11_add.l0 k x0 x1 (y230 ++ [rdOf ByteArray.empty x0 x7]) true x9 (wrap64 (x10 + 1))) else (none))) else (none)) else (none))) else (none)) else (if 0 ≤ x7 then (if x7 < (x0.length : Int) then (if (rdOf ByteArray.empty x0 x7).toList = x1.toList then (antecedentref11_add.l0 k x0 x1 x5 x6 x9 (wrap64 (x10 + 1))) else (if x5.length < 8796093022208 then (antecedentref11_add.l0 k x0 x1 (x5 ++ [rdOf ByteArray.empty x0 x7]) x6 x9 (wrap64 (x10 + 1))) else (none))) else (none)) else (none))
end
def antecedentref11_add.f (k : Nat) (l0 : List ByteArray) (a1 : ByteArray) : Option (List ByteArray) := antecedentref11_add.l0 k l0 a1 ([] : List ByteArray) false (l0.length : Int) 0
theorem antecedentref11_add.mono_l : ∀ k, (∀ y0 y1 y2 y3 y4 y5, LeO (antecedentref11_add.l0 k y0 y1 y2 y3 y4 y5) (antecedentref11_add.l0 (k + 1) y0 y1 y2 y3 y4 y5)) ∧ (∀ y0 y1 y2 y3 y4 y5 y6 y7, LeO (antecedentref11_add.j1 k y0 y1 y2 y3 y4 y5 y6 y7) (antecedentref11_add.j1 (k + 1) y0 y1 y2 y3 y4 y5 y6 y7))
  | 0 => ⟨fun _ _ _ _ _ _ r h => by simp [antecedentref11_add.l0] at h, fun _ _ _ _ _ _ _ _ r h => by simp [antecedentref11_add.j1] at h⟩
  | k + 1 => by
    obtain ⟨ih0, ih1⟩ := antecedentref11_add.mono_l k
    refine ⟨?_, ?_⟩
    · intro y0 y1 y2 y3 y4 y5
      unfold antecedentref11_add.l0
      repeat' first
      | (with_reducible exact ih0 _ _ _ _ _ _)
      | (with_reducible exact ih1 _ _ _ _ _ _ _ _)
      | (with_reducible exact LeO.refl _)
      | (with_reducible exact LeO.none _)
      | (with_reducible refine LeO.ite ?_ ?_)
      | (with_reducible refine LeO.bind ?_ (fun _ => ?_))
      | exact ih0 _ _ _ _ _ _
      | exact ih1 _ _ _ _ _ _ _ _
      | exact LeO.none _
      | refine LeO.ite ?_ ?_
      | refine LeO.bind ?_ (fun _ => ?_)
    · intro y0 y1 y2 y3 y4 y5 y6 y7
      unfold antecedentref11_add.j1
      repeat' first
      | (with_reducible exact ih0 _ _ _ _ _ _)
      | (with_reducible exact ih1 _ _ _ _ _ _ _ _)
      | (with_reducible exact LeO.refl _)
      | (with_reducible exact LeO.none _)
      | (with_reducible refine LeO.ite ?_ ?_)
      | (with_reducible refine LeO.bind ?_ (fun _ => ?_))
      | exact ih0 _ _ _ _ _ _
      | exact ih1 _ _ _ _ _ _ _ _
      | exact LeO.none _
      | refine LeO.ite ?_ ?_
      | refine LeO.bind ?_ (fun _ => ?_)
theorem antecedentref11_add.mono : ∀ a0 a1 k, LeO (antecedentref11_add.f k a0 a1) (antecedentref11_add.f (k + 1) a0 a1) := by
  intro a0 a1 k
  obtain ⟨ih0, ih1⟩ := antecedentref11_add.mono_l k
  unfold antecedentref11_add.f
  repeat' first
      | (with_reducible exact ih0 _ _ _ _ _ _)
      | (with_reducible exact ih1 _ _ _ _ _ _ _ _)
      | (with_reducible exact LeO.refl _)
      | (with_reducible exact LeO.none _)
      | (with_reducible refine LeO.ite ?_ ?_)
      | (with_reducible refine LeO.bind ?_ (fun _ => ?_))
      | exact ih0 _ _ _ _ _ _
      | exact ih1 _ _ _ _ _ _ _ _
      | exact LeO.none _
      | refine LeO.ite ?_ ?_
      | refine LeO.bind ?_ (fun _ => ?_)
/-! ### antecedentref11_Names -/
mutual
def antecedentref11_Names.l0 : Nat → List (S40) → List ByteArray → List ByteArray → Int → Int → Option (List ByteArray)
  | 0, _, _, _, _, _ => none
  | k + 1, x0, x1, x5, x9, x10 => if x10 < x9 then (if 0 ≤ x10 then (if x10 < (x1.length : Int) then ((antecedentref11_add.f k x5 (rdOf ByteArray.empty x1 x10)).bind fun t244 => (antecedentref11_Names.l0 k x0 x1 t244 x9 (wrap64 (x10 + 1)))) else (none)) else (none)) else (antecedentref11_Names.l1 k x0 x5 (x0.length : Int) 0)
def antecedentref11_Names.l1 : Nat → List (S40) → List ByteArray → Int → Int → Option (List ByteArray)
  | 0, _, _, _, _ => none
  | k + 1, x0, x5, x21, x22 => if x22 < x21 then (if 0 ≤ x22 then (if x22 < (x0.length : Int) then (if ((rd_T40 x0 x22).f0).toList = ([] : List UInt8) then (antecedentref11_Names.l1 k x0 x5 x21 (wrap64 (x22 + 1))) else ((antecedentref11_add.f k x5 ((rd_T40 x0 x22).f0)).bind fun t249 => (antecedentref11_Names.l1 k x0 t249 x21 (wrap64 (x22 + 1))))) else (none)) else (none)) else (some x5)
end
def antecedentref11_Names.f (k : Nat) (l0 : List (S40)) (l1 : List ByteArray) : Option (List ByteArray) := antecedentref11_Names.l0 k l0 l1 ([] : List ByteArray) (l1.length : Int) 0
theorem antecedentref11_Names.mono_l : ∀ k, (∀ y0 y1 y2 y3 y4, LeO (antecedentref11_Names.l0 k y0 y1 y2 y3 y4) (antecedentref11_Names.l0 (k + 1) y0 y1 y2 y3 y4)) ∧ (∀ y0 y1 y2 y3, LeO (antecedentref11_Names.l1 k y0 y1 y2 y3) (antecedentref11_Names.l1 (k + 1) y0 y1 y2 y3))
  | 0 => ⟨fun _ _ _ _ _ r h => by simp [antecedentref11_Names.l0] at h, fun _ _ _ _ r h => by simp [antecedentref11_Names.l1] at h⟩
  | k + 1 => by
    obtain ⟨ih0, ih1⟩ := antecedentref11_Names.mono_l k
    refine ⟨?_, ?_⟩
    · intro y0 y1 y2 y3 y4
      unfold antecedentref11_Names.l0
      repeat' first
      | (with_reducible exact ih0 _ _ _ _ _)
      | (with_reducible exact ih1 _ _ _ _)
      | (with_reducible exact antecedentref11_add.mono _ _ _)
      | (with_reducible exact LeO.refl _)
      | (with_reducible exact LeO.none _)
      | (with_reducible refine LeO.ite ?_ ?_)
      | (with_reducible refine LeO.bind ?_ (fun _ => ?_))
      | exact ih0 _ _ _ _ _
      | exact ih1 _ _ _ _
      | exact antecedentref11_add.mono _ _ _
      | exact LeO.none _
      | refine LeO.ite ?_ ?_
      | refine LeO.bind ?_ (fun _ => ?_)
    · intro y0 y1 y2 y3
      unfold antecedentref11_Names.l1
      repeat' first
      | (with_reducible exact ih0 _ _ _ _ _)
      | (with_reducible exact ih1 _ _ _ _)
      | (with_reducible exact antecedentref11_add.mono _ _ _)
      | (with_reducible exact LeO.refl _)
      | (with_reducible exact LeO.none _)
      | (with_reducible refine LeO.ite ?_ ?_)
      | (with_reducible refine LeO.bind ?_ (fun _ => ?_))
      | exact ih0 _ _ _ _ _
      | exact ih1 _ _ _ _
      | exact antecedentref11_add.mono _ _ _
      | exact LeO.none _
      | refine LeO.ite ?_ ?_
      | refine LeO.bind ?_ (fun _ => ?_)
theorem antecedentref11_Names.mono : ∀ a0 a1 k, LeO (antecedentref11_Names.f k a0 a1) (antecedentref11_Names.f (k + 1) a0 a1) := by
  intro a0 a1 k
  obtain ⟨ih0, ih1⟩ := antecedentref11_Names.mono_l k
  unfold antecedentref11_Names.f
  repeat' first
      | (with_reducible exact ih0 _ _ _ _ _)
      | (with_reducible exact ih1 _ _ _ _)
      | (with_reducible exact antecedentref11_add.mono _ _ _)
      | (with_reducible exact LeO.refl _)
      | (with_reducible exact LeO.none _)
      | (with_reducible refine LeO.ite ?_ ?_)
      | (with_reducible refine LeO.bind ?_ (fun _ => ?_))
      | exact ih0 _ _ _ _ _
      | exact ih1 _ _ _ _
      | exact antecedentref11_add.mono _ _ _
      | exact LeO.none _
      | refine LeO.ite ?_ ?_
      | refine LeO.bind ?_ (fun _ => ?_)
/-! ### antecedentref11_terms -/
def antecedentref11_terms.f (a0_0 : Int) (a0_1 : ByteArray) (l0_2 : List (S40)) (a0_3 : ByteArray) (a0_4 : ByteArray) (a0_5 : Int) (a0_6 : Int) (a0_7 : ByteArray) (a0_8 : ByteArray) (a0_9 : Int) (a0_10 : Int) (a0_11 : ByteArray) (a0_12 : ByteArray) (a0_13 : Int) (a0_14 : Int) (a0_15 : ByteArray) (l0_16 : List (S82)) : Option ((List (S40))) := (some (([] : List (S40)) : List (S40))).bind fun y253 => (if y253.length + l0_2.length < 2932031007402 then ((some (y253 ++ l0_2 : List (S40))).bind fun y256 => ((some (([(⟨a0_4, (⟨a0_5, a0_6, a0_7⟩ : S38)⟩ : S40), (⟨a0_8, (⟨a0_9, a0_10, a0_11⟩ : S38)⟩ : S40), (⟨a0_12, (⟨a0_13, a0_14, a0_15⟩ : S38)⟩ : S40)] : List (S40)) : List (S40))).bind fun y259 => (if y256.length + y259.length < 2932031007402 then (some (y256 ++ y259)) else (none)))) else (none))
/-! ### antecedentref11_Binds -/
def antecedentref11_Binds.f (k : Nat) (a0_0 : Int) (a0_1 : ByteArray) (l0_2 : List (S40)) (a0_3 : ByteArray) (a0_4 : ByteArray) (a0_5 : Int) (a0_6 : Int) (a0_7 : ByteArray) (a0_8 : ByteArray) (a0_9 : Int) (a0_10 : Int) (a0_11 : ByteArray) (a0_12 : ByteArray) (a0_13 : Int) (a0_14 : Int) (a0_15 : ByteArray) (l0_16 : List (S82)) (l1 : List ByteArray) : Option (List ByteArray) := (antecedentref11_terms.f a0_0 a0_1 l0_2 a0_3 a0_4 a0_5 a0_6 a0_7 a0_8 a0_9 a0_10 a0_11 a0_12 a0_13 a0_14 a0_15 l0_16).bind fun t266 => ((antecedentref11_Names.f k t266 l1).bind fun t269 => (some t269))
theorem antecedentref11_Binds.mono : ∀ a0 a1 a2 a3 a4 a5 a6 a7 a8 a9 a10 a11 a12 a13 a14 a15 a16 a17 k, LeO (antecedentref11_Binds.f k a0 a1 a2 a3 a4 a5 a6 a7 a8 a9 a10 a11 a12 a13 a14 a15 a16 a17) (antecedentref11_Binds.f (k + 1) a0 a1 a2 a3 a4 a5 a6 a7 a8 a9 a10 a11 a12 a13 a14 a15 a16 a17) := by
  intro a0 a1 a2 a3 a4 a5 a6 a7 a8 a9 a10 a11 a12 a13 a14 a15 a16 a17 k
  unfold antecedentref11_Binds.f
  repeat' first
      | (with_reducible exact antecedentref11_Names.mono _ _ _)
      | (with_reducible exact LeO.refl _)
      | (with_reducible exact LeO.none _)
      | (with_reducible refine LeO.ite ?_ ?_)
      | (with_reducible refine LeO.bind ?_ (fun _ => ?_))
      | exact antecedentref11_Names.mono _ _ _
      | exact LeO.none _
      | refine LeO.ite ?_ ?_
      | refine LeO.bind ?_ (fun _ => ?_)
/-! ### antecedentref11_Vars -/
def antecedentref11_Vars.f (k : Nat) (a0_0 : Int) (a0_1 : ByteArray) (l0_2 : List (S40)) (a0_3 : ByteArray) (a0_4 : ByteArray) (a0_5 : Int) (a0_6 : Int) (a0_7 : ByteArray) (a0_8 : ByteArray) (a0_9 : Int) (a0_10 : Int) (a0_11 : ByteArray) (a0_12 : ByteArray) (a0_13 : Int) (a0_14 : Int) (a0_15 : ByteArray) (l0_16 : List (S82)) : Option (List ByteArray) := (antecedentref11_terms.f a0_0 a0_1 l0_2 a0_3 a0_4 a0_5 a0_6 a0_7 a0_8 a0_9 a0_10 a0_11 a0_12 a0_13 a0_14 a0_15 l0_16).bind fun t273 => ((antecedentref11_Names.f k t273 ([] : List ByteArray)).bind fun t276 => (some t276))
theorem antecedentref11_Vars.mono : ∀ a0 a1 a2 a3 a4 a5 a6 a7 a8 a9 a10 a11 a12 a13 a14 a15 a16 k, LeO (antecedentref11_Vars.f k a0 a1 a2 a3 a4 a5 a6 a7 a8 a9 a10 a11 a12 a13 a14 a15 a16) (antecedentref11_Vars.f (k + 1) a0 a1 a2 a3 a4 a5 a6 a7 a8 a9 a10 a11 a12 a13 a14 a15 a16) := by
  intro a0 a1 a2 a3 a4 a5 a6 a7 a8 a9 a10 a11 a12 a13 a14 a15 a16 k
  unfold antecedentref11_Vars.f
  repeat' first
      | (with_reducible exact antecedentref11_Names.mono _ _ _)
      | (with_reducible exact LeO.refl _)
      | (with_reducible exact LeO.none _)
      | (with_reducible refine LeO.ite ?_ ?_)
      | (with_reducible refine LeO.bind ?_ (fun _ => ?_))
      | exact antecedentref11_Names.mono _ _ _
      | exact LeO.none _
      | refine LeO.ite ?_ ?_
      | refine LeO.bind ?_ (fun _ => ?_)
/-! ### antecedentref11_In -/
def antecedentref11_In.l0 : Nat → List ByteArray → ByteArray → Int → Int → Option (Bool)
  | 0, _, _, _, _ => none
  | k + 1, x0, x1, x7, x8 => if x8 < x7 then (if 0 ≤ x8 then (if x8 < (x0.length : Int) then (if (rdOf ByteArray.empty x0 x8).toList = x1.toList then (some true) else (antecedentref11_In.l0 k x0 x1 x7 (wrap64 (x8 + 1)))) else (none)) else (none)) else (some false)
def antecedentref11_In.f (k : Nat) (l0 : List ByteArray) (a1 : ByteArray) : Option (Bool) := antecedentref11_In.l0 k l0 a1 (l0.length : Int) 0
theorem antecedentref11_In.mono_l : ∀ k, (∀ y0 y1 y2 y3, LeO (antecedentref11_In.l0 k y0 y1 y2 y3) (antecedentref11_In.l0 (k + 1) y0 y1 y2 y3))
  | 0 => fun _ _ _ _ r h => by simp [antecedentref11_In.l0] at h
  | k + 1 => by
    have ih0 := antecedentref11_In.mono_l k
    · intro y0 y1 y2 y3
      unfold antecedentref11_In.l0
      repeat' first
      | (with_reducible exact ih0 _ _ _ _)
      | (with_reducible exact LeO.refl _)
      | (with_reducible exact LeO.none _)
      | (with_reducible refine LeO.ite ?_ ?_)
      | (with_reducible refine LeO.bind ?_ (fun _ => ?_))
      | exact ih0 _ _ _ _
      | exact LeO.none _
      | refine LeO.ite ?_ ?_
      | refine LeO.bind ?_ (fun _ => ?_)
theorem antecedentref11_In.mono : ∀ a0 a1 k, LeO (antecedentref11_In.f k a0 a1) (antecedentref11_In.f (k + 1) a0 a1) := by
  intro a0 a1 k
  have ih0 := antecedentref11_In.mono_l k
  unfold antecedentref11_In.f
  repeat' first
      | (with_reducible exact ih0 _ _ _ _)
      | (with_reducible exact LeO.refl _)
      | (with_reducible exact LeO.none _)
      | (with_reducible refine LeO.ite ?_ ?_)
      | (with_reducible refine LeO.bind ?_ (fun _ => ?_))
      | exact ih0 _ _ _ _
      | exact LeO.none _
      | refine LeO.ite ?_ ?_
      | refine LeO.bind ?_ (fun _ => ?_)
/-! ### antecedentref11_is -/
def antecedentref11_is.f (k : Nat) (a0_0 : ByteArray) (a0_1 : Int) (a0_2 : Int) (a0_3 : ByteArray) (l1 : List ByteArray) : Option (Bool) := if a0_0.toList = ([] : List UInt8) then (some true) else ((antecedentref11_In.f k l1 a0_0).bind fun t281 => (some t281))
theorem antecedentref11_is.mono : ∀ a0 a1 a2 a3 a4 k, LeO (antecedentref11_is.f k a0 a1 a2 a3 a4) (antecedentref11_is.f (k + 1) a0 a1 a2 a3 a4) := by
  intro a0 a1 a2 a3 a4 k
  unfold antecedentref11_is.f
  repeat' first
      | (with_reducible exact antecedentref11_In.mono _ _ _)
      | (with_reducible exact LeO.refl _)
      | (with_reducible exact LeO.none _)
      | (with_reducible refine LeO.ite ?_ ?_)
      | (with_reducible refine LeO.bind ?_ (fun _ => ?_))
      | exact antecedentref11_In.mono _ _ _
      | exact LeO.none _
      | refine LeO.ite ?_ ?_
      | refine LeO.bind ?_ (fun _ => ?_)
/-! ### antecedentref11_Ready -/
def antecedentref11_Ready.l0 : Nat → List ByteArray → List ByteArray → Int → Int → Option (Bool)
  | 0, _, _, _, _ => none
  | k + 1, x1, x5, x16, x17 => if x17 < x16 then (if 0 ≤ x17 then (if x17 < (x5.length : Int) then ((antecedentref11_In.f k x1 (rdOf ByteArray.empty x5 x17)).bind fun t287 => (if t287 = true then (antecedentref11_Ready.l0 k x1 x5 x16 (wrap64 (x17 + 1))) else (some false))) else (none)) else (none)) else (some true)
def antecedentref11_Ready.f (k : Nat) (a0_0 : Int) (a0_1 : ByteArray) (l0_2 : List (S40)) (a0_3 : ByteArray) (a0_4 : ByteArray) (a0_5 : Int) (a0_6 : Int) (a0_7 : ByteArray) (a0_8 : ByteArray) (a0_9 : Int) (a0_10 : Int) (a0_11 : ByteArray) (a0_12 : ByteArray) (a0_13 : Int) (a0_14 : Int) (a0_15 : ByteArray) (l0_16 : List (S82)) (l1 : List ByteArray) : Option (Bool) := if a0_0 = 2 then ((antecedentref11_Vars.f k a0_0 a0_1 l0_2 a0_3 a0_4 a0_5 a0_6 a0_7 a0_8 a0_9 a0_10 a0_11 a0_12 a0_13 a0_14 a0_15 l0_16).bind fun t283 => (antecedentref11_Ready.l0 k l1 t283 (t283.length : Int) 0)) else (if a0_0 = 3 then ((antecedentref11_is.f k a0_4 a0_5 a0_6 a0_7 l1).bind fun t288 => ((antecedentref11_is.f k a0_8 a0_9 a0_10 a0_11 l1).bind fun t289 => (if t288 = true then (if t289 = true then (some true) else (if a0_3.toList = ([61] : List UInt8) then (some true) else (some false))) else (if a0_3.toList = ([61] : List UInt8) then (some t289) else (some false))))) else (if a0_0 = 4 then ((antecedentref11_is.f k a0_8 a0_9 a0_10 a0_11 l1).bind fun t290 => (if t290 = true then ((antecedentref11_is.f k a0_12 a0_13 a0_14 a0_15 l1).bind fun t291 => (some t291)) else (some false))) else (some true)))
theorem antecedentref11_Ready.mono_l : ∀ k, (∀ y0 y1 y2 y3, LeO (antecedentref11_Ready.l0 k y0 y1 y2 y3) (antecedentref11_Ready.l0 (k + 1) y0 y1 y2 y3))
  | 0 => fun _ _ _ _ r h => by simp [antecedentref11_Ready.l0] at h
  | k + 1 => by
    have ih0 := antecedentref11_Ready.mono_l k
    · intro y0 y1 y2 y3
      unfold antecedentref11_Ready.l0
      repeat' first
      | (with_reducible exact ih0 _ _ _ _)
      | (with_reducible exact antecedentref11_In.mono _ _ _)
      | (with_reducible exact antecedentref11_Vars.mono _ _ _ _ _ _ _ _ _ _ _ _ _ _ _ _ _ _)
      | (with_reducible exact antecedentref11_is.mono _ _ _ _ _ _)
      | (with_reducible exact LeO.refl _)
      | (with_reducible exact LeO.none _)
      | (with_reducible refine LeO.ite ?_ ?_)
      | (with_reducible refine LeO.bind ?_ (fun _ => ?_))
      | exact ih0 _ _ _ _
      | exact antecedentref11_In.mono _ _ _
      | exact antecedentref11_Vars.mono _ _ _ _ _ _ _ _ _ _ _ _ _ _ _ _ _ _
      | exact antecedentref11_is.mono _ _ _ _ _ _
      | exact LeO.none _
      | refine LeO.ite ?_ ?_
      | refine LeO.bind ?_ (fun _ => ?_)
theorem antecedentref11_Ready.mono : ∀ a0 a1 a2 a3 a4 a5 a6 a7 a8 a9 a10 a11 a12 a13 a14 a15 a16 a17 k, LeO (antecedentref11_Ready.f k a0 a1 a2 a3 a4 a5 a6 a7 a8 a9 a10 a11 a12 a13 a14 a15 a16 a17) (antecedentref11_Ready.f (k + 1) a0 a1 a2 a3 a4 a5 a6 a7 a8 a9 a10 a11 a12 a13 a14 a15 a16 a17) := by
  intro a0 a1 a2 a3 a4 a5 a6 a7 a8 a9 a10 a11 a12 a13 a14 a15 a16 a17 k
  have ih0 := antecedentref11_Ready.mono_l k
  unfold antecedentref11_Ready.f
  repeat' first
      | (with_reducible exact ih0 _ _ _ _)
      | (with_reducible exact antecedentref11_In.mono _ _ _)
      | (with_reducible exact antecedentref11_Vars.mono _ _ _ _ _ _ _ _ _ _ _ _ _ _ _ _ _ _)
      | (with_reducible exact antecedentref11_is.mono _ _ _ _ _ _)
      | (with_reducible exact LeO.refl _)
      | (with_reducible exact LeO.none _)
      | (with_reducible refine LeO.ite ?_ ?_)
      | (with_reducible refine LeO.bind ?_ (fun _ => ?_))
      | exact ih0 _ _ _ _
      | exact antecedentref11_In.mono _ _ _
      | exact antecedentref11_Vars.mono _ _ _ _ _ _ _ _ _ _ _ _ _ _ _ _ _ _
      | exact antecedentref11_is.mono _ _ _ _ _ _
      | exact LeO.none _
      | refine LeO.ite ?_ ?_
      | refine LeO.bind ?_ (fun _ => ?_)
/-! ### antecedentref11_Order -/
mutual
def antecedentref11_Order.l0 : Nat → List (S43) → List ByteArray → List Int → List Bool → Option (List Int × List ByteArray × Int)
  | 0, _, _, _, _ => none
  | k + 1, x0, x1, x7, x8 => if (x7.length : Int) < (x0.length : Int) then (antecedentref11_Order.l1 k x0 x1 x7 x8 (-1) (x0.length : Int) 0) else (some (x7, x1, 0))
def antecedentref11_Order.l1 : Nat → List (S43) → List ByteArray → List Int → List Bool → Int → Int → Int → Option (List Int × List ByteArray × Int)
  | 0, _, _, _, _, _, _, _ => none
  | k + 1, x0, x1, x7, x8, x9, x22, x23 => if x23 < x22 then (if x9 < 0 then (if 0 ≤ x23 then (if x23 < (x8.length : Int) then (if rdOf false x8 x23 = true then (antecedentref11_Order.l1 k x0 x1 x7 x8 x9 x22 (wrap64 (x23 + 1))) else (if x23 < (x0.length : Int) then ((antecedentref11_Ready.f k ((rd_T43 x0 x23).f0) ((rd_T43 x0 x23).f1.f0) ((rd_T43 x0 x23).f1.f1) ((rd_T43 x0 x23).f2) ((rd_T43 x0 x23).f3.f0) ((rd_T43 x0 x23).f3.f1.f0) ((rd_T43 x0 x23).f3.f1.f1) ((rd_T43 x0 x23).f3.f1.f2) ((rd_T43 x0 x23).f4.f0) ((rd_T43 x0 x23).f4.f1.f0) ((rd_T43 x0 x23).f4.f1.f1) ((rd_T43 x0 x23).f4.f1.f2) ((rd_T43 x0 x23).f5.f0) ((rd_T43 x0 x23).f5.f1.f0) ((rd_T43 x0 x23).f5.f1.f1) ((rd_T43 x0 x23).f5.f1.f2) ((rd_T43 x0 x23).f6) x1).bind fun t300 => (if t300 = true then (antecedentref11_Order.l1 k x0 x1 x7 x8 x23 x22 (wrap64 (x23 + 1))) else (antecedentref11_Order.l1 k x0 x1 x7 x8 x9 x22 (wrap64 (x23 + 1))))) else (none))) else (none)) else (none)) else (antecedentref11_Order.l1 k x0 x1 x7 x8 x9 x22 (wrap64 (x23 + 1)))) else (if x9 < 0 then (some (([] : List Int), ([] : List ByteArray), 7)) else (if 0 ≤ x9 then (if x9 < (x8.length : Int) then (if x7.length < 17592186044416 then (if x9 < (x0.length : Int) then ((antecedentref11_Binds.f k ((rd_T43 x0 x9).f0) ((rd_T43 x0 x9).f1.f0) ((rd_T43 x0 x9).f1.f1) ((rd_T43 x0 x9).f2) ((rd_T43 x0 x9).f3.f0) ((rd_T43 x0 x9).f3.f1.f0) ((rd_T43 x0 x9).f3.f1.f1) ((rd_T43 x0 x9).f3.f1.f2) ((rd_T43 x0 x9).f4.f0) ((rd_T43 x0 x9).f4.f1.f0) ((rd_T43 x0 x9).f4.f1.f1) ((rd_T43 x0 x9).f4.f1.f2) ((rd_T43 x0 x9).f5.f0) ((rd_T43 x0 x9).f5.f1.f0) ((rd_T43 x0 x9).f5.f1.f1) ((rd_T43 x0 x9).f5.f1.f2) ((rd_T43 x0 x9).f6) x1).bind fun t306 => (antecedentref11_Order.l0 k x0 t306 (x7 ++ [x9]) (x8.set (x9 : Int).toNat true))) else (none)) else (none)) else (none)) else (none)))
end
def antecedentref11_Order.f (k : Nat) (l0 : List (S43)) (l1 : List ByteArray) : Option (List Int × List ByteArray × Int) := (antecedentref11_Names.f k ([] : List (S40)) l1).bind fun t292 => (if 0 ≤ (l0.length : Int) then (if ((l0.length : Int) : Int).toNat ≤ 281474976710656 then (antecedentref11_Order.l0 k l0 t292 ([] : List Int) (List.replicate ((l0.length : Int) : Int).toNat false)) else (none)) else (none))
theorem antecedentref11_Order.mono_l : ∀ k, (∀ y0 y1 y2 y3, LeO (antecedentref11_Order.l0 k y0 y1 y2 y3) (antecedentref11_Order.l0 (k + 1) y0 y1 y2 y3)) ∧ (∀ y0 y1 y2 y3 y4 y5 y6, LeO (antecedentref11_Order.l1 k y0 y1 y2 y3 y4 y5 y6) (antecedentref11_Order.l1 (k + 1) y0 y1 y2 y3 y4 y5 y6))
  | 0 => ⟨fun _ _ _ _ r h => by simp [antecedentref11_Order.l0] at h, fun _ _ _ _ _ _ _ r h => by simp [antecedentref11_Order.l1] at h⟩
  | k + 1 => by
    obtain ⟨ih0, ih1⟩ := antecedentref11_Order.mono_l k
    refine ⟨?_, ?_⟩
    · intro y0 y1 y2 y3
      unfold antecedentref11_Order.l0
      repeat' first
      | (with_reducible exact ih0 _ _ _ _)
      | (with_reducible exact ih1 _ _ _ _ _ _ _)
      | (with_reducible exact antecedentref11_Binds.mono _ _ _ _ _ _ _ _ _ _ _ _ _ _ _ _ _ _ _)
      | (with_reducible exact antecedentref11_Names.mono _ _ _)
      | (with_reducible exact antecedentref11_Ready.mono _ _ _ _ _ _ _ _ _ _ _ _ _ _ _ _ _ _ _)
      | (with_reducible exact LeO.refl _)
      | (with_reducible exact LeO.none _)
      | (with_reducible refine LeO.ite ?_ ?_)
      | (with_reducible refine LeO.bind ?_ (fun _ => ?_))
      | exact ih0 _ _ _ _
      | exact ih1 _ _ _ _ _ _ _
      | exact antecedentref11_Binds.mono _ _ _ _ _ _ _ _ _ _ _ _ _ _ _ _ _ _ _
      | exact antecedentref11_Names.mono _ _ _
      | exact antecedentref11_Ready.mono _ _ _ _ _ _ _ _ _ _ _ _ _ _ _ _ _ _ _
      | exact LeO.none _
      | refine LeO.ite ?_ ?_
      | refine LeO.bind ?_ (fun _ => ?_)
    · intro y0 y1 y2 y3 y4 y5 y6
      unfold antecedentref11_Order.l1
      repeat' first
      | (with_reducible exact ih0 _ _ _ _)
      | (with_reducible exact ih1 _ _ _ _ _ _ _)
      | (with_reducible exact antecedentref11_Binds.mono _ _ _ _ _ _ _ _ _ _ _ _ _ _ _ _ _ _ _)
      | (with_reducible exact antecedentref11_Names.mono _ _ _)
      | (with_reducible exact antecedentref11_Ready.mono _ _ _ _ _ _ _ _ _ _ _ _ _ _ _ _ _ _ _)
      | (with_reducible exact LeO.refl _)
      | (with_reducible exact LeO.none _)
      | (with_reducible refine LeO.ite ?_ ?_)
      | (with_reducible refine LeO.bind ?_ (fun _ => ?_))
      | exact ih0 _ _ _ _
      | exact ih1 _ _ _ _ _ _ _
      | exact antecedentref11_Binds.mono _ _ _ _ _ _ _ _ _ _ _ _ _ _ _ _ _ _ _
      | exact antecedentref11_Names.mono _ _ _
      | exact antecedentref11_Ready.mono _ _ _ _ _ _ _ _ _ _ _ _ _ _ _ _ _ _ _
      | exact LeO.none _
      | refine LeO.ite ?_ ?_
      | refine LeO.bind ?_ (fun _ => ?_)
theorem antecedentref11_Order.mono : ∀ a0 a1 k, LeO (antecedentref11_Order.f k a0 a1) (antecedentref11_Order.f (k + 1) a0 a1) := by
  intro a0 a1 k
  obtain ⟨ih0, ih1⟩ := antecedentref11_Order.mono_l k
  unfold antecedentref11_Order.f
  repeat' first
      | (with_reducible exact ih0 _ _ _ _)
      | (with_reducible exact ih1 _ _ _ _ _ _ _)
      | (with_reducible exact antecedentref11_Binds.mono _ _ _ _ _ _ _ _ _ _ _ _ _ _ _ _ _ _ _)
      | (with_reducible exact antecedentref11_Names.mono _ _ _)
      | (with_reducible exact antecedentref11_Ready.mono _ _ _ _ _ _ _ _ _ _ _ _ _ _ _ _ _ _ _)
      | (with_reducible exact LeO.refl _)
      | (with_reducible exact LeO.none _)
      | (with_reducible refine LeO.ite ?_ ?_)
      | (with_reducible refine LeO.bind ?_ (fun _ => ?_))
      | exact ih0 _ _ _ _
      | exact ih1 _ _ _ _ _ _ _
      | exact antecedentref11_Binds.mono _ _ _ _ _ _ _ _ _ _ _ _ _ _ _ _ _ _ _
      | exact antecedentref11_Names.mono _ _ _
      | exact antecedentref11_Ready.mono _ _ _ _ _ _ _ _ _ _ _ _ _ _ _ _ _ _ _
      | exact LeO.none _
      | refine LeO.ite ?_ ?_
      | refine LeO.bind ?_ (fun _ => ?_)
/-! ### antecedentlaw11_SafeMore -/
def antecedentlaw11_SafeMore.j0 : Nat → List (S43) → List ByteArray → List ByteArray → Bool → Option (Bool)
  | 0, _, _, _, _ => none
  | k + 1, x0, x1, x2, x25 => if x25 = true then ((antecedentlaw11_awake.f k).bind fun t383 => (some t383)) else ((safe_Order.f k x0 x1).bind fun bt384 => ((some (([] : List ByteArray) : List ByteArray)).bind fun y391 => (if y391.length + x1.length < 8796093022208 then ((some (y391 ++ x1 : List ByteArray)).bind fun y394 => (if y394.length + x2.length < 8796093022208 then ((safe_Order.f k x0 (y394 ++ x2)).bind fun bt400 => (if bt384.2.2 = 0 then (if bt400.2.2 = 0 then ((some (([] : List ByteArray) : List ByteArray)).bind fun y407 => (if y407.length + bt384.2.1.length < 8796093022208 then ((some (y407 ++ bt384.2.1 : List ByteArray)).bind fun y410 => (if y410.length + x2.length < 8796093022208 then ((antecedentref11_Names.f k ([] : List (S40)) (y410 ++ x2)).bind fun t416 => ((antecedentref11_Same.f k bt400.2.1 t416).bind fun t419 => (some t419))) else (none))) else (none))) else (some false)) else (some ((bt384.2.1.length : Int) == 0)))) else (none))) else (none))))
def antecedentlaw11_SafeMore.f (k : Nat) (l0 : List (S43)) (l1 : List ByteArray) (l2 : List ByteArray) : Option (Bool) := (antecedentlaw11_awake.f k).bind fun t381 => (if t381 = true then ((antecedentlaw11_few.f k l0 l1).bind fun t382 => (if t382 = true then (antecedentlaw11_SafeMore.j0 k l0 l1 l2 (decide ((l2.length : Int) > 20))) else (antecedentlaw11_SafeMore.j0 k l0 l1 l2 true))) else (antecedentlaw11_SafeMore.j0 k l0 l1 l2 true))
theorem antecedentlaw11_SafeMore.mono_l : ∀ k, (∀ y0 y1 y2 y3, LeO (antecedentlaw11_SafeMore.j0 k y0 y1 y2 y3) (antecedentlaw11_SafeMore.j0 (k + 1) y0 y1 y2 y3))
  | 0 => fun _ _ _ _ r h => by simp [antecedentlaw11_SafeMore.j0] at h
  | k + 1 => by
    have ih0 := antecedentlaw11_SafeMore.mono_l k
    · intro y0 y1 y2 y3
      unfold antecedentlaw11_SafeMore.j0
      repeat' first
      | (with_reducible exact ih0 _ _ _ _)
      | (with_reducible exact antecedentlaw11_awake.mono _)
      | (with_reducible exact antecedentlaw11_few.mono _ _ _)
      | (with_reducible exact antecedentref11_Names.mono _ _ _)
      | (with_reducible exact antecedentref11_Same.mono _ _ _)
      | (with_reducible exact safe_Order.mono _ _ _)
      | (with_reducible exact LeO.refl _)
      | (with_reducible exact LeO.none _)
      | (with_reducible refine LeO.ite ?_ ?_)
      | (with_reducible refine LeO.bind ?_ (fun _ => ?_))
      | exact ih0 _ _ _ _
      | exact antecedentlaw11_awake.mono _
      | exact antecedentlaw11_few.mono _ _ _
      | exact antecedentref11_Names.mono _ _ _
      | exact antecedentref11_Same.mono _ _ _
      | exact safe_Order.mono _ _ _
      | exact LeO.none _
      | refine LeO.ite ?_ ?_
      | refine LeO.bind ?_ (fun _ => ?_)
theorem antecedentlaw11_SafeMore.mono : ∀ a0 a1 a2 k, LeO (antecedentlaw11_SafeMore.f k a0 a1 a2) (antecedentlaw11_SafeMore.f (k + 1) a0 a1 a2) := by
  intro a0 a1 a2 k
  have ih0 := antecedentlaw11_SafeMore.mono_l k
  unfold antecedentlaw11_SafeMore.f
  repeat' first
      | (with_reducible exact ih0 _ _ _ _)
      | (with_reducible exact antecedentlaw11_awake.mono _)
      | (with_reducible exact antecedentlaw11_few.mono _ _ _)
      | (with_reducible exact antecedentref11_Names.mono _ _ _)
      | (with_reducible exact antecedentref11_Same.mono _ _ _)
      | (with_reducible exact safe_Order.mono _ _ _)
      | (with_reducible exact LeO.refl _)
      | (with_reducible exact LeO.none _)
      | (with_reducible refine LeO.ite ?_ ?_)
      | (with_reducible refine LeO.bind ?_ (fun _ => ?_))
      | exact ih0 _ _ _ _
      | exact antecedentlaw11_awake.mono _
      | exact antecedentlaw11_few.mono _ _ _
      | exact antecedentref11_Names.mono _ _ _
      | exact antecedentref11_Same.mono _ _ _
      | exact safe_Order.mono _ _ _
      | exact LeO.none _
      | refine LeO.ite ?_ ?_
      | refine LeO.bind ?_ (fun _ => ?_)
end Go.Proofs.Ytmgbfgloegcloaa.Ps
