/- WHAT THE REFERENCES' Compare, Order AND FEW COMPUTE: plain, no program in sight. No condition but lengths that Go may have. -/
import Derived.Test.YtolefpeiceiocaaPs3
import Derived.Test.YtolefpeiceiocaaPgrp
import Derived.Test.YtolefpeiceiocaaPaw
import Derived.Test.YtolefpeiceiocaaArgs
namespace Go.Proofs.Ytolefpeiceiocaa.Ps
open Go Go.RowKit Go.Proofs.YtolefpeiceiocaaW.PrintWords Go.Proofs.YtolefpeiceiocaaW.PrintLast
set_option linter.unusedVariables false

theorem rcmp_eq (x y : Sv) : antecedentref02_Compare.f x.f0 x.f1 x.f2 y.f0 y.f1 y.f2 = some (cmpS x y) := by
  unfold antecedentref02_Compare.f cmpS
  rw [AnteVal.vcmp_walk]
  show _ = some (if (x.f0 != y.f0) = true then (if x.f0 < y.f0 then (-1 : Int) else 1) else if (x.f1 != y.f1) = true then (if x.f1 < y.f1 then (-1 : Int) else 1) else if Op.bytesLess x.f2.toList y.f2.toList = true then (-1 : Int) else if (!x.f2.toList == y.f2.toList) = true then (1 : Int) else 0)
  have b0 : ((x.f0 != y.f0) = true) = ¬ (x.f0 = y.f0) := by simp
  have b1 : ((x.f1 != y.f1) = true) = ¬ (x.f1 = y.f1) := by simp
  have b2 : ((!x.f2.toList == y.f2.toList) = true) = ¬ (x.f2.toList = y.f2.toList) := by simp
  have b3 : ((Op.bytesLess x.f2.toList y.f2.toList || (x.f2.toList == y.f2.toList)) = true) = (Op.bytesLess x.f2.toList y.f2.toList = true ∨ x.f2.toList = y.f2.toList) := by simp
  simp only [b0, b1, b2, b3]
  by_cases h0 : x.f0 = y.f0
  · by_cases h1 : x.f1 = y.f1
    · by_cases h2 : Op.bytesLess x.f2.toList y.f2.toList = true
      · simp [h0, h1, h2]
      · by_cases h3 : x.f2.toList = y.f2.toList
        · rw [if_pos h0, if_pos h1, if_neg h2, if_pos (.inr h3), if_neg (not_not_intro h0), if_neg (not_not_intro h1), if_neg h2, if_neg (not_not_intro h3)]
        · rw [if_pos h0, if_pos h1, if_neg h2, if_neg (fun h => h.elim h2 h3), if_neg (not_not_intro h0), if_neg (not_not_intro h1), if_neg h2, if_pos h3]
    · rw [if_pos h0, if_neg h1, if_neg (not_not_intro h0), if_pos h1]
      split <;> rfl
  · rw [if_neg h0, if_pos h0]
    split <;> rfl
theorem wrap_len {i n : Nat} (h : i < n) (hn : n ≤ maxLen) : wrap64 ((i : Int) + 1) = ((i + 1 : Nat) : Int) := by unfold wrap64; unfold maxLen at hn; omega
theorem order_loop (x y : List Sv) (hx : x.length ≤ maxLen) : ∀ (m k i : Nat), i + m = x.length → i ≤ y.length → 2 * m + 2 ≤ k → antecedentref03_Order.l0 k x y (i : Int) = some (lexS (x.drop i) (y.drop i)) := by
  intro m
  induction m with
  | zero =>
    intro k i hi hy hk
    obtain ⟨k, rfl⟩ : ∃ k', k = k' + 2 := ⟨k - 2, by omega⟩
    unfold antecedentref03_Order.l0
    rw [if_neg (by omega)]
    unfold antecedentref03_Order.j1
    rw [if_neg (by decide), List.drop_eq_nil_of_le (show x.length ≤ i by omega)]
    by_cases h : i < y.length
    · rw [if_pos (by omega), List.drop_eq_getElem_cons h]; rfl
    · rw [if_neg (by omega), List.drop_eq_nil_of_le (by omega)]
      rw [if_neg (by omega)]; rfl
  | succ m ih =>
    intro k i hi hy hk
    obtain ⟨k, rfl⟩ : ∃ k', k = k' + 2 := ⟨k - 2, by omega⟩
    have hil : i < x.length := by omega
    unfold antecedentref03_Order.l0
    rw [if_pos (by omega)]
    unfold antecedentref03_Order.j1
    rw [List.drop_eq_getElem_cons hil]
    by_cases h : i < y.length
    · rw [if_pos (by simp; omega), if_pos (by omega), if_pos (by omega), if_pos (by omega), rd_get hil, rd_get h, rcmp_eq, Option.bind_some, List.drop_eq_getElem_cons h, lexS]
      by_cases hc : cmpS x[i] y[i] = 0
      · rw [if_pos hc, if_pos hc, wrap_len hil hx, ih k (i + 1) (by omega) (by omega) (by omega)]
      · rw [if_neg hc, if_neg hc]
    · rw [if_neg (by simp; omega), if_neg (by omega), if_pos (by omega), List.drop_eq_nil_of_le (show y.length ≤ i by omega)]; rfl
theorem Order_eq (x y : List Sv) (hx : x.length ≤ maxLen) (k : Nat) (hk : 2 * x.length + 2 ≤ k) : antecedentref03_Order.f k x y = some (lexS x y) := by
  have h := order_loop x y hx x.length k 0 (by omega) (by omega) (by omega)
  simpa [antecedentref03_Order.f] using h
theorem rd_row {l : List (List Sv)} {i : Nat} (h : i < l.length) : rd_L3 l (i : Int) = l[i] := by
  unfold rd_L3
  rw [List.getD_eq_getElem?_getD, Int.toNat_natCast, List.getElem?_eq_getElem h]; rfl

/-- Is a list of tuples of a size that is looked at? -/
def fewP (l : List (List Sv)) : Bool := l.all (fun t => decide (t.length ≤ 10)) && decide (l.length ≤ 40)
theorem few_loop (l : List (List Sv)) (hlen : l.length ≤ maxLen) : ∀ (m k i : Nat), i + m = l.length → m < k → antecedentlaw20_few.l0 k l (l.length : Int) (i : Int) = some ((l.drop i).all (fun t => decide (t.length ≤ 10)) && decide (l.length ≤ 40)) := by
  intro m
  induction m with
  | zero =>
    intro k i hi hk
    obtain ⟨k, rfl⟩ : ∃ k', k = k' + 1 := ⟨k - 1, by omega⟩
    unfold antecedentlaw20_few.l0
    rw [if_neg (by omega), List.drop_eq_nil_of_le (by omega), List.all_nil, Bool.true_and]
    congr 1
    rw [Bool.eq_iff_iff, decide_eq_true_iff, decide_eq_true_iff]
    omega
  | succ m ih =>
    intro k i hi hk
    obtain ⟨k, rfl⟩ : ∃ k', k = k' + 1 := ⟨k - 1, by omega⟩
    have hil : i < l.length := by omega
    unfold antecedentlaw20_few.l0
    rw [if_pos (by omega), if_pos (by omega), if_pos (by omega), rd_row hil, List.drop_eq_getElem_cons hil, List.all_cons]
    by_cases h : l[i].length ≤ 10
    · rw [if_neg (by omega), wrap_len hil hlen, ih k (i + 1) (by omega) (by omega), decide_eq_true h, Bool.true_and]
    · rw [if_pos (by omega), decide_eq_false h, Bool.false_and, Bool.false_and]
theorem few_eq (l : List (List Sv)) (hlen : l.length ≤ maxLen) (k : Nat) (hk : l.length < k) : antecedentlaw20_few.f k l = some (fewP l) := by
  have h := few_loop l hlen l.length k 0 (by omega) hk
  simpa [antecedentlaw20_few.f, fewP] using h
theorem few_ok {l : List (List Sv)} (h : fewP l = true) (hw : ∀ y ∈ l, ∀ x ∈ y, wfV x) : l.length ≤ 40 ∧ (∀ y ∈ l, y.length ≤ 10) ∧ okLL l := by
  unfold fewP at h
  rw [Bool.and_eq_true, List.all_eq_true] at h
  have h2 : l.length ≤ 40 := of_decide_eq_true h.2
  have h3 : ∀ y ∈ l, y.length ≤ 10 := fun y hy => of_decide_eq_true (h.1 y hy)
  exact ⟨h2, h3, by omega, fun y hy => ⟨by have := h3 y hy; omega, fun x hx => wfV_ok (hw y hy x hx)⟩⟩

/-- The rows of what is grouped are not long. -/
theorem go_len {kind : Int} {l : List (List Sv)} {B : Nat} : ∀ (hs out : List (List Sv)), (∀ h ∈ hs, h.length < B) → (∀ h ∈ out, h.length ≤ B) →
    (goP kind l hs out).1.length ≤ hs.length + out.length ∧ ∀ h ∈ (goP kind l hs out).1, h.length ≤ B
  | [], out, _, h2 => by rw [goP]; exact ⟨by simp, h2⟩
  | h :: hs, out, h1, h2 => by
    rw [goP]
    split
    · exact ⟨by simp, fun x hx => by simp at hx⟩
    · have ih := go_len (kind := kind) (l := l) (B := B) hs (out ++ [h ++ [(ofP kind (valsT h l)).1]]) (fun x hx => h1 x (by simp [hx])) (fun x hx => by
        rcases List.mem_append.1 hx with hx | hx
        · exact h2 x hx
        · rw [List.mem_singleton.1 hx, List.length_append]
          have := h1 h (by simp)
          simp only [List.length_cons, List.length_nil]
          omega)
      refine ⟨?_, ih.2⟩
      have := ih.1
      rw [List.length_append] at this
      simp at this ⊢
      omega
theorem groups_len {kind : Int} {l : List (List Sv)} (h1 : l.length ≤ 40) (h2 : ∀ y ∈ l, y.length ≤ 10) : (groupsP kind l).1.length ≤ 40 ∧ ∀ y ∈ (groupsP kind l).1, y.length ≤ 10 := by
  unfold groupsP
  split
  · exact ⟨by simp, fun x hx => by simp at hx⟩
  · rename_i hu
    have hlen := setC_length (c := lexS) (l.map List.dropLast)
    have := go_len (kind := kind) (l := l) (B := 10) (setT (l.map List.dropLast)) [] (fun h hh => by
      unfold setT at hh
      rw [mem_setC lexS_ord, List.mem_map] at hh
      obtain ⟨t, ht, rfl⟩ := hh
      have h3 := h2 t ht
      have h4 := even_len (by simpa using hu) t ht
      rw [List.length_dropLast]
      omega) (fun x hx => by simp at hx)
    refine ⟨?_, this.2⟩
    have h5 := this.1
    unfold setT at h5
    rw [List.length_map] at hlen
    unfold setT
    simp at h5
    omega
end Go.Proofs.Ytolefpeiceiocaa.Ps
