/- FoldTells: the plain law. -/
import Derived.Test.YtolefpeiceiocaaGreatPs5
import Derived.Test.YtolefpeiceiocaaGreatArgs
namespace Go.Proofs.YtolefpeiceiocaaGreat.Ps
open Go Go.RowKit Go.Proofs.YtolefpeiceiocaaGreatW.PrintWords Go.Proofs.YtolefpeiceiocaaGreatW.PrintLast
set_option linter.unusedVariables false

theorem wrap_len {i n : Nat} (h : i < n) (hn : n ≤ maxLen) : wrap64 ((i : Int) + 1) = ((i + 1 : Nat) : Int) := by unfold wrap64; unfold maxLen at hn; omega
theorem order_loop (x y : List Sv) (hx : x.length ≤ maxLen) : ∀ (m k i : Nat), i + m = x.length → i ≤ y.length → 2 * m + 2 ≤ k → antecedentref03_Order.l0 k x y (i : Int) = some (lexS (x.drop i) (y.drop i)) := by
  intro m
  induction m with
  | zero =>
    intro k i hi hy hk
    obtain ⟨k, rfl⟩ : ∃ k', k = k' + 2 := ⟨k - 2, by omega⟩
    unfold antecedentref03_Order.l0
    rw [if_neg (by omega)]
    unfold antecedentref03_Order.j1
    rw [if_neg (by decide), List.drop_eq_nil_of_le (show x.length ≤ i by omega)]
    by_cases h : i < y.length
    · rw [if_pos (by omega), List.drop_eq_getElem_cons h]; rfl
    · rw [if_neg (by omega), List.drop_eq_nil_of_le (by omega)]
      rw [if_neg (by omega)]; rfl
  | succ m ih =>
    intro k i hi hy hk
    obtain ⟨k, rfl⟩ : ∃ k', k = k' + 2 := ⟨k - 2, by omega⟩
    have hil : i < x.length := by omega
    unfold antecedentref03_Order.l0
    rw [if_pos (by omega)]
    unfold antecedentref03_Order.j1
    rw [List.drop_eq_getElem_cons hil]
    by_cases h : i < y.length
    · rw [if_pos (by simp; omega), if_pos (by omega), if_pos (by omega), if_pos (by omega), rd_get hil, rd_get h, rcmp_eq, Option.bind_some, List.drop_eq_getElem_cons h, lexS]
      by_cases hc : cmpS x[i] y[i] = 0
      · rw [if_pos hc, if_pos hc, wrap_len hil hx, ih k (i + 1) (by omega) (by omega) (by omega)]
      · rw [if_neg hc, if_neg hc]
    · rw [if_neg (by simp; omega), if_neg (by omega), if_pos (by omega), List.drop_eq_nil_of_le (show y.length ≤ i by omega)]; rfl
theorem Order_eq (x y : List Sv) (hx : x.length ≤ maxLen) (k : Nat) (hk : 2 * x.length + 2 ≤ k) : antecedentref03_Order.f k x y = some (lexS x y) := by
  have h := order_loop x y hx x.length k 0 (by omega) (by omega) (by omega)
  simpa [antecedentref03_Order.f] using h

theorem FoldTells_plain (kind : Int) (l : List Sv) (hk : inI kind) (hl : l.length ≤ maxLen ∧ ∀ x ∈ l, wfV x) : ∃ k, antecedentlaw20_FoldTells.f k kind l = some true := by
  refine ⟨4000, ?_⟩
  unfold antecedentlaw20_FoldTells.f
  rw [awake_eq 4000 (by omega), Option.bind_some, if_pos rfl]
  by_cases h : (l.length : Int) > 40
  · rw [if_pos h, Option.bind_some, if_pos rfl]
  · rw [if_neg h]
    have hok : okL l := ⟨by omega, fun x hx => wfV_ok (hl.2 x hx)⟩
    have hlen : l.length ≤ 40 := by omega
    have hsz : (setL l).length ≤ 40 := Nat.le_trans (setC_length (c := cmpS) l) hlen
    have hm : (l.length + 3) * l.length ≤ 43 * 40 := Nat.mul_le_mul (by omega) hlen
    have e1 : antecedentref20_Of.f kind l = some (four (ofP kind l)) := by unfold antecedentref20_Of.f; rw [if_pos ⟨hok, hk⟩]
    have e2 : fold_Set.f l = some (setL l) := by unfold fold_Set.f; rw [if_pos hok]
    rw [Of_eq kind l hk hok 4000 (by omega), Option.bind_some, e1, Option.bind_some, e2, if_pos (by simp), if_pos rfl, Option.bind_some, rset_eq l hok 4000 (by omega), Option.bind_some, Order_eq _ _ (by unfold maxLen; omega) 4000 (by omega), Option.bind_some, lexS_self]
    rfl
end Go.Proofs.YtolefpeiceiocaaGreat.Ps
