/- INSERTION SORT ONLY TURNS ABOUT what it is given, whatever the order is. No condition. -/
import Derived.Sort.Lot0
import Derived.Sort.Statements
namespace Go.Proofs.Ytliocmjeglbpiaa.Ps
open Go.Sort
variable {α : Type} [Inhabited α] (lt : α → α → Bool)

theorem insInner_perm (n : Nat) : ∀ (j : Nat) (d : Array α), j < n → n ≤ d.size → PermIn 0 n d (insInner lt 0 j d)
  | 0, d, _, _ => permIn_refl _ _ _
  | j + 1, d, hj, hn => by
    unfold insInner
    split
    · have h1 : PermIn 0 n d (swp d (j + 1) j) := swp_permIn d 0 n (j + 1) j (by omega) hj (by omega) (by omega) hn
      exact permIn_trans _ _ _ _ _ h1 (insInner_perm n j _ (by omega) (by rw [h1.1]; exact hn))
    · exact permIn_refl _ _ _

theorem insOuter_perm (n : Nat) : ∀ (m i : Nat) (d : Array α), n - i ≤ m → n ≤ d.size → PermIn 0 n d (insOuter lt 0 n i d) := by
  intro m
  induction m with
  | zero =>
    intro i d hm hn
    unfold insOuter
    rw [if_neg (by omega)]
    exact permIn_refl _ _ _
  | succ m ih =>
    intro i d hm hn
    unfold insOuter
    split
    · rename_i hi
      have h1 := insInner_perm lt n i d hi hn
      exact permIn_trans _ _ _ _ _ h1 (ih _ _ (by omega) (by rw [h1.1]; exact hn))
    · exact permIn_refl _ _ _

theorem insertionSort_perm (l : List α) : (insertionSort lt l.toArray 0 l.length).toList.Perm l := by
  have h := insOuter_perm lt l.length l.length 1 l.toArray (by omega) (by simp)
  have h1 := h.1
  have h2 := h.2.2
  have e1 : (insOuter lt 0 l.length 1 l.toArray).extract 0 l.length = insOuter lt 0 l.length 1 l.toArray := by
    have : l.length = (insOuter lt 0 l.length 1 l.toArray).size := by rw [h1]; simp
    rw [Array.extract_eq_self_of_le (by omega)]
  have e2 : l.toArray.extract 0 l.length = l.toArray := by rw [Array.extract_eq_self_of_le (by simp)]
  rw [e1, e2] at h2
  exact h2

theorem insertionSort_size (l : List α) : (insertionSort lt l.toArray 0 l.length).size = l.length := by
  have := (insertionSort_perm lt l).length_eq
  simpa using this
end Go.Proofs.Ytliocmjeglbpiaa.Ps
