/- NUMBERS IN ORDER, EACH ONCE: the library's Sort (whatever the length) and Compact. No program's memory in sight. -/
import Derived.Test.YtliocmjeglbpiaaPsD
import Derived.Test.YtliocmjeglbpiaaPperm
import Derived.Test.YtliocmjeglbpiaaPdual
namespace Go.Proofs.Ytliocmjeglbpiaa.Ps
open Go.RowKit Go.Proofs.YtliocmjeglbpiaaW.PrintWords Go.Proofs.YtliocmjeglbpiaaW.PrintLast Go.Proofs.YtliocmjeglbpiaaW.PrintMore
set_option linter.unusedVariables false
set_option linter.unusedSimpArgs false

theorem wrap_succ (i : Nat) (h : i < 9223372036854775807) : wrap64 ((i : Int) + 1) = ((i + 1 : Nat) : Int) := by
  unfold wrap64; omega
theorem wrap_pred (i : Nat) (h : i < 4611686018427387904) : wrap64 (((i + 1 : Nat) : Int) - 1) = (i : Int) := by
  unfold wrap64; omega
theorem rd_nat (xs : List Int) (i : Nat) (h : i < xs.length) : rd xs (i : Int) = xs[i] := by
  simp [rd, h]
theorem lt_cast {i n : Nat} (h : i < n) : (i : Int) < (n : Int) := by omega
theorem nlt_cast {i n : Nat} (h : n ≤ i) : ¬ (i : Int) < (n : Int) := by omega
theorem nn_cast (i : Nat) : (0 : Int) ≤ (i : Int) := by omega

/-- Two that change places. -/
def sw (x : List Int) (i j : Nat) : List Int := (x.set i (nth x j)).set j (nth x i)
theorem sw_length (x : List Int) (i j : Nat) : (sw x i j).length = x.length := by simp [sw]
theorem sw_perm (x : List Int) (i j : Nat) (hi : i < x.length) (hj : j < x.length) : (sw x i j).Perm x := by
  have h := Sort.swp_permIn x.toArray 0 x.length i j (Nat.zero_le _) hi (Nat.zero_le _) hj (by simp)
  have h2 := h.2.2
  have e : Sort.swp x.toArray i j = (sw x i j).toArray := by
    unfold Sort.swp sw nth
    simp [hi, hj]
  rw [e, Array.extract_eq_self_of_le (by simp [sw]), Array.extract_eq_self_of_le (by simp)] at h2
  exact h2
theorem nth_sw (x : List Int) (i j m : Nat) (hi : i < x.length) (hj : j < x.length) (hij : i ≠ j) : nth (sw x i j) m = if m = j then nth x i else if m = i then nth x j else nth x m := by
  unfold sw
  by_cases e1 : m = j
  · subst e1; rw [if_pos rfl, nth_set_same _ _ _ (by simpa using hj)]
  · rw [if_neg e1, nth_set_other _ _ _ _ (fun e => e1 e.symm)]
    by_cases e2 : m = i
    · subst e2; rw [if_pos rfl, nth_set_same _ _ _ hi]
    · rw [if_neg e2, nth_set_other _ _ _ _ (fun e => e2 e.symm)]

/-- In order, up to n. -/
def Asc (x : List Int) (n : Nat) : Prop := ∀ a b, a < b → b < n → nth x a ≤ nth x b
/-- In order, but for what stands at p, which is no greater than what follows. -/
structure Put (x : List Int) (n p : Nat) : Prop where
  asc : ∀ a b, a < b → b < n → a ≠ p → b ≠ p → nth x a ≤ nth x b
  low : ∀ b, p < b → b < n → nth x p ≤ nth x b
theorem Put.step {x : List Int} {n p : Nat} (h : Put x n (p + 1)) (hp : p + 1 < n) (hn : n ≤ x.length) (hlt : nth x (p + 1) < nth x p) : Put (sw x (p + 1) p) n p := by
  have e := fun m => nth_sw x (p + 1) p m (by omega) (by omega) (by omega)
  refine ⟨fun a b hab hb ha hb' => ?_, fun b hpb hb => ?_⟩
  · rw [e a, e b, if_neg ha, if_neg hb']
    by_cases h1 : a = p + 1
    · rw [if_pos h1, if_neg (by omega)]; exact h.asc p b (by omega) hb (by omega) (by omega)
    · rw [if_neg h1]
      by_cases h2 : b = p + 1
      · rw [if_pos h2]; exact h.asc a p (by omega) (by omega) h1 (by omega)
      · rw [if_neg h2]; exact h.asc a b hab hb h1 h2
  · rw [e p, e b, if_pos rfl, if_neg (by omega)]
    by_cases h2 : b = p + 1
    · rw [if_pos h2]; omega
    · rw [if_neg h2]; exact h.low b (by omega) hb
theorem Put.done {x : List Int} {n p : Nat} (h : Put x n p) (hp : p = 0 ∨ nth x (p - 1) ≤ nth x p) : Asc x n := by
  intro a b hab hb
  by_cases h1 : a = p
  · subst h1; exact h.low b hab hb
  · by_cases h2 : b = p
    · subst h2
      rcases hp with hp | hp
      · omega
      · by_cases h3 : a = b - 1
        · subst h3; exact hp
        · have := h.asc a (b - 1) (by omega) (by omega) h1 (by omega); omega
    · exact h.asc a b hab hb h1 h2

theorem sort_spec (x : List Int) (hx : x.length < 1000000) : ∃ r, slices_Sort_uint_uint.f x = some r ∧ r.Perm x ∧ Asc r x.length := by
  refine ⟨_, by unfold slices_Sort_uint_uint.f; rw [if_pos hx], List.mergeSort_perm x _, fun a b hab hb => ?_⟩
  have hs := List.pairwise_mergeSort (le := fun x y : Int => decide (x ≤ y)) (fun a b c h1 h2 => by simp at h1 h2 ⊢; omega) (fun a b => by simp; omega) x
  have hl : (x.mergeSort fun x y => decide (x ≤ y)).length = x.length := List.length_mergeSort x
  have h := List.pairwise_iff_getElem.1 hs a b (by omega) (by omega) hab
  simp only [decide_eq_true_eq] at h
  have e : ∀ m, (hm : m < (x.mergeSort fun x y => decide (x ≤ y)).length) → nth (x.mergeSort fun x y => decide (x ≤ y)) m = (x.mergeSort fun x y => decide (x ≤ y))[m] := fun m hm => by unfold nth; rw [List.getD_eq_getElem?_getD, List.getElem?_eq_getElem hm]; rfl
  rw [e a (by omega), e b (by omega)]
  exact h

theorem getBang (x : List Int) (i : Nat) : x.toArray[i]! = nth x i := by
  unfold nth
  by_cases h : i < x.length <;> simp [h]
theorem compact_mem {x : List Int} (hasc : Asc x x.length) (v : Int) : v ∈ Lib.compact x ↔ v ∈ x := by
  unfold Lib.compact Lib.compactUpTo
  constructor
  · intro h
    obtain ⟨j, hj, e⟩ := List.mem_map.1 h
    have hjl := List.mem_range.1 (List.mem_filter.1 hj).1
    rw [getBang] at e
    rw [← e]; simp [nth, hjl]
  · intro h
    obtain ⟨i, hi, e⟩ := List.mem_iff_getElem.1 h
    -- the first place that holds it
    have hex : ∃ j, j < x.length ∧ nth x j = v ∧ (j = 0 ∨ nth x (j - 1) ≠ v) := by
      have : ∀ (i : Nat), i < x.length → nth x i = v → ∃ j, j < x.length ∧ nth x j = v ∧ (j = 0 ∨ nth x (j - 1) ≠ v) := by
        intro i
        induction i with
        | zero => intro h1 h2; exact ⟨0, h1, h2, .inl rfl⟩
        | succ i ih =>
          intro h1 h2
          by_cases h3 : nth x i = v
          · exact ih (by omega) h3
          · exact ⟨i + 1, h1, h2, .inr h3⟩
      exact this i hi (by simp [nth, hi, e])
    obtain ⟨j, hj, e2, h3⟩ := hex
    refine List.mem_map.2 ⟨j, List.mem_filter.2 ⟨List.mem_range.2 hj, ?_⟩, by rw [getBang]; exact e2⟩
    unfold Lib.keeps
    rw [getBang, getBang]
    simp only [decide_eq_true_eq]
    rcases h3 with h3 | h3
    · exact .inl h3
    · exact .inr (by rw [e2]; exact fun e => h3 e.symm)
theorem compact_nodup {x : List Int} (hasc : Asc x x.length) : (Lib.compact x).Nodup := by
  unfold Lib.compact Lib.compactUpTo
  refine nodup_map_on _ _ (List.Pairwise.filter _ List.nodup_range) (fun a ha b hb e => ?_)
  rw [getBang, getBang] at e
  have key : ∀ a b, a < b → b ∈ (List.range x.length).filter (Lib.keeps x.toArray) → nth x a ≠ nth x b := by
    intro a b hab hb e
    have h1 := List.mem_filter.1 hb
    have hbl := List.mem_range.1 h1.1
    have h2 := h1.2
    unfold Lib.keeps at h2
    rw [getBang, getBang] at h2
    simp only [decide_eq_true_eq] at h2
    rcases h2 with h2 | h2
    · omega
    · have h4 := hasc (b - 1) b (by omega) hbl
      by_cases h5 : a = b - 1
      · subst h5; exact h2 e.symm
      · have h6 := hasc a (b - 1) (by omega) (by omega)
        omega
  rcases Nat.lt_trichotomy a b with h | h | h
  · exact absurd e (key a b h hb)
  · exact h
  · exact absurd e.symm (key b a h ha)
end Go.Proofs.Ytliocmjeglbpiaa.Ps
