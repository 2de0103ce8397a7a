/- LISTS IN ORDER, EACH ONCE: what is put in, what is there, and that there is one such list alone. No program in sight. -/
import Derived.Lib.SlicesCompact
namespace AnteSet
open Go

/-- A strict order in which any two are comparable. -/
structure Slo {α : Type} (lt : α → α → Bool) : Prop where
  irr : ∀ a, lt a a = false
  trans : ∀ a b c, lt a b = true → lt b c = true → lt a c = true
  tri : ∀ a b, lt a b = true ∨ a = b ∨ lt b a = true
section
variable {α : Type} {lt : α → α → Bool}
theorem Slo.asym (h : Slo lt) {a b : α} (hab : lt a b = true) : lt b a = false := by
  cases hb : lt b a with
  | false => rfl
  | true =>
    have h1 := h.trans a b a hab hb
    rw [h.irr a] at h1
    cases h1
theorem Slo.ne (h : Slo lt) {a b : α} (hab : lt a b = true) : a ≠ b := by
  rintro rfl
  rw [h.irr a] at hab
  cases hab
def Sorted (lt : α → α → Bool) (l : List α) : Prop := l.Pairwise (fun a b => lt a b = true)
theorem uniq (h : Slo lt) : ∀ {a b : List α}, Sorted lt a → Sorted lt b → (∀ x, x ∈ a ↔ x ∈ b) → a = b
  | [], [], _, _, _ => rfl
  | [], y :: b, _, _, hm => by have := (hm y).2 (by simp); simp at this
  | x :: a, [], _, _, hm => by have := (hm x).1 (by simp); simp at this
  | x :: a, y :: b, ha, hb, hm => by
    obtain ⟨a1, a2⟩ := List.pairwise_cons.1 ha
    obtain ⟨b1, b2⟩ := List.pairwise_cons.1 hb
    have hxy : x = y := by
      rcases List.mem_cons.1 ((hm x).1 (by simp)) with e | e
      · exact e
      · rcases List.mem_cons.1 ((hm y).2 (by simp)) with e' | e'
        · exact e'.symm
        · have h1 := a1 y e'
          have h2 := b1 x e
          rw [h.asym h1] at h2
          cases h2
    subst hxy
    have : a = b := uniq h a2 b2 (fun z => by
      constructor
      · intro hz
        rcases List.mem_cons.1 ((hm z).1 (by simp [hz])) with e | e
        · subst e
          have := a1 z hz
          rw [h.irr] at this
          cases this
        · exact e
      · intro hz
        rcases List.mem_cons.1 ((hm z).2 (by simp [hz])) with e | e
        · subst e
          have := b1 z hz
          rw [h.irr] at this
          cases this
        · exact e)
    rw [this]
section
variable [DecidableEq α]
def ins (lt : α → α → Bool) (s : α) : List α → List α
  | [] => [s]
  | a :: l => if lt s a then s :: a :: l else if s = a then a :: l else a :: ins lt s l
def nset (lt : α → α → Bool) (l : List α) : List α := l.foldl (fun acc s => ins lt s acc) []
theorem mem_ins {s x : α} {l : List α} : x ∈ ins lt s l ↔ x = s ∨ x ∈ l := by
  induction l with
  | nil => simp [ins]
  | cons a l ih =>
    unfold ins
    split
    · simp
    · split
      · rename_i h1 h2
        subst h2
        simp
      · simp only [List.mem_cons, ih]
        constructor
        · rintro (h | h | h)
          · exact .inr (.inl h)
          · exact .inl h
          · exact .inr (.inr h)
        · rintro (h | h | h)
          · exact .inr (.inl h)
          · exact .inl h
          · exact .inr (.inr h)
theorem sorted_ins (h : Slo lt) {s : α} {l : List α} (hs : Sorted lt l) : Sorted lt (ins lt s l) := by
  unfold Sorted at *
  induction l with
  | nil => simp [ins]
  | cons a l ih =>
    obtain ⟨h1, h2⟩ := List.pairwise_cons.1 hs
    unfold ins
    split
    · rename_i hsa
      refine List.pairwise_cons.2 ⟨fun b hb => ?_, hs⟩
      rcases List.mem_cons.1 hb with rfl | hb
      · exact hsa
      · exact h.trans s a b hsa (h1 b hb)
    · split
      · exact hs
      · rename_i hsa hne
        refine List.pairwise_cons.2 ⟨fun b hb => ?_, ih h2⟩
        rcases mem_ins.1 hb with rfl | hb
        · rcases h.tri b a with h3 | h3 | h3
          · exact absurd h3 hsa
          · exact absurd h3 hne
          · exact h3
        · exact h1 b hb
theorem length_ins {s : α} {l : List α} : (ins lt s l).length ≤ l.length + 1 := by
  induction l with
  | nil => simp [ins]
  | cons a l ih =>
    unfold ins
    split
    · simp
    · split
      · simp
      · simp only [List.length_cons]; omega
theorem fold_spec (h : Slo lt) (l : List α) : ∀ acc, Sorted lt acc → Sorted lt (l.foldl (fun acc s => ins lt s acc) acc) ∧ (∀ x, x ∈ l.foldl (fun acc s => ins lt s acc) acc ↔ x ∈ acc ∨ x ∈ l) ∧ (l.foldl (fun acc s => ins lt s acc) acc).length ≤ acc.length + l.length := by
  induction l with
  | nil => intro acc hs; exact ⟨hs, by simp, by simp⟩
  | cons a l ih =>
    intro acc hs
    obtain ⟨h1, h2, h3⟩ := ih (ins lt a acc) (sorted_ins h hs)
    refine ⟨h1, fun x => ?_, ?_⟩
    · rw [List.foldl_cons, h2, mem_ins, List.mem_cons]
      constructor
      · rintro ((e | e) | e)
        · exact .inr (.inl e)
        · exact .inl e
        · exact .inr (.inr e)
      · rintro (e | e | e)
        · exact .inl (.inr e)
        · exact .inl (.inl e)
        · exact .inr e
    · have := length_ins (lt := lt) (s := a) (l := acc)
      simp only [List.foldl_cons, List.length_cons]
      omega
theorem sorted_nset (h : Slo lt) (l : List α) : Sorted lt (nset lt l) := (fold_spec h l [] List.Pairwise.nil).1
theorem mem_nset (h : Slo lt) {l : List α} {x : α} : x ∈ nset lt l ↔ x ∈ l := by
  have := (fold_spec h l [] List.Pairwise.nil).2.1 x
  unfold nset
  rw [this]
  simp
theorem length_nset (h : Slo lt) (l : List α) : (nset lt l).length ≤ l.length := by
  have := (fold_spec h l [] List.Pairwise.nil).2.2
  simpa [nset] using this
theorem nset_congr (h : Slo lt) {a b : List α} (hm : ∀ x, x ∈ a ↔ x ∈ b) : nset lt a = nset lt b :=
  uniq h (sorted_nset h a) (sorted_nset h b) (fun _ => by rw [mem_nset h, mem_nset h, hm])
theorem nset_self (h : Slo lt) {a : List α} (hs : Sorted lt a) : nset lt a = a := uniq h (sorted_nset h a) hs (fun _ => mem_nset h)
theorem nset_snoc (l : List α) (s : α) : nset lt (l ++ [s]) = ins lt s (nset lt l) := by simp [nset, List.foldl_append]

/-- A row that never falls, compacted: each of its elements once. -/
theorem compact_nset [Inhabited α] (h : Slo lt) (zs : List α) (hs : zs.Pairwise (fun a b => lt b a = false)) : Lib.compact zs = nset lt zs := by
  have hle : ∀ i j, i ≤ j → j < zs.length → lt (zs.toArray[j]!) (zs.toArray[i]!) = false := by
    intro i j hij hj
    rcases Nat.lt_or_eq_of_le hij with hlt | rfl
    · have := List.pairwise_iff_getElem.1 hs i j (by omega) hj hlt
      simpa [getElem!_pos, hj, show i < zs.length by omega] using this
    · exact h.irr _
  have key : ∀ m, m ≤ zs.length → Sorted lt (Lib.compactUpTo zs.toArray m) ∧ (∀ x, x ∈ Lib.compactUpTo zs.toArray m ↔ ∃ j, j < m ∧ zs.toArray[j]! = x) := by
    intro m
    induction m with
    | zero => exact fun _ => ⟨by simp [Lib.compactUpTo, Sorted], by simp [Lib.compactUpTo]⟩
    | succ m ih =>
      intro hm
      obtain ⟨h1, h2⟩ := ih (by omega)
      rw [Lib.compactUpTo_succ]
      by_cases hk : Lib.keeps zs.toArray m = true
      · rw [if_pos hk]
        refine ⟨List.pairwise_append.2 ⟨h1, by simp, fun a ha b hb => ?_⟩, fun x => ?_⟩
        · rw [List.mem_singleton.1 hb]
          obtain ⟨j, hj, rfl⟩ := (h2 a).1 ha
          rcases h.tri (zs.toArray[j]!) (zs.toArray[m]!) with e | e | e
          · exact e
          · exfalso
            -- the one ahead of place m lies between them
            have hm0 : m ≠ 0 := by omega
            have hne : zs.toArray[m]! ≠ zs.toArray[m - 1]! := by
              have := hk
              simp only [Lib.keeps, decide_eq_true_eq] at this
              rcases this with e0 | e0
              · exact absurd e0 hm0
              · exact e0
            have l1 := hle j (m - 1) (by omega) (by omega)
            have l2 := hle (m - 1) m (by omega) (by omega)
            rcases h.tri (zs.toArray[m]!) (zs.toArray[m - 1]!) with e1 | e1 | e1
            · rw [l2] at e1; cases e1
            · exact hne e1
            · rw [← e, l1] at e1; cases e1
          · rw [hle j m (by omega) (by omega)] at e; cases e
        · rw [List.mem_append, h2, List.mem_singleton]
          constructor
          · rintro (⟨j, hj, e⟩ | e)
            · exact ⟨j, by omega, e⟩
            · exact ⟨m, by omega, e.symm⟩
          · rintro ⟨j, hj, e⟩
            rcases Nat.lt_or_eq_of_le (Nat.le_of_lt_succ hj) with hlt | rfl
            · exact .inl ⟨j, hlt, e⟩
            · exact .inr e.symm
      · have hk' : Lib.keeps zs.toArray m = false := by simpa using hk
        rw [if_neg (by simp [hk'])]
        rw [List.append_nil]
        refine ⟨h1, fun x => ?_⟩
        rw [h2]
        constructor
        · rintro ⟨j, hj, e⟩; exact ⟨j, by omega, e⟩
        · rintro ⟨j, hj, e⟩
          rcases Nat.lt_or_eq_of_le (Nat.le_of_lt_succ hj) with hlt | rfl
          · exact ⟨j, hlt, e⟩
          · have : ¬ (j = 0 ∨ zs.toArray[j]! ≠ zs.toArray[j - 1]!) := by simpa [Lib.keeps] using hk'
            have h0 : j ≠ 0 := fun e0 => this (.inl e0)
            have he : zs.toArray[j]! = zs.toArray[j - 1]! := Classical.byContradiction fun e0 => this (.inr e0)
            exact ⟨j - 1, by omega, he.symm.trans e⟩
  obtain ⟨h1, h2⟩ := key zs.length (Nat.le_refl _)
  refine uniq h h1 (sorted_nset h zs) (fun x => ?_)
  rw [mem_nset h]
  show x ∈ Lib.compactUpTo zs.toArray zs.length ↔ _
  rw [h2]
  constructor
  · rintro ⟨j, hj, rfl⟩
    have : zs.toArray[j]! = zs[j] := by simp [getElem!_pos, hj]
    rw [this]
    exact List.getElem_mem hj
  · intro hx
    obtain ⟨j, hj, e⟩ := List.getElem_of_mem hx
    exact ⟨j, hj, by simp [getElem!_pos, hj, e]⟩
end
end
end AnteSet
