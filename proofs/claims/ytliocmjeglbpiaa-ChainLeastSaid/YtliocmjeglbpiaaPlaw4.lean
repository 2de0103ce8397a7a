/- ChainLeast's PLAIN LAW: as many permutations as there are sets at most of which none is part of another one. No program's memory in sight. -/
import Derived.Test.YtliocmjeglbpiaaPfits
import Derived.Test.YtliocmjeglbpiaaPlaw1
namespace Go.Proofs.Ytliocmjeglbpiaa.Ps
open Go.RowKit Go.Proofs.YtliocmjeglbpiaaW.PrintWords Go.Proofs.YtliocmjeglbpiaaW.PrintLast Go.Proofs.YtliocmjeglbpiaaW.PrintMore
set_option linter.unusedVariables false
set_option linter.unusedSimpArgs false

/-- No one of these is part of another one. -/
abbrev Lone (l : List (List Int)) : Prop := l.Pairwise fun a b => (partB a b || partB b a) = false
theorem lone_snoc {b : List (List Int)} {x : List Int} : Lone (b ++ [x]) ↔ Lone b ∧ ∀ y ∈ b, (partB y x || partB x y) = false := by
  unfold Lone
  rw [List.pairwise_append]
  constructor
  · rintro ⟨h1, _, h3⟩; exact ⟨h1, fun y hy => h3 y hy x (List.mem_singleton.2 rfl)⟩
  · rintro ⟨h1, h3⟩; exact ⟨h1, List.pairwise_singleton _ _, fun y hy z hz => by rw [List.mem_singleton.1 hz]; exact h3 y hy⟩
theorem most_some : ∀ (l b : List (List Int)), Lone b → ∃ s, s.Sublist l ∧ Lone (b ++ s) ∧ (b ++ s).length = mostL l b
  | [], b, hb => ⟨[], List.Sublist.refl _, by rw [List.append_nil]; exact hb, by rw [List.append_nil]; rfl⟩
  | x :: l, b, hb => by
    rw [mostL]
    split
    · obtain ⟨s, h1, h2, h3⟩ := most_some l b hb
      exact ⟨s, h1.cons x, h2, h3⟩
    · rename_i hno
      have hx : Lone (b ++ [x]) := lone_snoc.2 ⟨hb, fun y hy => by
        cases hq : (partB y x || partB x y) with
        | false => rfl
        | true => exact absurd (List.any_eq_true.2 ⟨y, hy, hq⟩) hno⟩
      obtain ⟨s, h1, h2, h3⟩ := most_some l b hb
      obtain ⟨t, k1, k2, k3⟩ := most_some l (b ++ [x]) hx
      rcases Nat.le_total (mostL l b) (mostL l (b ++ [x])) with h | h
      · rw [Nat.max_eq_right h]
        refine ⟨x :: t, k1.cons_cons x, ?_, ?_⟩
        · rw [List.append_cons]; exact k2
        · rw [List.append_cons]; exact k3
      · rw [Nat.max_eq_left h]
        exact ⟨s, h1.cons x, h2, h3⟩
theorem most_all : ∀ (l b s : List (List Int)), s.Sublist l → Lone (b ++ s) → (b ++ s).length ≤ mostL l b
  | [], b, s, hs, hl => by
    obtain rfl := List.sublist_nil.1 hs
    rw [List.append_nil]; exact Nat.le_refl _
  | x :: l, b, s, hs, hl => by
    rw [mostL]
    rcases List.sublist_cons_iff.1 hs with h | ⟨t, rfl, h⟩
    · have := most_all l b s h hl
      split
      · exact this
      · omega
    · rw [List.append_cons] at hl ⊢
      have hx : Lone (b ++ [x]) := (List.pairwise_append.1 hl).1
      rw [if_neg (fun hc => by
        obtain ⟨y, hy, hq⟩ := List.any_eq_true.1 hc
        rw [(lone_snoc.1 hx).2 y hy] at hq
        cases hq)]
      have := most_all l (b ++ [x]) t h hl
      omega

theorem snoc_ind {α : Type} {p : List α → Prop} (h0 : p []) (h : ∀ l s, p l → p (l ++ [s])) : ∀ l, p l := by
  intro l
  rw [← List.reverse_reverse l]
  induction l.reverse with
  | nil => exact h0
  | cons a t ih => rw [List.reverse_cons]; exact h _ _ ih
theorem pair_of {α : Type} {R : α → α → Prop} {s : List α} (h : s.Pairwise R) (hs : ∀ a b, R a b → R b a) {a b : α} (ha : a ∈ s) (hb : b ∈ s) (hne : a ≠ b) : R a b := by
  obtain ⟨i, hi, rfl⟩ := List.mem_iff_getElem.1 ha
  obtain ⟨j, hj, rfl⟩ := List.mem_iff_getElem.1 hb
  rcases Nat.lt_trichotomy i j with h1 | h1 | h1
  · exact List.pairwise_iff_getElem.1 h i j hi hj h1
  · subst h1; exact absurd rfl hne
  · exact hs _ _ (List.pairwise_iff_getElem.1 h j i hj hi h1)
/-- The sets that have a column, each once. -/
def unlike (sets : List (List Int)) : List (List Int) := sets.foldl (fun k s => if 0 < s.length ∧ ∀ y ∈ k, (partB y s && partB s y) = false then k ++ [s] else k) []
theorem unlike_snoc (sets : List (List Int)) (s : List Int) : unlike (sets ++ [s]) = if 0 < s.length ∧ ∀ y ∈ unlike sets, (partB y s && partB s y) = false then unlike sets ++ [s] else unlike sets := by
  unfold unlike; rw [List.foldl_append]; rfl
theorem unlike_length : ∀ sets : List (List Int), (unlike sets).length ≤ sets.length := by
  refine snoc_ind ?_ ?_
  · exact Nat.le_refl _
  · intro l s ih
    rw [unlike_snoc]
    split <;> simp only [List.length_append, List.length_singleton] <;> omega
theorem unlike_mem : ∀ sets : List (List Int), ∀ s ∈ unlike sets, s ∈ sets ∧ 0 < s.length := by
  refine snoc_ind ?_ ?_
  · intro s hs; cases hs
  · intro l s ih
    intro t ht
    rw [unlike_snoc] at ht
    split at ht
    · rename_i h
      rcases List.mem_append.1 ht with ht | ht
      · exact ⟨List.mem_append_left _ (ih t ht).1, (ih t ht).2⟩
      · rw [List.mem_singleton.1 ht]; exact ⟨by simp, h.1⟩
    · exact ⟨List.mem_append_left _ (ih t ht).1, (ih t ht).2⟩
theorem unlike_apart : ∀ sets : List (List Int), (unlike sets).Pairwise fun a b => (partB a b && partB b a) = false := by
  refine snoc_ind ?_ ?_
  · exact List.Pairwise.nil
  · intro l s ih
    rw [unlike_snoc]
    split
    · rename_i h
      exact List.pairwise_append.2 ⟨ih, List.pairwise_singleton _ _, fun y hy z hz => by rw [List.mem_singleton.1 hz]; exact h.2 y hy⟩
    · exact ih
theorem unlike_all : ∀ sets : List (List Int), ∀ s ∈ sets, 0 < s.length → ∃ t ∈ unlike sets, partB t s = true ∧ partB s t = true := by
  refine snoc_ind ?_ ?_
  · intro s hs; cases hs
  · intro l s ih
    intro t ht h0
    rw [unlike_snoc]
    have hrefl : ∀ a : List Int, partB a a = true := fun a => (partB_iff a a).2 fun x hx => hx
    rcases List.mem_append.1 ht with ht | ht
    · obtain ⟨u, hu, h1⟩ := ih t ht h0
      refine ⟨u, ?_, h1⟩
      split
      · exact List.mem_append_left _ hu
      · exact hu
    · have ht := List.mem_singleton.1 ht
      subst ht
      split
      · exact ⟨t, by simp, hrefl t, hrefl t⟩
      · rename_i h
        have h2 : ¬ ∀ y ∈ unlike l, (partB y t && partB t y) = false := fun hc => h ⟨h0, hc⟩
        obtain ⟨y, hy, hq⟩ : ∃ y ∈ unlike l, (partB y t && partB t y) = true := by
          apply Classical.byContradiction
          intro hc
          refine h2 fun y hy => ?_
          cases hq : (partB y t && partB t y) with
          | false => rfl
          | true => exact absurd ⟨y, hy, hq⟩ hc
        rw [Bool.and_eq_true] at hq
        exact ⟨y, hy, hq⟩

/-! ### what the reference's number is -/
theorem part_sub {ar : Int} {a b : List Int} (ha : SetOk ar a) (hb : SetOk ar b) : partB a b = true ↔ Sub (maskN a) (maskN b) := by
  rw [partB_iff]
  constructor
  · intro h i hi
    rw [maskN_test b (fun c hc => (hb.1 c hc).1)]
    exact h _ ((maskN_test a (fun c hc => (ha.1 c hc).1) i).1 hi)
  · intro h x hx
    obtain ⟨i, rfl⟩ := Int.eq_ofNat_of_zero_le (ha.1 x hx).1
    exact (maskN_test b (fun c hc => (hb.1 c hc).1) i).1 (h i ((maskN_test a (fun c hc => (ha.1 c hc).1) i).2 hx))
theorem mask_nz {ar : Int} {a : List Int} (ha : SetOk ar a) : maskN a ≠ 0 ↔ 0 < a.length := by
  constructor
  · intro h
    rcases Nat.eq_zero_or_pos a.length with h0 | h0
    · rw [List.eq_nil_of_length_eq_zero h0] at h; exact absurd rfl h
    · exact h0
  · intro h e
    obtain ⟨c, hc⟩ := List.exists_mem_of_length_pos h
    obtain ⟨i, rfl⟩ := Int.eq_ofNat_of_zero_le (ha.1 c hc).1
    have := (maskN_test a (fun c hc => (ha.1 c hc).1) i).2 hc
    rw [e] at this
    simp at this

theorem most_width (ar : Int) (sets : List (List Int)) (hs : ∀ s ∈ sets, SetOk ar s) : Width (fun m => m ≠ 0 ∧ ∃ s ∈ sets, maskN s = m) (mostL (unlike sets) []) := by
  have hU : ∀ s ∈ unlike sets, SetOk ar s := fun s h => hs s (unlike_mem sets s h).1
  constructor
  · obtain ⟨s, h1, h2, h3⟩ := most_some (unlike sets) [] List.Pairwise.nil
    rw [List.nil_append] at h2 h3
    refine ⟨s.map maskN, ⟨?_, ?_, ?_⟩, by rw [List.length_map, h3]⟩
    · rw [List.nodup_iff_pairwise_ne, List.pairwise_map]
      refine h2.imp_of_mem (fun {a b} ha hb h => fun e => ?_)
      have k1 := hU a (h1.subset ha)
      have k2 := hU b (h1.subset hb)
      have : partB a b = true := (part_sub k1 k2).2 (by rw [e]; exact Sub.refl _)
      rw [this] at h
      cases h
    · intro m hm
      obtain ⟨a, ha, rfl⟩ := List.mem_map.1 hm
      have k := unlike_mem sets a (h1.subset ha)
      exact ⟨(mask_nz (hs a k.1)).2 k.2, a, k.1, rfl⟩
    · intro m hm n hn hsub
      obtain ⟨a, ha, rfl⟩ := List.mem_map.1 hm
      obtain ⟨b, hb, rfl⟩ := List.mem_map.1 hn
      have k1 := hU a (h1.subset ha)
      have k2 := hU b (h1.subset hb)
      have hp := (part_sub k1 k2).2 hsub
      by_cases e : a = b
      · rw [e]
      · have h := pair_of h2 (fun x y h => by rw [Bool.or_comm]; exact h) ha hb e
        rw [hp] at h
        cases h
  · intro B hB
    have hsub : ((unlike sets).filter fun t => B.contains (maskN t)).Sublist (unlike sets) := List.filter_sublist
    have hl : Lone ([] ++ (unlike sets).filter fun t => B.contains (maskN t)) := by
      rw [List.nil_append]
      refine (List.Pairwise.sublist hsub (unlike_apart sets)).imp_of_mem (fun {a b} ha hb h => ?_)
      have k1 := hU a (hsub.subset ha)
      have k2 := hU b (hsub.subset hb)
      have m1 : maskN a ∈ B := by simpa using (List.mem_filter.1 ha).2
      have m2 : maskN b ∈ B := by simpa using (List.mem_filter.1 hb).2
      have hno : ¬ maskN a = maskN b := fun e => by
        rw [(part_sub k1 k2).2 (by rw [e]; exact Sub.refl _), (part_sub k2 k1).2 (by rw [e]; exact Sub.refl _)] at h
        cases h
      cases c1 : partB a b with
      | true => exact absurd (hB.apart _ m1 _ m2 ((part_sub k1 k2).1 c1)) hno
      | false =>
        cases c2 : partB b a with
        | true => exact absurd (hB.apart _ m2 _ m1 ((part_sub k2 k1).1 c2)).symm hno
        | false => rfl
    have h1 := most_all (unlike sets) [] _ hsub hl
    rw [List.nil_append] at h1
    refine Nat.le_trans (Nat.le_trans (nodup_le B (((unlike sets).filter fun t => B.contains (maskN t)).map maskN) hB.nodup fun x hx => ?_) (Nat.le_of_eq (List.length_map _))) h1
    obtain ⟨hx0, t, ht, rfl⟩ := hB.mem x hx
    obtain ⟨u, hu, p1, p2⟩ := unlike_all sets t ht ((mask_nz (hs t ht)).1 hx0)
    have e : maskN u = maskN t := Sub.antisymm ((part_sub (hU u hu) (hs t ht)).1 p1) ((part_sub (hs t ht) (hU u hu)).1 p2)
    exact List.mem_map.2 ⟨u, List.mem_filter.2 ⟨hu, by rw [e]; simpa using hx⟩, e⟩

/-! ### the walk's functions -/
theorem unlike1 (sets out : List (List Int)) (i : Nat) (hi : i < sets.length) (hs : ∀ s ∈ sets, s.length < 1000000) (ho : ∀ s ∈ out, s.length < 1000000) (hol : out.length < 1000000) {q : List (List Int)} (b : Bool)
    (hnext : Ev (fun k => antecedentref18_Unlike.l0 k sets (if b = true ∧ ∀ y ∈ out, (partB y sets[i] && partB sets[i] y) = false then out ++ [sets[i]] else out) (sets.length : Int) ((i + 1 : Nat) : Int)) q) (hil : sets.length < 1000000) (d : Nat) : ∀ (j : Nat) (c : Bool), j + d = out.length → (c = true ↔ b = true ∧ ∀ y ∈ out.take j, (partB y sets[i] && partB sets[i] y) = false) →
    Ev (fun k => antecedentref18_Unlike.l1 k sets out (i : Int) c (sets.length : Int) (i : Int) (out.length : Int) (j : Int)) q := by
  induction d with
  | zero =>
    intro j c hj hc
    obtain rfl : j = out.length := by omega
    rw [List.take_length] at hc
    refine Ev.step (fun k => ?_) hnext
    simp only [antecedentref18_Unlike.l1]
    rw [if_neg (nlt_cast (by omega))]
    cases c with
    | true => rw [if_pos rfl, if_pos (nn_cast _), if_pos (lt_cast hi), if_pos (by omega), rdL sets i hi, wrap_succ i (by omega), if_pos (hc.1 rfl)]
    | false => rw [if_neg (by simp), wrap_succ i (by omega), if_neg (fun h => by have := hc.2 h; cases this)]
  | succ d ih =>
    intro j c hj hc
    have hlt : j < out.length := by omega
    have htk : out.take (j + 1) = out.take j ++ [out[j]] := by rw [List.take_succ_eq_append_getElem hlt]
    have hq : (∀ y ∈ out.take (j + 1), (partB y sets[i] && partB sets[i] y) = false) ↔ (∀ y ∈ out.take j, (partB y sets[i] && partB sets[i] y) = false) ∧ (partB out[j] sets[i] && partB sets[i] out[j]) = false := by
      rw [htk]
      constructor
      · intro h; exact ⟨fun y hy => h y (List.mem_append_left _ hy), h _ (List.mem_append_right _ (List.mem_singleton.2 rfl))⟩
      · rintro ⟨h1, h2⟩ y hy
        rcases List.mem_append.1 hy with hy | hy
        · exact h1 y hy
        · rw [List.mem_singleton.1 hy]; exact h2
    cases c with
    | false =>
      refine Ev.step (fun k => ?_) (ih (j + 1) false (by omega) ?_)
      · simp only [antecedentref18_Unlike.l1]
        rw [if_pos (lt_cast hlt), if_neg (by simp), wrap_succ j (by omega)]
      · constructor
        · intro h; cases h
        · rintro ⟨h1, h2⟩; exact hc.2 ⟨h1, (hq.1 h2).1⟩
    | true =>
      obtain ⟨hb, hc1⟩ := hc.1 rfl
      have p1 := part_spec out[j] sets[i] (ho _ (List.getElem_mem _)) (hs _ (List.getElem_mem _))
      have p2 := part_spec sets[i] out[j] (hs _ (List.getElem_mem _)) (ho _ (List.getElem_mem _))
      have hgo : ∀ k, antecedentref18_Unlike.l1 (k + 1) sets out (i : Int) true (sets.length : Int) (i : Int) (out.length : Int) (j : Int) = (antecedentref18_Part.f k out[j] sets[i]).bind fun t => if t = true then ((antecedentref18_Part.f k sets[i] out[j]).bind fun u => antecedentref18_Unlike.l1 k sets out (i : Int) (!u) (sets.length : Int) (i : Int) (out.length : Int) ((j + 1 : Nat) : Int)) else antecedentref18_Unlike.l1 k sets out (i : Int) (!false) (sets.length : Int) (i : Int) (out.length : Int) ((j + 1 : Nat) : Int) := by
        intro k
        simp only [antecedentref18_Unlike.l1]
        rw [if_pos (lt_cast hlt), if_pos trivial, if_pos (nn_cast _), if_pos (lt_cast hlt), if_pos (nn_cast _), if_pos (lt_cast hi), rdL out j hlt, rdL sets i hi, wrap_succ j (by omega)]
      refine Ev.step hgo (Ev.bind p1 ?_)
      cases c1 : partB out[j] sets[i] with
      | false =>
        refine Ev.congr (fun k => by rw [if_neg (by simp)]) (ih (j + 1) (!false) (by omega) ?_)
        rw [hq, c1]
        exact ⟨fun _ => ⟨hb, hc1, rfl⟩, fun _ => rfl⟩
      | true =>
        refine Ev.congr (f := fun k => (antecedentref18_Part.f k sets[i] out[j]).bind fun u => antecedentref18_Unlike.l1 k sets out (i : Int) (!u) (sets.length : Int) (i : Int) (out.length : Int) ((j + 1 : Nat) : Int)) (fun k => by rw [if_pos rfl]) (Ev.bind p2 (ih (j + 1) _ (by omega) ?_))
        rw [hq, c1, Bool.true_and]
        cases c2 : partB sets[i] out[j] with
        | false => exact ⟨fun _ => ⟨hb, hc1, rfl⟩, fun _ => rfl⟩
        | true => exact ⟨fun h => (by cases h), fun h => (by cases h.2.2)⟩

theorem unlike0 (sets : List (List Int)) (hs : ∀ s ∈ sets, s.length < 1000000) (hil : sets.length < 1000000) (d : Nat) : ∀ i : Nat, i + d = sets.length →
    Ev (fun k => antecedentref18_Unlike.l0 k sets (unlike (sets.take i)) (sets.length : Int) (i : Int)) (unlike sets) := by
  induction d with
  | zero =>
    intro i hi
    obtain rfl : i = sets.length := by omega
    rw [List.take_length]
    refine Ev.step (f := fun _ => some (unlike sets)) (fun k => ?_) (Ev.now _)
    simp only [antecedentref18_Unlike.l0]
    rw [if_neg (nlt_cast (by omega))]
  | succ d ih =>
    intro i hi
    have hlt : i < sets.length := by omega
    have h := ih (i + 1) (by omega)
    rw [List.take_succ_eq_append_getElem hlt, unlike_snoc] at h
    have hlen := unlike_length (sets.take i)
    have hlen2 : (sets.take i).length ≤ sets.length := by rw [List.length_take]; omega
    have h2 := unlike1 sets (unlike (sets.take i)) i hlt hs (fun s hs' => hs s (List.mem_of_mem_take (unlike_mem _ s hs').1)) (by omega) (decide ((sets[i].length : Int) > 0)) (q := unlike sets) (by
      have e : (decide ((sets[i].length : Int) > 0) = true) = (0 < sets[i].length) := by simp only [decide_eq_true_eq]; exact propext ⟨fun h => by omega, fun h => by omega⟩
      simp only [e]; exact h) hil (unlike (sets.take i)).length 0 (decide ((sets[i].length : Int) > 0)) (by omega) (by simp)
    refine Ev.step (fun k => ?_) h2
    simp only [antecedentref18_Unlike.l0]
    rw [if_pos (lt_cast hlt), if_pos (nn_cast _), if_pos (lt_cast hlt), rdL sets i hlt]
    rfl
theorem unlike_spec (sets : List (List Int)) (hs : ∀ s ∈ sets, s.length < 1000000) (hil : sets.length < 1000000) : Ev (fun k => antecedentref18_Unlike.f k sets) (unlike sets) := unlike0 sets hs hil sets.length 0 (by omega)

theorem rleast_loop (ar : Int) (sets : List (List Int)) (hs : ∀ s ∈ sets, s.length < 1000000) (hil : sets.length < 500000) (d : Nat) : ∀ i : Nat, i + d = sets.length → (∀ s ∈ sets.take i, SetOk ar s) →
    Ev (fun k => antecedentref18_Least.l0 k ar sets (sets.length : Int) (i : Int)) (if ∀ s ∈ sets, SetOk ar s then (mostL (unlike sets) [] : Int) else -1) := by
  induction d with
  | zero =>
    intro i hi hok
    obtain rfl : i = sets.length := by omega
    rw [List.take_length] at hok
    rw [if_pos hok]
    have hlen := unlike_length sets
    refine Ev.step (f := fun k => (antecedentref18_Unlike.f k sets).bind fun t => (antecedentref18_most.f t 0 []).bind fun u => some u) (fun k => ?_) (Ev.bind (unlike_spec sets hs (by omega)) ?_)
    · simp only [antecedentref18_Least.l0]
      rw [if_neg (nlt_cast (by omega))]
    · have e : antecedentref18_most.f (unlike sets) 0 [] = some (mostL (unlike sets) [] : Int) := by
        unfold antecedentref18_most.f
        rw [if_pos ⟨by omega, by omega, by simp only [List.length_nil]; omega, fun s h => hs s (unlike_mem sets s h).1, fun s h => by cases h⟩]
        rfl
      refine Ev.congr (f := fun _ => some (mostL (unlike sets) [] : Int)) (fun k => by rw [e]; rfl) (Ev.now _)
  | succ d ih =>
    intro i hi hok
    have hlt : i < sets.length := by omega
    have hset := set_spec ar sets[i] (hs _ (List.getElem_mem _))
    refine Ev.step (f := fun k => (antecedentref18_Set.f k ar sets[i]).bind fun t => if t = true then antecedentref18_Least.l0 k ar sets (sets.length : Int) ((i + 1 : Nat) : Int) else some (-1)) (fun k => ?_) (Ev.bind hset ?_)
    · simp only [antecedentref18_Least.l0]
      rw [if_pos (lt_cast hlt), if_pos (nn_cast _), if_pos (lt_cast hlt), rdL sets i hlt, wrap_succ i (by omega)]
    · by_cases h : SetOk ar sets[i]
      · refine Ev.congr (fun k => by rw [if_pos (decide_eq_true h)]) (ih (i + 1) (by omega) ?_)
        rw [List.take_succ_eq_append_getElem hlt]
        intro s hs'
        rcases List.mem_append.1 hs' with h' | h'
        · exact hok s h'
        · rw [List.mem_singleton.1 h']; exact h
      · rw [if_neg (fun hc => h (hc _ (List.getElem_mem _)))]
        exact Ev.congr (f := fun _ => some (-1)) (fun k => by rw [if_neg (by simpa using h)]) (Ev.now _)
theorem rleast_spec (ar : Int) (sets : List (List Int)) (hs : ∀ s ∈ sets, s.length < 1000000) (hil : sets.length < 500000) : Ev (fun k => antecedentref18_Least.f k ar sets) (if 0 ≤ ar ∧ ar ≤ 8 ∧ ∀ s ∈ sets, SetOk ar s then (mostL (unlike sets) [] : Int) else -1) := by
  have bad : Ev (fun k => antecedentref18_Least.j0 k ar sets true) (-1) := Ev.step (f := fun _ => some (-1)) (fun k => by simp [antecedentref18_Least.j0]) (Ev.now _)
  by_cases h0 : ar < 0
  · rw [if_neg (by omega)]
    exact Ev.congr (fun k => by unfold antecedentref18_Least.f; rw [if_pos h0]) bad
  · by_cases h8 : ar > 8
    · rw [if_neg (by omega)]
      exact Ev.congr (fun k => by unfold antecedentref18_Least.f; rw [if_neg h0, decide_eq_true h8]) bad
    · have h := rleast_loop ar sets hs hil sets.length 0 (by omega) (by simp)
      have e : (0 ≤ ar ∧ ar ≤ 8 ∧ ∀ s ∈ sets, SetOk ar s) = (∀ s ∈ sets, SetOk ar s) := propext ⟨fun h => h.2.2, fun h => ⟨by omega, by omega, h⟩⟩
      simp only [e]
      refine Ev.congr (f := fun k => antecedentref18_Least.j0 k ar sets false) (fun k => by unfold antecedentref18_Least.f; rw [if_neg h0, decide_eq_false h8]) (Ev.step (fun k => ?_) h)
      simp only [antecedentref18_Least.j0]
      rw [if_neg (by simp)]
      rfl

theorem ChainLeast_plain (ar : Int) (sets : List (List Int)) (hl : sets.length ≤ 9223372036854775807) : ∃ k, antecedentlaw18_ChainLeast.f k ar sets = some true := by
  apply Ev.rounds
  refine Ev.bind (f := fun k t342 => (if t342 = true then ((antecedentlaw18_few.f k sets).bind fun t343 => (if t343 = true then ((chain_Cover.f k ar sets).bind fun bt345 => ((antecedentref18_Least.f k ar sets).bind fun t349 => (if t349 < 0 then (if bt345.2 = 1 then (if (bt345.1.length : Int) = 0 then ((chain_Least.f k ar sets).bind fun t350 => (some (t350 == (-1)))) else (none)) else (none)) else (if bt345.2 = 0 then (if (bt345.1.length : Int) = t349 then ((chain_Least.f k ar sets).bind fun t351 => (some (t351 == t349))) else (none)) else (none))))) else ((antecedentlaw18_awake.f k).bind fun t344 => (if t344 = true then (some t344) else (none))))) else (none))) awake_spec ?_
  refine Ev.congr (f := fun k => (antecedentlaw18_few.f k sets).bind fun t343 => (if t343 = true then ((chain_Cover.f k ar sets).bind fun bt345 => ((antecedentref18_Least.f k ar sets).bind fun t349 => (if t349 < 0 then (if bt345.2 = 1 then (if (bt345.1.length : Int) = 0 then ((chain_Least.f k ar sets).bind fun t350 => (some (t350 == (-1)))) else (none)) else (none)) else (if bt345.2 = 0 then (if (bt345.1.length : Int) = t349 then ((chain_Least.f k ar sets).bind fun t351 => (some (t351 == t349))) else (none)) else (none))))) else ((antecedentlaw18_awake.f k).bind fun t344 => (if t344 = true then (some t344) else (none))))) (fun k => by rw [if_pos rfl]) (Ev.bind (few_spec sets hl) ?_)
  cases hfew : (sets.all (fun s => decide (s.length ≤ 10)) && decide (sets.length ≤ 10)) with
  | false => exact Ev.congr (fun k => by rw [if_neg (by simp)]) awake_done
  | true =>
    obtain ⟨hf1, hf2⟩ := few_iff.1 hfew
    have hs : ∀ s ∈ sets, s.length < 1000000 := fun s h => by have := hf1 s h; omega
    have href := rleast_spec ar sets hs (by omega)
    rcases cover_spec ar sets (by omega) hs with ⟨out, h1, h2, h3, _⟩ | ⟨h1, h2⟩
    · rw [if_pos h1] at href
      have e := Width.unique (most_width ar sets h1.2.2) h3
      rw [e] at href
      rcases least_spec ar sets (by omega) hs with ⟨w, _, k2, k3⟩ | ⟨k1, _⟩
      · have e2 := Width.unique k3 h3
        subst e2
        refine Ev.congr (f := fun k => (chain_Cover.f k ar sets).bind fun bt345 => ((antecedentref18_Least.f k ar sets).bind fun t349 => (if t349 < 0 then (if bt345.2 = 1 then (if (bt345.1.length : Int) = 0 then ((chain_Least.f k ar sets).bind fun t350 => (some (t350 == (-1)))) else (none)) else (none)) else (if bt345.2 = 0 then (if (bt345.1.length : Int) = t349 then ((chain_Least.f k ar sets).bind fun t351 => (some (t351 == t349))) else (none)) else (none))))) (fun k => by rw [if_pos rfl]) (Ev.bind h2 (Ev.bind href ?_))
        refine Ev.congr (f := fun k => (chain_Least.f k ar sets).bind fun t351 => some (t351 == (out.length : Int))) (fun k => ?_) (Ev.bind k2 ?_)
        · rw [if_neg (by omega), if_pos rfl, if_pos rfl]
        · rw [show ((out.length : Int) == (out.length : Int)) = true from by simp]
          exact Ev.now _
      · exact absurd h1 k1
    · rw [if_neg h1] at href
      rcases least_spec ar sets (by omega) hs with ⟨w, k1, _⟩ | ⟨_, k2⟩
      · exact absurd k1 h1
      · refine Ev.congr (f := fun k => (chain_Cover.f k ar sets).bind fun bt345 => ((antecedentref18_Least.f k ar sets).bind fun t349 => (if t349 < 0 then (if bt345.2 = 1 then (if (bt345.1.length : Int) = 0 then ((chain_Least.f k ar sets).bind fun t350 => (some (t350 == (-1)))) else (none)) else (none)) else (if bt345.2 = 0 then (if (bt345.1.length : Int) = t349 then ((chain_Least.f k ar sets).bind fun t351 => (some (t351 == t349))) else (none)) else (none))))) (fun k => by rw [if_pos rfl]) (Ev.bind h2 (Ev.bind href ?_))
        refine Ev.congr (f := fun k => (chain_Least.f k ar sets).bind fun t350 => some (t350 == (-1))) (fun k => ?_) (Ev.bind k2 ?_)
        · rw [if_pos (by omega), if_pos rfl]; simp
        · exact Ev.now _
end Go.Proofs.Ytliocmjeglbpiaa.Ps
