/- PLAIN LAWS: orders told by a number, sets as lists in order; no program in sight. -/
import Derived.Test.YtolefpeiceiocaaGreatGval
import Derived.Shelf.SlSortCmp.NoneTotal
namespace Go.Proofs.YtolefpeiceiocaaGreat.Ps
open Go Go.Sort Go.Lib Go.Proofs
set_option linter.unusedVariables false

/-- A total order, told by a number below 0, 0, or above. -/
structure Ord3 {α : Type} (c : α → α → Int) : Prop where
  self : ∀ x, c x x = 0
  eq : ∀ {x y}, c x y = 0 → x = y
  swap : ∀ x y, c y x = -c x y
  trans : ∀ {x y z}, c x y < 0 → c y z < 0 → c x z < 0

theorem cmpS_ord : Ord3 cmpS where
  self x := AnteVal.vcmp_self _
  eq {x y} h := by
    have := AnteVal.vcmp_eq h
    cases x; cases y
    simp only [toV, AnteVal.V.mk.injEq] at this
    obtain ⟨h1, h2, h3⟩ := this
    subst h1; subst h2; subst h3; rfl
  swap x y := AnteVal.vcmp_swap _ _
  trans h1 h2 := AnteVal.vcmp_trans h1 h2

theorem lexS_self : ∀ x, lexS x x = 0
  | [] => rfl
  | a :: x => by rw [lexS, if_pos (cmpS_ord.self a)]; exact lexS_self x
theorem lexS_eq : ∀ {x y}, lexS x y = 0 → x = y
  | [], [], _ => rfl
  | [], _ :: _, h => by simp [lexS] at h
  | _ :: _, [], h => by simp [lexS] at h
  | a :: x, b :: y, h => by
    rw [lexS] at h
    split at h
    · rename_i hc
      rw [cmpS_ord.eq hc, lexS_eq h]
    · contradiction
theorem lexS_swap : ∀ x y, lexS y x = -lexS x y
  | [], [] => rfl
  | [], _ :: _ => rfl
  | _ :: _, [] => rfl
  | a :: x, b :: y => by
    rw [lexS, lexS, lexS_swap x y, cmpS_ord.swap a b]
    by_cases hc : cmpS a b = 0
    · rw [if_pos hc, if_pos (by omega)]
    · rw [if_neg hc, if_neg (by omega)]
theorem lexS_trans : ∀ {x y z}, lexS x y < 0 → lexS y z < 0 → lexS x z < 0
  | _, [], [], _, h => by simp [lexS] at h
  | [], [], _ :: _, h, _ => by simp [lexS] at h
  | _ :: _, [], _ :: _, h, _ => by simp [lexS] at h
  | _, _ :: _, [], _, h => by simp [lexS] at h
  | [], _ :: _, _ :: _, _, _ => by simp [lexS]
  | a :: x, b :: y, d :: z, h1, h2 => by
    rw [lexS] at h1 h2 ⊢
    by_cases c1 : cmpS a b = 0
    · rw [if_pos c1] at h1
      obtain rfl := cmpS_ord.eq c1
      by_cases c2 : cmpS a d = 0
      · rw [if_pos c2] at h2 ⊢
        exact lexS_trans h1 h2
      · rw [if_neg c2] at h2 ⊢
        exact h2
    · rw [if_neg c1] at h1
      by_cases c2 : cmpS b d = 0
      · obtain rfl := cmpS_ord.eq c2
        rw [if_neg c1]; exact h1
      · rw [if_neg c2] at h2
        have h3 := cmpS_ord.trans h1 h2
        rw [if_neg (by omega)]; exact h3
theorem lexS_ord : Ord3 lexS := ⟨lexS_self, lexS_eq, lexS_swap, lexS_trans⟩

section
variable {α : Type} {c : α → α → Int}
theorem Ord3.swo (h : Ord3 c) : SWO (ltOf c) where
  irrefl x := by simp [ltOf, h.self]
  trans x y z h1 h2 := by
    simp only [ltOf, decide_eq_true_eq] at *
    exact h.trans h1 h2
  ntrans x y z h1 h2 := by
    simp only [ltOf, decide_eq_false_iff_not, Int.not_lt] at *
    rcases Int.lt_or_le (c x z) 0 with h3 | h3
    · have s1 := h.swap y z
      rcases Int.lt_or_le (c z y) 0 with h4 | h4
      · have := h.trans h3 h4; omega
      · have h5 : c z y = 0 := by omega
        rw [h.eq h5] at h3; omega
    · exact h3
theorem Ord3.apart (h : Ord3 c) : ∀ x y, ltOf c x y = false → ltOf c y x = false → x = y := by
  intro x y h1 h2
  simp only [ltOf, decide_eq_false_iff_not, Int.not_lt] at *
  have := h.swap x y
  exact h.eq (by omega)

theorem mem_insC (h : Ord3 c) {x z : α} : ∀ {l : List α}, z ∈ insC c x l ↔ z = x ∨ z ∈ l
  | [] => by simp [insC]
  | y :: l => by
    unfold insC
    by_cases h1 : c x y < 0
    · rw [if_pos h1]; simp
    · rw [if_neg h1]
      by_cases h2 : c x y = 0
      · rw [if_pos h2, h.eq h2]; simp
      · rw [if_neg h2]
        simp only [List.mem_cons, mem_insC h (l := l)]
        constructor
        · rintro (h3 | h3 | h3) <;> simp [h3]
        · rintro (h3 | h3 | h3) <;> simp [h3]
theorem insC_sorted (h : Ord3 c) {x : α} : ∀ {l : List α}, l.Pairwise (fun x y => c x y < 0) → (insC c x l).Pairwise (fun x y => c x y < 0)
  | [], _ => by simp [insC]
  | y :: l, hl => by
    have hl' := List.pairwise_cons.1 hl
    unfold insC
    by_cases h1 : c x y < 0
    · rw [if_pos h1]
      refine List.pairwise_cons.2 ⟨fun z hz => ?_, hl⟩
      rcases List.mem_cons.1 hz with rfl | hz
      · exact h1
      · exact h.trans h1 (hl'.1 z hz)
    · rw [if_neg h1]
      by_cases h2 : c x y = 0
      · rw [if_pos h2]; exact hl
      · rw [if_neg h2]
        refine List.pairwise_cons.2 ⟨fun z hz => ?_, insC_sorted h hl'.2⟩
        rcases (mem_insC h).1 hz with rfl | hz
        · have := h.swap z y; omega
        · exact hl'.1 z hz
theorem setC_sorted (h : Ord3 c) : ∀ (l : List α), (setC c l).Pairwise (fun x y => c x y < 0)
  | [] => List.Pairwise.nil
  | x :: l => insC_sorted h (setC_sorted h l)
theorem mem_setC (h : Ord3 c) {z : α} : ∀ {l : List α}, z ∈ setC c l ↔ z ∈ l
  | [] => Iff.rfl
  | x :: l => by
    show z ∈ insC c x (setC c l) ↔ _
    rw [mem_insC h, mem_setC h, List.mem_cons]
theorem insC_length {x : α} : ∀ (l : List α), (insC c x l).length ≤ l.length + 1
  | [] => by simp [insC]
  | y :: l => by
    unfold insC
    split
    · simp
    · split
      · simp
      · simp [insC_length l]
theorem setC_length : ∀ (l : List α), (setC c l).length ≤ l.length
  | [] => Nat.le_refl _
  | x :: l => by
    show (insC c x (setC c l)).length ≤ _
    have := insC_length (c := c) (x := x) (setC c l)
    have := setC_length l
    simp; omega
/-- Two lists in order with the same members are one. -/
theorem sorted_one (h : Ord3 c) : ∀ {l m : List α}, l.Pairwise (fun x y => c x y < 0) → m.Pairwise (fun x y => c x y < 0) → (∀ z, z ∈ l ↔ z ∈ m) → l = m
  | [], [], _, _, _ => rfl
  | [], y :: m, _, _, he => by simp at he; exact absurd rfl (he y).1
  | x :: l, [], _, _, he => by simp at he; exact absurd rfl (he x).1
  | x :: l, y :: m, hl, hm, he => by
    have hl' := List.pairwise_cons.1 hl
    have hm' := List.pairwise_cons.1 hm
    have hxy : x = y := by
      rcases List.mem_cons.1 ((he x).1 (by simp)) with e | e
      · exact e
      · rcases List.mem_cons.1 ((he y).2 (by simp)) with e2 | e2
        · exact e2.symm
        · have h1 := hm'.1 x e
          have h2 := hl'.1 y e2
          have := h.swap x y
          omega
    subst hxy
    congr 1
    refine sorted_one h hl'.2 hm'.2 (fun z => ⟨fun hz => ?_, fun hz => ?_⟩)
    · rcases List.mem_cons.1 ((he z).1 (by simp [hz])) with e | e
      · subst e; have := hl'.1 z hz; rw [h.self] at this; omega
      · exact e
    · rcases List.mem_cons.1 ((he z).2 (by simp [hz])) with e | e
      · subst e; have := hm'.1 z hz; rw [h.self] at this; omega
      · exact e
theorem setC_congr (h : Ord3 c) {l m : List α} (he : ∀ z, z ∈ l ↔ z ∈ m) : setC c l = setC c m :=
  sorted_one h (setC_sorted h l) (setC_sorted h m) (fun z => by rw [mem_setC h, mem_setC h, he])

variable [Inhabited α] [DecidableEq α]
theorem compact_sorted (h : Ord3 c) (d : Array α) (hs : ∀ i j, i < j → j < d.size → ¬ c d[j]! d[i]! < 0) : ∀ m, m ≤ d.size →
    (compactUpTo d m).Pairwise (fun x y => c x y < 0) ∧ ∀ z, z ∈ compactUpTo d m ↔ ∃ j, j < m ∧ d[j]! = z
  | 0, _ => by simp [compactUpTo]
  | m + 1, hm => by
    obtain ⟨ih1, ih2⟩ := compact_sorted h d hs m (by omega)
    rw [compactUpTo_succ]
    by_cases hk : keeps d m = true
    · rw [if_pos hk]
      refine ⟨List.pairwise_append.2 ⟨ih1, List.pairwise_singleton _ _, fun y hy z hz => ?_⟩, fun z => ?_⟩
      · rw [List.mem_singleton] at hz
        subst hz
        obtain ⟨j, hj, rfl⟩ := (ih2 y).1 hy
        have h1 := hs j m hj (by omega)
        have h2 := h.swap d[j]! d[m]!
        rcases Int.lt_or_le (c d[j]! d[m]!) 0 with h3 | h3
        · exact h3
        · exfalso
          have h0 : c d[j]! d[m]! = 0 := by omega
          have e := h.eq h0
          simp only [keeps, decide_eq_true_eq] at hk
          rcases hk with hk | hk
          · omega
          · rcases Nat.lt_or_ge j (m - 1) with hj2 | hj2
            · have g1 := hs j (m - 1) hj2 (by omega)
              have g2 := hs (m - 1) m (by omega) (by omega)
              rw [← e] at g2
              have g3 := h.swap d[j]! d[m - 1]!
              exact hk (by rw [← e]; exact h.eq (by omega))
            · have : j = m - 1 := by omega
              subst this
              exact hk e.symm
      · rw [List.mem_append, ih2, List.mem_singleton]
        constructor
        · rintro (⟨j, hj, e⟩ | e)
          · exact ⟨j, by omega, e⟩
          · exact ⟨m, by omega, e.symm⟩
        · rintro ⟨j, hj, e⟩
          rcases Nat.lt_or_ge j m with g | g
          · exact .inl ⟨j, g, e⟩
          · exact .inr (by rw [← e, show j = m by omega])
    · rw [if_neg hk, List.append_nil]
      refine ⟨ih1, fun z => ?_⟩
      rw [ih2]
      simp only [keeps, decide_eq_true_eq, not_or, Decidable.not_not] at hk
      constructor
      · rintro ⟨j, hj, e⟩; exact ⟨j, by omega, e⟩
      · rintro ⟨j, hj, e⟩
        rcases Nat.lt_or_ge j m with g | g
        · exact ⟨j, g, e⟩
        · exact ⟨m - 1, by omega, by rw [← hk.2, ← e, show j = m by omega]⟩
/-- What is left of a sorted permutation is the set. -/
theorem compact_set (h : Ord3 c) (d d' : Array α) (hp : PermIn 0 d.size d d') (hs : SortedIn (ltOf c) 0 d.size d') : compactUpTo d' d'.size = setC c d.toList := by
  obtain ⟨p1, p2, p3⟩ := hp
  have hperm : d'.toList.Perm d.toList := by
    have e1 : d'.extract 0 d.size = d' := by rw [← p1]; simp
    have e2 : d.extract 0 d.size = d := by simp
    rwa [e1, e2] at p3
  have hc := compact_sorted h d' (fun i j hij hj => by have := hs i j (by omega) hij (by omega); simpa [ltOf] using this) d'.size (Nat.le_refl _)
  refine sorted_one h hc.1 (setC_sorted h _) (fun z => ?_)
  rw [hc.2, mem_setC h, ← hperm.mem_iff, List.mem_iff_getElem]
  constructor
  · rintro ⟨j, hj, e⟩; exact ⟨j, by simpa using hj, by rw [← e, getElem!_pos d' j hj]; simp⟩
  · rintro ⟨j, hj, e⟩; exact ⟨j, by simpa using hj, by rw [← e, getElem!_pos d' j (by simpa using hj)]; simp⟩
end
end Go.Proofs.YtolefpeiceiocaaGreat.Ps
