/- FEW CHAINS: 'placeF' gives a place to one more set, or there is none; in the end as many sets have no place as there are sets at most of which none is part of another one. No condition. -/
import Derived.Test.YtliocmjeglbpiaaPbits
namespace Go.Proofs.Ytliocmjeglbpiaa.Ps
open Go.RowKit Go.Proofs.YtliocmjeglbpiaaW.PrintWords
set_option linter.unusedVariables false
set_option linter.unusedSimpArgs false

/-- What stands at a place of 'ahead'. -/
def nth (a : List Int) (i : Nat) : Int := a.getD i 0
theorem rd_nth (a : List Int) (i : Nat) : rd a (i : Int) = nth a i := by simp [rd, nth]
theorem nth_set_same (a : List Int) (i : Nat) (x : Int) (h : i < a.length) : nth (a.set i x) i = x := by simp [nth, h]
theorem nth_set_other (a : List Int) (i j : Nat) (x : Int) (h : i ≠ j) : nth (a.set i x) j = nth a j := by simp [nth, List.getElem?_set, h]
/-- Has a place been seen? -/
def saw (s : List Bool) (i : Nat) : Prop := s[i]? = some true
theorem saw_set_same (s : List Bool) (i : Nat) (h : i < s.length) : saw (s.set i true) i := by simp [saw, h]
theorem saw_set (s : List Bool) (i j : Nat) (h : i < s.length) : saw (s.set i true) j ↔ i = j ∨ saw s j := by
  unfold saw
  by_cases e : i = j
  · subst e; simp [h]
  · simp [List.getElem?_set, e]
theorem count_set (s : List Bool) (i : Nat) (h : i < s.length) (hs : ¬ saw s i) : (s.set i true).count false + 1 = s.count false := by
  induction s generalizing i with
  | nil => exact absurd h (Nat.not_lt_zero _)
  | cons b s ih =>
    cases i with
    | zero =>
      have : b = false := by cases b <;> simp_all [saw]
      subst this
      simp
    | succ i =>
      have := ih i (by simpa using h) (by simpa [saw] using hs)
      simp only [List.set_cons_succ, List.count_cons]
      omega

variable (l : List Int)
/-- May set i stand right ahead of set k? -/
def Ed (i k : Nat) : Prop := k ≠ i ∧ ¬ apart l i k = true
/-- A part of the places that leads nowhere else, and has no room. -/
structure Shut (a : List Int) (S : Nat → Prop) : Prop where
  lt : ∀ j, S j → j < l.length
  full : ∀ j, S j → nth a j ≠ -1
  stay : ∀ j, S j → ∀ k, k < l.length → Ed l (nth a j).toNat k → S k

structure Ok (a : List Int) : Prop where
  len : a.length = l.length
  val : ∀ i, i < l.length → nth a i = -1 ∨ (0 ≤ nth a i ∧ nth a i < (l.length : Int))
/-- What has not been seen holds none twice, and not this one. -/
structure Free (at_ : Nat) (s : List Bool) (a : List Int) : Prop where
  inj : ∀ i j, i < l.length → j < l.length → ¬ saw s i → ¬ saw s j → nth a i = nth a j → nth a i ≠ -1 → i = j
  not : ∀ i, i < l.length → ¬ saw s i → nth a i ≠ (at_ : Int)
  edge : ∀ i, i < l.length → ¬ saw s i → nth a i ≠ -1 → Ed l (nth a i).toNat i

/-- No place: what has been seen is shut. -/
structure No (at_ k : Nat) (s : List Bool) (a : List Int) (s' : List Bool) (a' : List Int) : Prop where
  same : a' = a
  len : s'.length = l.length
  more : ∀ i, saw s i → saw s' i
  cnt : s'.count false ≤ s.count false
  full : ∀ j, j < l.length → saw s' j → ¬ saw s j → nth a j ≠ -1
  stay : ∀ j, j < l.length → saw s' j → ¬ saw s j → ∀ i, i < l.length → Ed l (nth a j).toNat i → saw s' i
  all : ∀ i, k ≤ i → i < l.length → Ed l at_ i → saw s' i
/-- A place: one more holds one. -/
structure Yes (at_ : Nat) (s : List Bool) (a : List Int) (s' : List Bool) (a' : List Int) : Prop where
  ok : Ok l a'
  len : s'.length = l.length
  old : ∀ i, i < l.length → saw s i → nth a' i = nth a i
  inj : ∀ i j, i < l.length → j < l.length → ¬ saw s i → ¬ saw s j → nth a' i = nth a' j → nth a' i ≠ -1 → i = j
  val : ∀ x : Int, x ≠ -1 → ((∃ i, i < l.length ∧ ¬ saw s i ∧ nth a' i = x) ↔ x = (at_ : Int) ∨ ∃ i, i < l.length ∧ ¬ saw s i ∧ nth a i = x)
  edge : ∀ i, i < l.length → ¬ saw s i → nth a' i ≠ -1 → Ed l (nth a' i).toNat i
  shut : ∀ S, Shut l a S → (∃ i, i < l.length ∧ Ed l at_ i ∧ ¬ S i) ∧ ∀ j, S j → nth a' j = nth a j

section
variable {at_ k : Nat} {s : List Bool} {a : List Int}
theorem yes_here (hat : at_ < l.length) (hs : s.length = l.length) (hok : Ok l a) (hfr : Free l at_ s a) (hlt : k < l.length) (he : Ed l at_ k) (hun : ¬ saw s k) (h1 : nth a k = -1) : Yes l at_ s a (s.set k true) (a.set k (at_ : Int)) := by
  have hka : k < a.length := by rw [hok.len]; exact hlt
  have hsame := nth_set_same a k (at_ : Int) hka
  have hoth := fun j (hj : k ≠ j) => nth_set_other a k j (at_ : Int) hj
  refine ⟨⟨by rw [List.length_set]; exact hok.len, fun i hi => ?_⟩, by rw [List.length_set]; exact hs, fun i hi hsi => ?_, fun i j hi hj ni nj e ne => ?_, fun x hx => ⟨?_, ?_⟩, fun i hi ni ne => ?_, fun S hS => ⟨⟨k, hlt, he, fun hk => hS.full k hk h1⟩, fun j hj => ?_⟩⟩
  · by_cases e : k = i
    · subst e; rw [hsame]; exact .inr ⟨by omega, by omega⟩
    · rw [hoth i e]; exact hok.val i hi
  · exact hoth i (fun e => hun (e ▸ hsi))
  · by_cases ei : k = i
    · by_cases ej : k = j
      · omega
      · subst ei; rw [hsame, hoth j ej] at e; exact absurd e.symm (hfr.not j hj nj)
    · rw [hoth i ei] at e ne
      by_cases ej : k = j
      · subst ej; rw [hsame] at e; exact absurd e (hfr.not i hi ni)
      · rw [hoth j ej] at e; exact hfr.inj i j hi hj ni nj e ne
  · rintro ⟨i, hi, ni, e⟩
    by_cases ei : k = i
    · subst ei; rw [hsame] at e; exact .inl e.symm
    · rw [hoth i ei] at e; exact .inr ⟨i, hi, ni, e⟩
  · rintro (e | ⟨i, hi, ni, e⟩)
    · exact ⟨k, hlt, hun, by rw [hsame, e]⟩
    · refine ⟨i, hi, ni, ?_⟩
      rw [hoth i (fun ek => hx (by rw [← e, ← ek]; exact h1))]
      exact e
  · by_cases ei : k = i
    · subst ei; rw [hsame, Int.toNat_natCast]; exact he
    · rw [hoth i ei] at ne ⊢; exact hfr.edge i hi ni ne
  · exact hoth j (fun e => hS.full j hj (e ▸ h1))

theorem free_next (hs : s.length = l.length) (hfr : Free l at_ s a) (hlt : k < l.length) (hun : ¬ saw s k) (h1 : nth a k ≠ -1) (hv : 0 ≤ nth a k) : Free l (nth a k).toNat (s.set k true) a := by
  have hsub : ∀ i, ¬ saw (s.set k true) i → k ≠ i ∧ ¬ saw s i := fun i h => by rw [saw_set s k i (by omega)] at h; exact ⟨fun e => h (.inl e), fun e => h (.inr e)⟩
  refine ⟨fun i j hi hj ni nj => hfr.inj i j hi hj (hsub i ni).2 (hsub j nj).2, fun i hi ni e => ?_, fun i hi ni => hfr.edge i hi (hsub i ni).2⟩
  rw [Int.toNat_of_nonneg hv] at e
  exact (hsub i ni).1 (hfr.inj k i hlt hi hun (hsub i ni).2 e.symm h1)

theorem yes_there {s2 : List Bool} {a2 : List Int} (hat : at_ < l.length) (hs : s.length = l.length) (hok : Ok l a) (hfr : Free l at_ s a) (hlt : k < l.length) (he : Ed l at_ k) (hun : ¬ saw s k) (h1 : nth a k ≠ -1) (hv : 0 ≤ nth a k)
    (h : Yes l (nth a k).toNat (s.set k true) a s2 a2) : Yes l at_ s a s2 (a2.set k (at_ : Int)) := by
  have hka : k < a2.length := by rw [h.ok.len]; exact hlt
  have hsame := nth_set_same a2 k (at_ : Int) hka
  have hoth := fun j (hj : k ≠ j) => nth_set_other a2 k j (at_ : Int) hj
  have hS1 : ∀ i, saw (s.set k true) i ↔ k = i ∨ saw s i := fun i => saw_set s k i (by omega)
  have hn1 : ∀ i, k ≠ i → ¬ saw s i → ¬ saw (s.set k true) i := fun i e n x => ((hS1 i).1 x).elim e n
  have hto : ((nth a k).toNat : Int) = nth a k := Int.toNat_of_nonneg hv
  have hnoat : ∀ j, j < l.length → k ≠ j → ¬ saw s j → nth a2 j ≠ (at_ : Int) := fun j hj ej nj e => by
    rcases (h.val (at_ : Int) (by omega)).1 ⟨j, hj, hn1 j ej nj, e⟩ with e2 | ⟨i, hi, ni, e2⟩
    · rw [hto] at e2; exact hfr.not k hlt hun e2.symm
    · exact hfr.not i hi (fun x => ni ((hS1 i).2 (.inr x))) e2
  refine ⟨⟨by rw [List.length_set]; exact h.ok.len, fun i hi => ?_⟩, h.len, fun i hi hsi => ?_, fun i j hi hj ni nj e ne => ?_, fun x hx => ⟨?_, ?_⟩, fun i hi ni ne => ?_, fun S hS => ?_⟩
  · by_cases e : k = i
    · subst e; rw [hsame]; exact .inr ⟨by omega, by omega⟩
    · rw [hoth i e]; exact h.ok.val i hi
  · rw [hoth i (fun e => hun (e ▸ hsi))]; exact h.old i hi ((hS1 i).2 (.inr hsi))
  · by_cases ei : k = i
    · by_cases ej : k = j
      · omega
      · subst ei; rw [hsame, hoth j ej] at e; exact absurd e.symm (hnoat j hj ej nj)
    · rw [hoth i ei] at e ne
      by_cases ej : k = j
      · subst ej; rw [hsame] at e; exact absurd e (hnoat i hi ei ni)
      · rw [hoth j ej] at e; exact h.inj i j hi hj (hn1 i ei ni) (hn1 j ej nj) e ne
  · rintro ⟨i, hi, ni, e⟩
    by_cases ei : k = i
    · subst ei; rw [hsame] at e; exact .inl e.symm
    · rw [hoth i ei] at e
      rcases (h.val x hx).1 ⟨i, hi, hn1 i ei ni, e⟩ with e2 | ⟨j, hj, nj, e2⟩
      · exact .inr ⟨k, hlt, hun, by rw [e2, hto]⟩
      · exact .inr ⟨j, hj, fun y => nj ((hS1 j).2 (.inr y)), e2⟩
  · intro hy
    rcases hy with e | ⟨i, hi, ni, e⟩
    · exact ⟨k, hlt, hun, by rw [hsame, e]⟩
    · have : ∃ j, j < l.length ∧ ¬ saw (s.set k true) j ∧ nth a2 j = x := by
        by_cases ei : k = i
        · subst ei; exact (h.val x hx).2 (.inl (by rw [hto, e]))
        · exact (h.val x hx).2 (.inr ⟨i, hi, hn1 i ei ni, e⟩)
      obtain ⟨j, hj, nj, e2⟩ := this
      have ej : k ≠ j := fun y => nj ((hS1 j).2 (.inl y))
      exact ⟨j, hj, fun y => nj ((hS1 j).2 (.inr y)), by rw [hoth j ej]; exact e2⟩
  · by_cases ei : k = i
    · subst ei; rw [hsame, Int.toNat_natCast]; exact he
    · rw [hoth i ei] at ne ⊢; exact h.edge i hi (hn1 i ei ni) ne
  · obtain ⟨⟨i, hi, hei, hni⟩, hkeep⟩ := h.shut S hS
    have hk : ¬ S k := fun hk => hni (hS.stay k hk i hi hei)
    exact ⟨⟨k, hlt, he, hk⟩, fun j hj => by rw [hoth j (fun e => hk (e ▸ hj))]; exact hkeep j hj⟩

theorem no_later {s2 s' : List Bool} {a' : List Int} (hs : s.length = l.length) (hlt : k < l.length) (hun : ¬ saw s k) (h1 : nth a k ≠ -1) (h : No l (nth a k).toNat 0 (s.set k true) a s2 a) (h' : No l at_ (k + 1) s2 a s' a') (hcnt : (s.set k true).count false + 1 = s.count false) : No l at_ k s a s' a' := by
  have hS1 : ∀ i, saw (s.set k true) i ↔ k = i ∨ saw s i := fun i => saw_set s k i (by omega)
  refine ⟨h'.same, h'.len, fun i hi => h'.more _ (h.more _ ((hS1 i).2 (.inr hi))), by have := h.cnt; have := h'.cnt; omega, fun j hj hsj nj => ?_, fun j hj hsj nj i hi he => ?_, fun i hi hil he => ?_⟩
  · by_cases e2 : saw s2 j
    · by_cases ej : k = j
      · subst ej; exact h1
      · exact h.full j hj e2 (fun x => ((hS1 j).1 x).elim ej nj)
    · exact h'.full j hj hsj e2
  · by_cases e2 : saw s2 j
    · by_cases ej : k = j
      · subst ej; exact h'.more _ (h.all i (Nat.zero_le _) hi he)
      · exact h'.more _ (h.stay j hj e2 (fun x => ((hS1 j).1 x).elim ej nj) i hi he)
    · exact h'.stay j hj hsj e2 i hi he
  · rcases Nat.eq_or_lt_of_le hi with rfl | hi2
    · exact h'.more _ (h.more _ ((hS1 k).2 (.inl rfl)))
    · exact h'.all i hi2 hil he

theorem yes_later {s2 s' : List Bool} {a' : List Int} (hfr : Free l at_ s a) (hmore : ∀ i, saw s i → saw s2 i) (h : Yes l at_ s2 a s' a') : Yes l at_ s a s' a' := by
  have hmix : ∀ i j, i < l.length → j < l.length → ¬ saw s i → saw s2 i → ¬ saw s2 j → nth a' i = nth a' j → nth a' i ≠ -1 → False := fun i j hi hj ni si nj e ne => by
    have e1 := h.old i hi si
    rcases (h.val (nth a' i) ne).1 ⟨j, hj, nj, e.symm⟩ with e2 | ⟨m, hm, nm, e2⟩
    · rw [e1] at e2; exact hfr.not i hi ni e2
    · rw [e1] at e2 ne
      have := hfr.inj m i hm hi (fun x => nm (hmore _ x)) ni e2 (by rw [e2]; exact ne)
      subst this
      exact nm si
  refine ⟨h.ok, h.len, fun i hi hsi => h.old i hi (hmore i hsi), fun i j hi hj ni nj e ne => ?_, fun x hx => ⟨?_, ?_⟩, fun i hi ni ne => ?_, h.shut⟩
  · by_cases si : saw s2 i
    · by_cases sj : saw s2 j
      · rw [h.old i hi si] at e ne; rw [h.old j hj sj] at e; exact hfr.inj i j hi hj ni nj e ne
      · exact (hmix i j hi hj ni si sj e ne).elim
    · by_cases sj : saw s2 j
      · exact (hmix j i hj hi nj sj si e.symm (by rw [← e]; exact ne)).elim
      · exact h.inj i j hi hj si sj e ne
  · rintro ⟨i, hi, ni, e⟩
    by_cases si : saw s2 i
    · exact .inr ⟨i, hi, ni, by rw [← h.old i hi si]; exact e⟩
    · exact ((h.val x hx).1 ⟨i, hi, si, e⟩).imp id fun ⟨m, hm, nm, e2⟩ => ⟨m, hm, fun y => nm (hmore _ y), e2⟩
  · rintro (e | ⟨i, hi, ni, e⟩)
    · obtain ⟨m, hm, nm, e2⟩ := (h.val x hx).2 (.inl e)
      exact ⟨m, hm, fun y => nm (hmore _ y), e2⟩
    · by_cases si : saw s2 i
      · exact ⟨i, hi, ni, by rw [h.old i hi si]; exact e⟩
      · obtain ⟨m, hm, nm, e2⟩ := (h.val x hx).2 (.inr ⟨i, hi, si, e⟩)
        exact ⟨m, hm, fun y => nm (hmore _ y), e2⟩
  · by_cases si : saw s2 i
    · rw [h.old i hi si] at ne ⊢; exact hfr.edge i hi ni ne
    · exact h.edge i hi si ne
end

theorem place_spec : ∀ (n at_ : Nat) (s : List Bool) (a : List Int) (k : Nat), at_ < l.length → s.length = l.length → Ok l a → Free l at_ s a → k ≤ l.length →
    s.count false * (l.length + 1) + (l.length - k) + 1 ≤ n →
    ∃ b s' a', placeF l n at_ s a k = some (b, s', a') ∧ (b = false → No l at_ k s a s' a') ∧ (b = true → Yes l at_ s a s' a') := by
  intro n
  induction n using Nat.strongRecOn with
  | _ n ih =>
  intro at_ s a k hat hs hok hfr hk hn
  obtain ⟨n, rfl⟩ : ∃ m, n = m + 1 := ⟨n - 1, by omega⟩
  unfold placeF
  by_cases hlt : k < l.length
  · rw [if_pos hlt]
    by_cases hc : k = at_ ∨ s[k]? = some true ∨ apart l at_ k = true
    · rw [if_pos hc]
      obtain ⟨b, s', a', h1, h2, h3⟩ := ih n (by omega) at_ s a (k + 1) hat hs hok hfr (by omega) (by omega)
      refine ⟨b, s', a', h1, fun hb => ?_, h3⟩
      have h := h2 hb
      refine { h with all := fun i hi hil he => ?_ }
      rcases Nat.eq_or_lt_of_le hi with rfl | hi2
      · rcases hc with hc | hc | hc
        · exact absurd hc he.1
        · exact h.more _ hc
        · exact absurd hc he.2
      · exact h.all i hi2 hil he
    · rw [if_neg hc]
      have he : Ed l at_ k := ⟨fun e => hc (.inl e), fun e => hc (.inr (.inr e))⟩
      have hun : ¬ saw s k := fun e => hc (.inr (.inl e))
      have hcnt := count_set s k (by omega) hun
      rw [rd_nth]
      by_cases h1 : nth a k = -1
      · rw [if_pos h1]
        exact ⟨true, _, _, rfl, fun e => absurd e (by simp), fun _ => yes_here l hat hs hok hfr hlt he hun h1⟩
      · rw [if_neg h1]
        have hv := (hok.val k hlt).resolve_left h1
        rw [if_pos hv]
        obtain ⟨b, s2, a2, e1, hno, hyes⟩ := ih n (by omega) (nth a k).toNat (s.set k true) a 0 (by omega) (by rw [List.length_set]; exact hs) hok (free_next l hs hfr hlt hun h1 hv.1) (Nat.zero_le _) (by rw [← hcnt, Nat.add_mul] at hn; omega)
        rw [e1]
        cases b with
        | true => exact ⟨true, _, _, rfl, fun e => absurd e (by simp), fun _ => yes_there l hat hs hok hfr hlt he hun h1 hv.1 (hyes rfl)⟩
        | false =>
          have h := hno rfl
          obtain rfl := h.same
          have hc2 : s2.count false * (l.length + 1) ≤ (s.set k true).count false * (l.length + 1) := Nat.mul_le_mul_right _ h.cnt
          have hmore : ∀ i, saw s i → saw s2 i := fun i hi => h.more _ ((saw_set s k i (by omega)).2 (.inr hi))
          obtain ⟨b, s', a', h1', h2, h3⟩ := ih n (by omega) at_ s2 a2 (k + 1) hat h.len hok ⟨fun i j hi hj ni nj => hfr.inj i j hi hj (fun x => ni (hmore _ x)) (fun x => nj (hmore _ x)), fun i hi ni => hfr.not i hi (fun x => ni (hmore _ x)), fun i hi ni => hfr.edge i hi (fun x => ni (hmore _ x))⟩ (by omega) (by rw [← hcnt, Nat.add_mul] at hn; omega)
          refine ⟨b, s', a', h1', fun hb => no_later l hs hlt hun h1 h (h2 hb) hcnt, fun hb => yes_later l hfr hmore (h3 hb)⟩
  · rw [if_neg hlt]
    exact ⟨false, s, a, rfl, fun _ => ⟨rfl, hs, fun _ h => h, Nat.le_refl _, fun j _ h1 h2 => absurd h1 h2, fun j _ h1 h2 => absurd h1 h2, fun i hi hil _ => by omega⟩, fun e => absurd e (by simp)⟩
end Go.Proofs.Ytliocmjeglbpiaa.Ps
