/- AS MANY SETS HAVE NO PLACE AS THERE ARE SETS AT MOST OF WHICH NONE IS PART OF ANOTHER ONE. No condition. -/
import Derived.Test.YtliocmjeglbpiaaPking
namespace Go.Proofs.Ytliocmjeglbpiaa.Ps
open Go.RowKit Go.Proofs.YtliocmjeglbpiaaW.PrintWords
set_option linter.unusedVariables false
set_option linter.unusedSimpArgs false

theorem nodup_le {α : Type} [BEq α] [LawfulBEq α] : ∀ (a b : List α), a.Nodup → (∀ x ∈ a, x ∈ b) → a.length ≤ b.length
  | [], b, _, _ => Nat.zero_le _
  | x :: a, b, hn, hs => by
    have hx : x ∈ b := hs x (by simp)
    have h1 := nodup_le a (b.erase x) (List.nodup_cons.1 hn).2 (fun y hy => (List.mem_erase_of_ne (fun (e : y = x) => (List.nodup_cons.1 hn).1 (by rw [← e]; exact hy))).2 (hs y (by simp [hy])))
    rw [List.length_erase_of_mem hx] at h1
    have := List.length_pos_of_mem hx
    simp only [List.length_cons]
    omega

theorem nodup_map_on {α β : Type} (f : α → β) : ∀ (a : List α), a.Nodup → (∀ x ∈ a, ∀ y ∈ a, f x = f y → x = y) → (a.map f).Nodup
  | [], _, _ => by simp
  | x :: a, hn, hi => by
    rw [List.map_cons, List.nodup_cons]
    refine ⟨fun h => ?_, nodup_map_on f a (List.nodup_cons.1 hn).2 (fun y hy z hz => hi y (by simp [hy]) z (by simp [hz]))⟩
    obtain ⟨y, hy, e⟩ := List.mem_map.1 h
    have := hi y (by simp [hy]) x (by simp) e
    exact (List.nodup_cons.1 hn).1 (this ▸ hy)

variable (l : List Int)
/-- Places 0 to t have been given, as far as may be. -/
structure Stage (t : Nat) (a : List Int) : Prop where
  ok : Ok l a
  inj : ∀ i j, i < l.length → j < l.length → nth a i = nth a j → nth a i ≠ -1 → i = j
  lt : ∀ i, i < l.length → nth a i < (t : Int)
  edge : ∀ i, i < l.length → nth a i ≠ -1 → Ed l (nth a i).toNat i
  shut : ∃ S, Shut l a S ∧ ∀ x, x < t → (∀ i, i < l.length → nth a i ≠ (x : Int)) → ∀ k, k < l.length → Ed l x k → S k

theorem none_saw (n i : Nat) : ¬ saw (List.replicate n false) i := by
  unfold saw
  rw [List.getElem?_replicate]
  split <;> simp

theorem stage_step {t : Nat} {a : List Int} (h : Stage l t a) (ht : t < l.length) :
    ∃ b s' a', placeF l ((l.length + 2) * (l.length + 2)) t (List.replicate l.length false) a 0 = some (b, s', a') ∧ Stage l (t + 1) a' := by
  have hfuel : (List.replicate l.length false).count false * (l.length + 1) + (l.length - 0) + 1 ≤ (l.length + 2) * (l.length + 2) := by
    rw [List.count_replicate_self, Nat.add_mul, Nat.mul_add l.length l.length 2, Nat.mul_add l.length l.length 1]
    omega
  have hfr : Free l t (List.replicate l.length false) a := ⟨fun i j hi hj _ _ => h.inj i j hi hj, fun i hi _ e => by have := h.lt i hi; omega, fun i hi _ => h.edge i hi⟩
  obtain ⟨b, s', a', e, hno, hyes⟩ := place_spec l _ t _ a 0 ht (by simp) h.ok hfr (Nat.zero_le _) hfuel
  refine ⟨b, s', a', e, ?_⟩
  have hns := none_saw l.length
  obtain ⟨S, hS, hSx⟩ := h.shut
  cases b with
  | true =>
    have y := hyes rfl
    refine ⟨y.ok, fun i j hi hj => y.inj i j hi hj (hns i) (hns j), fun i hi => ?_, fun i hi => y.edge i hi (hns i), S, ?_, ?_⟩
    · rcases y.ok.val i hi with e1 | ⟨e1, _⟩
      · omega
      · rcases (y.val (nth a' i) (by omega)).1 ⟨i, hi, hns i, rfl⟩ with e2 | ⟨j, hj, _, e2⟩
        · omega
        · have := h.lt j hj; omega
    · have hk := (y.shut S hS).2
      exact ⟨hS.lt, fun j hj => by rw [hk j hj]; exact hS.full j hj, fun j hj => by rw [hk j hj]; exact hS.stay j hj⟩
    · intro x hx hf k hk he
      by_cases ex : x = t
      · subst ex
        obtain ⟨i, hi, _, e2⟩ := (y.val (x : Int) (by omega)).2 (.inl rfl)
        exact absurd e2 (hf i hi)
      · refine hSx x (by omega) (fun i hi e2 => ?_) k hk he
        obtain ⟨j, hj, _, e3⟩ := (y.val (x : Int) (by omega)).2 (.inr ⟨i, hi, hns i, e2⟩)
        exact hf j hj e3
  | false =>
    have n := hno rfl
    obtain rfl := n.same
    refine ⟨h.ok, h.inj, fun i hi => by have := h.lt i hi; omega, h.edge, (fun i => S i ∨ (i < l.length ∧ saw s' i)), ⟨?_, ?_, ?_⟩, ?_⟩
    · rintro j (hj | ⟨hj, _⟩)
      · exact hS.lt j hj
      · exact hj
    · rintro j (hj | ⟨hj, hsj⟩)
      · exact hS.full j hj
      · exact n.full j hj hsj (hns j)
    · rintro j (hj | ⟨hj, hsj⟩) k hk he
      · exact .inl (hS.stay j hj k hk he)
      · exact .inr ⟨hk, n.stay j hj hsj (hns j) k hk he⟩
    · intro x hx hf k hk he
      by_cases ex : x = t
      · subst ex; exact .inr ⟨hk, n.all k (Nat.zero_le _) hk he⟩
      · exact .inl (hSx x (by omega) hf k hk he)

theorem matchF_stage : ∀ (n t : Nat) (a : List Int), l.length - t = n → t ≤ l.length → Stage l t a → ∃ r, matchF l n t a = some r ∧ Stage l l.length r := by
  intro n
  induction n with
  | zero =>
    intro t a hn ht h
    obtain rfl : t = l.length := by omega
    exact ⟨a, rfl, h⟩
  | succ n ih =>
    intro t a hn ht h
    obtain ⟨b, s', a', e, h2⟩ := stage_step l h (by omega)
    obtain ⟨r, hr, hs⟩ := ih (t + 1) a' (by omega) (by omega) h2
    refine ⟨r, ?_, hs⟩
    unfold matchF
    rw [e]
    exact hr

theorem nth_replicate (n i : Nat) (h : i < n) : nth (List.replicate n (-1)) i = -1 := by simp [nth, h]
theorem match_spec (h : l.length < 1000000) : ∃ r, chain_match.f l = some r ∧ Stage l l.length r := by
  unfold chain_match.f
  rw [if_pos h]
  refine matchF_stage l l.length 0 _ rfl (Nat.zero_le _) ⟨⟨by simp, fun i hi => .inl (nth_replicate _ _ hi)⟩, fun i j hi hj _ ne => absurd (nth_replicate _ _ hi) ne, fun i hi => by rw [nth_replicate _ _ hi]; decide, fun i hi ne => absurd (nth_replicate _ _ hi) ne, fun _ => False, ⟨fun _ h => h.elim, fun _ h => h.elim, fun _ h => h.elim⟩, fun x hx => absurd hx (Nat.not_lt_zero _)⟩

/-- The sets that have no place. -/
def lone (r : List Int) : List Nat := (List.range l.length).filter fun x => !r.contains (x : Int)
theorem mem_lone {r : List Int} (hr : r.length = l.length) {x : Nat} : x ∈ lone l r ↔ x < l.length ∧ ∀ i, i < l.length → nth r i ≠ (x : Int) := by
  unfold lone
  rw [List.mem_filter, List.mem_range]
  refine and_congr_right fun hx => ?_
  rw [Bool.not_eq_true', ← Bool.not_eq_true, List.contains_iff_mem]
  constructor
  · intro h i hi e
    exact h (by rw [← e]; simp [nth, hr, hi])
  · intro h hm
    obtain ⟨i, hi, e⟩ := List.mem_iff_getElem.1 hm
    exact h i (by omega) (by simp [nth, hi, e])

/-- Places of which none stands ahead of another one. -/
structure Anti (B : List Nat) : Prop where
  nodup : B.Nodup
  lt : ∀ i ∈ B, i < l.length
  apart : ∀ i ∈ B, ∀ j ∈ B, ¬ Ed l i j

open Classical in
theorem anti_some {r : List Int} (h : Stage l l.length r) : ∃ B, Anti l B ∧ (lone l r).length ≤ B.length := by
  obtain ⟨S, hS, hSx⟩ := h.shut
  let R := List.range l.length
  let Q : Nat → Prop := fun x => x ∈ lone l r ∨ ∃ j, S j ∧ nth r j = (x : Int)
  refine ⟨R.filter fun x => decide (Q x ∧ ¬ S x), ⟨List.Pairwise.filter _ List.nodup_range, fun i hi => List.mem_range.1 (List.mem_filter.1 hi).1, fun i hi j hj he => ?_⟩, ?_⟩
  · have h1 := List.mem_filter.1 hi
    have h2 := List.mem_filter.1 hj
    have h3 : Q i ∧ ¬ S i := by simpa using h1.2
    have h4 : Q j ∧ ¬ S j := by simpa using h2.2
    have hjl := List.mem_range.1 h2.1
    rcases h3.1 with hl | ⟨m, hm, e⟩
    · rw [mem_lone l h.ok.len] at hl
      exact h4.2 (hSx i hl.1 hl.2 j hjl he)
    · refine h4.2 (hS.stay m hm j hjl ?_)
      rw [e, Int.toNat_natCast]; exact he
  · -- lone ++ (what stands ahead of S) lies in the antichain ++ S
    have hmem : ∀ x ∈ lone l r ++ ((R.filter fun x => decide (S x)).map fun j => (nth r j).toNat), x ∈ (R.filter fun x => decide (Q x ∧ ¬ S x)) ++ R.filter fun x => decide (S x) := by
      intro x hx
      have hq : x < l.length ∧ Q x := by
        rcases List.mem_append.1 hx with hx | hx
        · exact ⟨((mem_lone l h.ok.len).1 hx).1, .inl hx⟩
        · obtain ⟨j, hj, e⟩ := List.mem_map.1 hx
          have hSj : S j := by simpa using (List.mem_filter.1 hj).2
          have hv := (h.ok.val j (hS.lt j hSj)).resolve_left (hS.full j hSj)
          exact ⟨by omega, .inr ⟨j, hSj, by rw [← e, Int.toNat_of_nonneg hv.1]⟩⟩
      by_cases hs : S x
      · exact List.mem_append.2 (.inr (List.mem_filter.2 ⟨List.mem_range.2 hq.1, by simpa using hs⟩))
      · exact List.mem_append.2 (.inl (List.mem_filter.2 ⟨List.mem_range.2 hq.1, by simpa using ⟨hq.2, hs⟩⟩))
    have hnd : (lone l r ++ ((R.filter fun x => decide (S x)).map fun j => (nth r j).toNat)).Nodup := by
      refine List.nodup_append.2 ⟨List.Pairwise.filter _ List.nodup_range, nodup_map_on _ _ (List.Pairwise.filter _ List.nodup_range) (fun i hi j hj e => ?_), fun x hx y hy e => ?_⟩
      · have hi' : S i := by simpa using (List.mem_filter.1 hi).2
        have hj' : S j := by simpa using (List.mem_filter.1 hj).2
        have v1 := (h.ok.val i (hS.lt i hi')).resolve_left (hS.full i hi')
        have v2 := (h.ok.val j (hS.lt j hj')).resolve_left (hS.full j hj')
        exact h.inj i j (hS.lt i hi') (hS.lt j hj') (by omega) (hS.full i hi')
      · subst e
        obtain ⟨j, hj, e2⟩ := List.mem_map.1 hy
        have hSj : S j := by simpa using (List.mem_filter.1 hj).2
        have v := (h.ok.val j (hS.lt j hSj)).resolve_left (hS.full j hSj)
        exact ((mem_lone l h.ok.len).1 hx).2 j (hS.lt j hSj) (by omega)
    have := nodup_le _ _ hnd hmem
    simp only [List.length_append, List.length_map] at this
    omega

/-- What follows down a chain. -/
inductive Down (r : List Int) : Nat → Nat → Prop where
  | here (x : Nat) : Down r x x
  | step {x y : Nat} (h : nth r x ≠ -1) (k : Down r (nth r x).toNat y) : Down r x y
theorem Down.both {r : List Int} {e x y : Nat} (h : Down r e x) (k : Down r e y) : Down r x y ∨ Down r y x := by
  induction h with
  | here => exact .inl k
  | step h h2 ih =>
    cases k with
    | here => exact .inr (.step h h2)
    | step _ k2 => exact ih k2

theorem down_ed {r : List Int} (h : Stage l l.length r) (hT : ∀ i j k, i < l.length → j < l.length → k < l.length → Ed l i j → Ed l j k → Ed l i k) {x y : Nat} (hx : x < l.length) (k : Down r x y) : y < l.length ∧ (y = x ∨ Ed l y x) := by
  induction k with
  | here => exact ⟨hx, .inl rfl⟩
  | @step x y hne _ ih =>
    have hv := (h.ok.val x hx).resolve_left hne
    have he := h.edge x hx hne
    obtain ⟨h1, h2⟩ := ih (by omega)
    refine ⟨h1, .inr ?_⟩
    rcases h2 with rfl | h2
    · exact he
    · exact hT y _ x h1 (by omega) hx h2 he

theorem top_some {r : List Int} (h : Stage l l.length r) (μ : Nat → Nat) (M : Nat) (hM : ∀ i, i < l.length → μ i ≤ M) (hμ : ∀ i j, i < l.length → j < l.length → Ed l i j → μ i < μ j) :
    ∀ (n x : Nat), x < l.length → M - μ x ≤ n → ∃ e, e ∈ lone l r ∧ Down r e x := by
  intro n
  induction n with
  | zero =>
    intro x hx hn
    refine ⟨x, (mem_lone l h.ok.len).2 ⟨hx, fun i hi e => ?_⟩, .here x⟩
    have := hμ x i hx hi (by have := h.edge i hi (by omega); rwa [e, Int.toNat_natCast] at this)
    have := hM i hi
    omega
  | succ n ih =>
    intro x hx hn
    by_cases hf : ∀ i, i < l.length → nth r i ≠ (x : Int)
    · exact ⟨x, (mem_lone l h.ok.len).2 ⟨hx, hf⟩, .here x⟩
    · simp only [Classical.not_forall, Classical.not_not] at hf
      obtain ⟨i, hi, e⟩ := hf
      have he := h.edge i hi (by omega)
      rw [e, Int.toNat_natCast] at he
      have h1 := hμ x i hx hi he
      have h2 := hM i hi
      obtain ⟨t, ht, hd⟩ := ih i hi (by omega)
      refine ⟨t, ht, ?_⟩
      have hstep : Down r i x := .step (by omega) (by rw [e, Int.toNat_natCast]; exact .here x)
      clear he h1 h2 ht
      induction hd with
      | here => exact hstep
      | step h3 _ ih2 => exact .step h3 (ih2 hi e hstep)

theorem anti_le {r : List Int} (h : Stage l l.length r) (hT : ∀ i j k, i < l.length → j < l.length → k < l.length → Ed l i j → Ed l j k → Ed l i k) (μ : Nat → Nat) (M : Nat) (hM : ∀ i, i < l.length → μ i ≤ M) (hμ : ∀ i j, i < l.length → j < l.length → Ed l i j → μ i < μ j)
    {B : List Nat} (hB : Anti l B) : B.length ≤ (lone l r).length := by
  have htop : ∀ x, ∃ e, x < l.length → e ∈ lone l r ∧ Down r e x := fun x => by
    by_cases hx : x < l.length
    · obtain ⟨e, he⟩ := top_some l h μ M hM hμ _ x hx (Nat.le_refl _)
      exact ⟨e, fun _ => he⟩
    · exact ⟨0, fun h => absurd h hx⟩
  obtain ⟨f, hf⟩ := Classical.axiomOfChoice htop
  have h1 := nodup_map_on f B hB.nodup (fun x hx y hy e => by
    have hx1 := hf x (hB.lt x hx)
    have hy1 := hf y (hB.lt y hy)
    rw [← e] at hy1
    rcases hx1.2.both hy1.2 with d | d
    · rcases (down_ed l h hT (hB.lt x hx) d).2 with e2 | e2
      · exact e2.symm
      · exact absurd e2 (hB.apart y hy x hx)
    · rcases (down_ed l h hT (hB.lt y hy) d).2 with e2 | e2
      · exact e2
      · exact absurd e2 (hB.apart x hx y hy))
  have h2 := nodup_le (B.map f) (lone l r) h1 (fun z hz => by
    obtain ⟨x, hx, rfl⟩ := List.mem_map.1 hz
    exact (hf x (hB.lt x hx)).1)
  simpa using h2
end Go.Proofs.Ytliocmjeglbpiaa.Ps
