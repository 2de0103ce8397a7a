/- FoldEnds: the plain law. -/
import Derived.Test.YtolefpeiceiocaaPs5
import Derived.Test.YtolefpeiceiocaaPref
namespace Go.Proofs.Ytolefpeiceiocaa.Ps
open Go Go.RowKit Go.Proofs.YtolefpeiceiocaaW.PrintWords Go.Proofs.YtolefpeiceiocaaW.PrintLast
set_option linter.unusedVariables false

theorem head_le {S : List Sv} (hs : S.Pairwise (fun x y => cmpS x y < 0)) {x : Sv} (hx : x ∈ S) : cmpS (S.headD z27) x ≤ 0 := by
  cases S with
  | nil => cases hx
  | cons a S =>
    rcases List.mem_cons.1 hx with rfl | hx
    · exact Int.le_of_eq (cmpS_ord.self _)
    · exact Int.le_of_lt ((List.pairwise_cons.1 hs).1 x hx)
theorem last_ge : ∀ {S : List Sv}, S.Pairwise (fun x y => cmpS x y < 0) → ∀ {x : Sv}, x ∈ S → cmpS x (S.getLastD z27) ≤ 0
  | [], _, _, hx => by cases hx
  | [a], _, x, hx => by
    rw [List.mem_singleton.1 hx]
    exact Int.le_of_eq (cmpS_ord.self _)
  | a :: b :: S, hs, x, hx => by
    have hs' := List.pairwise_cons.1 hs
    have e : (a :: b :: S).getLastD z27 = (b :: S).getLastD z27 := by simp [List.getLastD]
    rw [e]
    rcases List.mem_cons.1 hx with rfl | hx
    · have h1 := last_ge hs'.2 (x := b) (by simp)
      have h2 := hs'.1 b (by simp)
      by_cases h3 : cmpS b ((b :: S).getLastD z27) = 0
      · rw [← cmpS_ord.eq h3]; omega
      · exact Int.le_of_lt (cmpS_ord.trans h2 (by omega))
    · exact last_ge hs'.2 hx
theorem head_mem {S : List Sv} (h : S ≠ []) : S.headD z27 ∈ S := by
  cases S with
  | nil => exact absurd rfl h
  | cons a S => simp
theorem tail_mem {S : List Sv} (h : S ≠ []) : S.getLastD z27 ∈ S := by
  rw [List.getLastD_eq_getLast?, List.getLast?_eq_some_getLast h]
  exact List.getLast_mem h
theorem set_ne {l : List Sv} (h : l ≠ []) : setL l ≠ [] := by
  obtain ⟨x, r, e⟩ := List.exists_cons_of_ne_nil h
  intro e2
  have := (mem_setC cmpS_ord (z := x) (l := l)).2 (by rw [e]; simp)
  rw [show setC cmpS l = [] from e2] at this
  cases this
theorem set_more {l : List Sv} {x : Sv} : (setL (l ++ [x])).length = if x ∈ l then (setL l).length else (setL l).length + 1 := by
  split
  · rename_i h
    congr 1
    refine setC_congr cmpS_ord (fun z => ?_)
    rw [List.mem_append, List.mem_singleton]
    constructor
    · rintro (h1 | rfl)
      · exact h1
      · exact h
    · exact .inl
  · rename_i h
    have h2 : setL (l ++ [x]) = setC cmpS (x :: setL l) := setC_congr cmpS_ord (fun z => by
      unfold setL
      rw [List.mem_append, List.mem_singleton, List.mem_cons, mem_setC cmpS_ord]
      constructor
      · rintro (h1 | h1)
        · exact .inr h1
        · exact .inl h1
      · rintro (h1 | h1)
        · exact .inr h1
        · exact .inl h1)
    rw [h2, (set_perm cmpS_ord (l := x :: setL l) (List.nodup_cons.2 ⟨fun hm => h ((mem_setC cmpS_ord).1 hm), setC_nodup cmpS_ord l⟩)).length_eq]
    rfl
theorem take_one' {l : List Sv} {i : Nat} (h : i < l.length) : l.take (i + 1) = l.take i ++ [l[i]] := by
  rw [List.take_succ_eq_append_getElem h]
theorem ne_iff (x y : Sv) : (!((x.f0) == (y.f0)) || (!((x.f1) == (y.f1)) || (!((x.f2.toList) == (y.f2.toList))))) = !(decide (x = y)) := by
  have := eqB_iff x y
  unfold eqB at this
  rw [this, Bool.not_and, Bool.not_and]
theorem eq_iff (x y : Sv) : ((x.f0) == (y.f0) && ((x.f1) == (y.f1) && ((x.f2.toList) == (y.f2.toList)))) = decide (x = y) := by
  have := eqB_iff x y
  unfold eqB at this
  rw [this]

/-- What the loops are about: a list and its set's ends. -/
structure EndsOf (l : List Sv) (lo hi : Sv) : Prop where
  l40 : l.length ≤ 40
  low : ∀ x ∈ l, cmpS lo x ≤ 0
  high : ∀ x ∈ l, cmpS x hi ≤ 0
  lom : lo ∈ l
  him : hi ∈ l
def cnt (l : List Sv) (i : Nat) : Int := ((setL (l.take i)).length : Int)
def has (x : Sv) (l : List Sv) (i : Nat) : Bool := decide (x ∈ l.take i)
theorem has_step {x : Sv} {l : List Sv} {i : Nat} (h : i < l.length) : has x l (i + 1) = (has x l i || decide (l[i] = x)) := by
  unfold has
  rw [take_one' h, Bool.eq_iff_iff, decide_eq_true_iff, Bool.or_eq_true, decide_eq_true_iff, decide_eq_true_iff, List.mem_append, List.mem_singleton, eq_comm (a := x)]
theorem cnt_le {l : List Sv} {i : Nat} : 0 ≤ cnt l i ∧ cnt l i ≤ l.length := by
  unfold cnt
  have h1 := setC_length (c := cmpS) (l.take i)
  have h2 : (l.take i).length ≤ l.length := by rw [List.length_take]; omega
  unfold setL
  omega

theorem ends_loop {l : List Sv} {lo hi : Sv} (H : EndsOf l lo hi) : ∀ (m k i : Nat), i + m = l.length → 50 * (m + 1) < k →
    antecedentlaw20_FoldEnds.l0 k l (cnt l i) (has lo l i) (has hi l i) (l.length : Int) (i : Int) lo.f0 lo.f1 lo.f2 hi.f0 hi.f1 hi.f2 1 (setL l).length emp = some true := by
  have h40 := H.l40
  intro m
  induction m with
  | zero =>
    intro k i hi' hk
    obtain ⟨k, rfl⟩ : ∃ k', k = k' + 1 := ⟨k - 1, by omega⟩
    unfold antecedentlaw20_FoldEnds.l0
    have e : l.take i = l := List.take_of_length_le (by omega)
    unfold has cnt
    rw [if_neg (by omega), e, if_pos (decide_eq_true H.lom), if_pos (decide_eq_true H.him)]
    simp [emp]
  | succ m ih =>
    intro k i hi' hk
    obtain ⟨k, rfl⟩ : ∃ k', k = k' + 1 := ⟨k - 1, by omega⟩
    have hil : i < l.length := by omega
    unfold antecedentlaw20_FoldEnds.l0
    rw [if_pos (by omega)]
    -- what follows the inner loop
    have rest : ∀ k', 50 * (m + 1) + 1 < k' → antecedentlaw20_FoldEnds.j3 k' l (cnt l (i + 1)) (has lo l i) (has hi l i) (i : Int) (l.length : Int) (i : Int) lo.f0 lo.f1 lo.f2 hi.f0 hi.f1 hi.f2 1 (setL l).length emp = some true := by
      intro k' hk'
      obtain ⟨k', rfl⟩ : ∃ k'', k' = k'' + 1 := ⟨k' - 1, by omega⟩
      have hx := List.getElem_mem hil
      have h1 := H.low _ hx
      have h2 := H.high _ hx
      have h := ih k' (i + 1) (by omega) (by omega)
      rw [has_step hil, has_step hil] at h
      unfold antecedentlaw20_FoldEnds.j3
      rw [if_pos (by omega), if_pos (by omega), rd_get hil, rcmp_eq lo, Option.bind_some, if_neg (by omega), rcmp_eq _ hi, Option.bind_some, if_neg (by omega), wrap_small (by omega), eq_iff, eq_iff]
      cases c1 : has lo l i <;> cases c2 : has hi l i <;> rw [c1, c2] at h <;> simpa using h
    have inner : ∀ (q k' j : Nat), j + q = i → q + 50 * (m + 1) + 2 < k' → antecedentlaw20_FoldEnds.l1 k' l (cnt l i) (has lo l i) (has hi l i) (i : Int) (!(decide (l[i] ∈ l.take j))) (l.length : Int) (i : Int) (i : Int) (j : Int) lo.f0 lo.f1 lo.f2 hi.f0 hi.f1 hi.f2 1 (setL l).length emp = some true := by
      intro q
      induction q with
      | zero =>
        intro k' j hj hk'
        obtain ⟨k', rfl⟩ : ∃ k'', k' = k'' + 1 := ⟨k' - 1, by omega⟩
        have e : j = i := by omega
        subst e
        unfold antecedentlaw20_FoldEnds.l1
        rw [if_neg (by omega)]
        have hr := rest k' (by omega)
        have hc := (cnt_le (l := l) (i := j))
        have hcc : cnt l (j + 1) = if l[j] ∈ l.take j then cnt l j else cnt l j + 1 := by
          unfold cnt
          rw [take_one' hil, set_more]
          split <;> simp
        by_cases hm : l[j] ∈ l.take j
        · rw [if_neg (by simp [hm])]
          rw [hcc, if_pos hm] at hr
          exact hr
        · rw [if_pos (by simp [hm])]
          rw [hcc, if_neg hm] at hr
          rw [show wrap64 (cnt l j + 1) = cnt l j + 1 from by unfold wrap64; omega]
          exact hr
      | succ q ihq =>
        intro k' j hj hk'
        obtain ⟨k', rfl⟩ : ∃ k'', k' = k'' + 1 := ⟨k' - 1, by omega⟩
        have hjl : j < l.length := by omega
        have h := ihq k' (j + 1) (by omega) (by omega)
        rw [take_one' hjl] at h
        unfold antecedentlaw20_FoldEnds.l1
        rw [if_pos (by omega), wrap_small (by omega)]
        by_cases hm : l[i] ∈ l.take j
        · rw [if_neg (by simp [hm])]
          have e : decide (l[i] ∈ l.take j ++ [l[j]]) = true := decide_eq_true (List.mem_append.2 (.inl hm))
          rw [e] at h
          exact h
        · rw [if_pos (by simp [hm]), if_pos (by omega), if_pos (by omega), if_pos (by omega), if_pos (by omega), rd_get hil, rd_get hjl, ne_iff]
          have e : decide (l[i] ∈ l.take j ++ [l[j]]) = decide (l[j] = l[i]) := by
            rw [Bool.eq_iff_iff, decide_eq_true_iff, decide_eq_true_iff, List.mem_append, List.mem_singleton, eq_comm (a := l[j])]
            exact ⟨fun h => h.resolve_left hm, .inr⟩
          rw [e] at h
          exact h
    have h := inner i k 0 (by omega) (by omega)
    simpa using h

theorem wrong_any {k1 k2 : Int} (h1 : k1 = 1 ∨ k1 = 3 ∨ k1 = 4) (h2 : k2 = 1 ∨ k2 = 3 ∨ k2 = 4) (S : List Sv) : wrongP k1 S = wrongP k2 S := by
  have e : ∀ k : Int, (k = 1 ∨ k = 3 ∨ k = 4) → wrongP k S = wrongP 1 S := by
    intro k hk
    have ho : oddS k S = oddS 1 S := by
      funext x
      unfold oddS
      congr 1
      rw [eq_iff_iff]
      constructor
      · rintro (h | h)
        · exact .inl h
        · omega
      · rintro (h | h)
        · exact .inl h
        · omega
    unfold wrongP
    rw [ho]
    rcases hk with rfl | rfl | rfl <;> simp
  rw [e k1 h1, e k2 h2]
theorem wrong_none (kind : Int) (hk : 1 ≤ kind ∧ kind ≤ 5) (l : List Sv) : wrongP kind (setL l) ≠ 0 → ((wrongP kind (setL l) == 12) == ((l.length : Int) == 0)) = true := by
  intro h
  by_cases hl : l = []
  · subst hl
    have e : setL ([] : List Sv) = [] := rfl
    rw [e]
    unfold wrongP
    rw [if_neg (by simp; omega), if_pos rfl]
    rfl
  · have hs := set_ne hl
    have h2 : wrongP kind (setL l) ≠ 12 := by
      unfold wrongP
      rw [if_neg hs]
      split
      · decide
      · split
        · decide
        · decide
    have h3 : ¬ ((l.length : Int) = 0) := by
      have := List.length_pos_iff.2 hl
      omega
    rw [show (wrongP kind (setL l) == 12) = false from beq_eq_false_iff_ne.2 h2, show ((l.length : Int) == 0) = false from beq_eq_false_iff_ne.2 h3]
    rfl
theorem of_bad {kind : Int} {l : List Sv} (h : wrongP kind (setL l) ≠ 0) : ofP kind l = (z27, wrongP kind (setL l)) := by
  unfold ofP setP
  rw [if_pos h]
theorem of_count {l : List Sv} (h : wrongP 1 (setL l) = 0) : ofP 1 l = (⟨1, (setL l).length, emp⟩, 0) := by
  unfold ofP setP
  rw [if_neg (by simp [h]), if_pos rfl]
theorem of_min {l : List Sv} (h : wrongP 3 (setL l) = 0) : ofP 3 l = ((setL l).headD z27, 0) := by
  unfold ofP setP
  rw [if_neg (by simp [h]), if_neg (by decide), if_pos rfl]
theorem of_max {l : List Sv} (h : wrongP 4 (setL l) = 0) : ofP 4 l = ((setL l).getLastD z27, 0) := by
  unfold ofP setP
  rw [if_neg (by simp [h]), if_neg (by decide), if_neg (by decide), if_pos rfl]
theorem wrong_nil {kind : Int} (h : wrongP kind [] = 0) : False := by
  unfold wrongP at h
  split at h
  · cases h
  · rw [if_pos rfl] at h; cases h

theorem FoldEnds_plain (l : List Sv) (hl : l.length ≤ maxLen ∧ ∀ x ∈ l, wfV x) : ∃ k, antecedentlaw20_FoldEnds.f k l = some true := by
  refine ⟨4000, ?_⟩
  unfold antecedentlaw20_FoldEnds.f
  rw [awake_eq 4000 (by omega), Option.bind_some, if_pos rfl]
  by_cases h : (l.length : Int) > 40
  · rw [if_pos h, Option.bind_some, if_pos rfl]
  · rw [if_neg h]
    have hok : okL l := ⟨by omega, fun x hx => wfV_ok (hl.2 x hx)⟩
    rw [Of_eq 3 l (by decide) hok 4000 (by omega), Option.bind_some, Of_eq 4 l (by decide) hok 4000 (by omega), Option.bind_some, Of_eq 1 l (by decide) hok 4000 (by omega), Option.bind_some]
    have e13 := wrong_any (k1 := 1) (k2 := 3) (by simp) (by simp) (setL l)
    have e14 := wrong_any (k1 := 1) (k2 := 4) (by simp) (by simp) (setL l)
    by_cases hw : wrongP 1 (setL l) = 0
    · rw [of_min (by rw [← e13]; exact hw), of_max (by rw [← e14]; exact hw), of_count hw]
      have hne : setL l ≠ [] := fun e => by rw [e] at hw; exact wrong_nil hw
      have hs := setC_sorted cmpS_ord l
      have hmem : ∀ x, x ∈ setL l ↔ x ∈ l := fun x => mem_setC cmpS_ord
      have H : EndsOf l ((setL l).headD z27) ((setL l).getLastD z27) := ⟨by omega, fun x hx => head_le hs ((hmem x).2 hx), fun x hx => last_ge hs ((hmem x).2 hx), (hmem _).1 (head_mem hne), (hmem _).1 (tail_mem hne)⟩
      have h := ends_loop H l.length 3999 0 (by omega) (by omega)
      simp only [four]
      rw [if_pos trivial, antecedentlaw20_FoldEnds.j0, if_neg (by decide), if_pos rfl]
      simpa [cnt, has, setL, setC] using h
    · have hb := wrong_none 1 (by decide) l hw
      rw [of_bad (kind := 3) (by rw [← e13]; exact hw), of_bad (kind := 4) (by rw [← e14]; exact hw), of_bad hw, ← e13, ← e14]
      simp only [four]
      rw [if_pos trivial, antecedentlaw20_FoldEnds.j0, if_neg (by simp), if_neg hw, hb]
end Go.Proofs.Ytolefpeiceiocaa.Ps
