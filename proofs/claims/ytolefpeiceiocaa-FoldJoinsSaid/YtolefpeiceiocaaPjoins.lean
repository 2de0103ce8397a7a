/- FoldJoins: the plain law. -/
import Derived.Test.YtolefpeiceiocaaPs8
import Derived.Test.YtolefpeiceiocaaPref
namespace Go.Proofs.Ytolefpeiceiocaa.Ps
open Go Go.RowKit Go.Proofs.YtolefpeiceiocaaW.PrintWords Go.Proofs.YtolefpeiceiocaaW.PrintLast
set_option linter.unusedVariables false

theorem head_le {S : List Sv} (hs : S.Pairwise (fun x y => cmpS x y < 0)) {x : Sv} (hx : x ∈ S) : cmpS (S.headD z27) x ≤ 0 := by
  cases S with
  | nil => cases hx
  | cons a S =>
    rcases List.mem_cons.1 hx with rfl | hx
    · exact Int.le_of_eq (cmpS_ord.self _)
    · exact Int.le_of_lt ((List.pairwise_cons.1 hs).1 x hx)
theorem last_ge : ∀ {S : List Sv}, S.Pairwise (fun x y => cmpS x y < 0) → ∀ {x : Sv}, x ∈ S → cmpS x (S.getLastD z27) ≤ 0
  | [], _, _, hx => by cases hx
  | [a], _, x, hx => by
    rw [List.mem_singleton.1 hx]
    exact Int.le_of_eq (cmpS_ord.self _)
  | a :: b :: S, hs, x, hx => by
    have hs' := List.pairwise_cons.1 hs
    have e : (a :: b :: S).getLastD z27 = (b :: S).getLastD z27 := by simp [List.getLastD]
    rw [e]
    rcases List.mem_cons.1 hx with rfl | hx
    · have h1 := last_ge hs'.2 (x := b) (by simp)
      have h2 := hs'.1 b (by simp)
      by_cases h3 : cmpS b ((b :: S).getLastD z27) = 0
      · rw [← cmpS_ord.eq h3]; omega
      · exact Int.le_of_lt (cmpS_ord.trans h2 (by omega))
    · exact last_ge hs'.2 hx
theorem head_mem {S : List Sv} (h : S ≠ []) : S.headD z27 ∈ S := by
  cases S with
  | nil => exact absurd rfl h
  | cons a S => simp
theorem tail_mem {S : List Sv} (h : S ≠ []) : S.getLastD z27 ∈ S := by
  rw [List.getLastD_eq_getLast?, List.getLast?_eq_some_getLast h]
  exact List.getLast_mem h
theorem set_ne {l : List Sv} (h : l ≠ []) : setL l ≠ [] := by
  obtain ⟨x, r, e⟩ := List.exists_cons_of_ne_nil h
  intro e2
  have := (mem_setC cmpS_ord (z := x) (l := l)).2 (by rw [e]; simp)
  rw [show setC cmpS l = [] from e2] at this
  cases this
theorem eq_iff (x y : Sv) : ((x.f0) == (y.f0) && ((x.f1) == (y.f1) && ((x.f2.toList) == (y.f2.toList)))) = decide (x = y) := by
  have := eqB_iff x y
  unfold eqB at this
  rw [this]

theorem wrong_any {k1 k2 : Int} (h1 : k1 = 1 ∨ k1 = 3 ∨ k1 = 4) (h2 : k2 = 1 ∨ k2 = 3 ∨ k2 = 4) (S : List Sv) : wrongP k1 S = wrongP k2 S := by
  have e : ∀ k : Int, (k = 1 ∨ k = 3 ∨ k = 4) → wrongP k S = wrongP 1 S := by
    intro k hk
    have ho : oddS k S = oddS 1 S := by
      funext x
      unfold oddS
      congr 1
      rw [eq_iff_iff]
      constructor
      · rintro (h | h)
        · exact .inl h
        · omega
      · rintro (h | h)
        · exact .inl h
        · omega
    unfold wrongP
    rw [ho]
    rcases hk with rfl | rfl | rfl <;> simp
  rw [e k1 h1, e k2 h2]
theorem of_bad {kind : Int} {l : List Sv} (h : wrongP kind (setL l) ≠ 0) : ofP kind l = (z27, wrongP kind (setL l)) := by
  unfold ofP setP
  rw [if_pos h]
theorem of_count {l : List Sv} (h : wrongP 1 (setL l) = 0) : ofP 1 l = (⟨1, (setL l).length, emp⟩, 0) := by
  unfold ofP setP
  rw [if_neg (by simp [h]), if_pos rfl]
theorem of_min {l : List Sv} (h : wrongP 3 (setL l) = 0) : ofP 3 l = ((setL l).headD z27, 0) := by
  unfold ofP setP
  rw [if_neg (by simp [h]), if_neg (by decide), if_pos rfl]
theorem of_max {l : List Sv} (h : wrongP 4 (setL l) = 0) : ofP 4 l = ((setL l).getLastD z27, 0) := by
  unfold ofP setP
  rw [if_neg (by simp [h]), if_neg (by decide), if_neg (by decide), if_pos rfl]
theorem wrong_nil {kind : Int} (h : wrongP kind [] = 0) : False := by
  unfold wrongP at h
  split at h
  · cases h
  · rw [if_pos rfl] at h; cases h

theorem cmp_anti {x y : Sv} (h1 : cmpS x y ≤ 0) (h2 : cmpS y x ≤ 0) : x = y := cmpS_ord.eq (by have := cmpS_ord.swap x y; omega)
theorem cmp_le_trans {x y z : Sv} (h1 : cmpS x y ≤ 0) (h2 : cmpS y z ≤ 0) : cmpS x z ≤ 0 := by
  by_cases e1 : cmpS x y = 0
  · rw [cmpS_ord.eq e1]; exact h2
  · by_cases e2 : cmpS y z = 0
    · rw [← cmpS_ord.eq e2]; exact h1
    · exact Int.le_of_lt (cmpS_ord.trans (x := x) (y := y) (z := z) (by omega) (by omega))
theorem mem_set {l : List Sv} (x : Sv) : x ∈ setL l ↔ x ∈ l := mem_setC cmpS_ord
theorem lo_le {l : List Sv} {x : Sv} (hx : x ∈ l) : cmpS ((setL l).headD z27) x ≤ 0 := head_le (setC_sorted cmpS_ord l) ((mem_set x).2 hx)
theorem le_hi {l : List Sv} {x : Sv} (hx : x ∈ l) : cmpS x ((setL l).getLastD z27) ≤ 0 := last_ge (setC_sorted cmpS_ord l) ((mem_set x).2 hx)
theorem lo_mem {l : List Sv} (h : l ≠ []) : (setL l).headD z27 ∈ l := (mem_set _).1 (head_mem (set_ne h))
theorem hi_mem {l : List Sv} (h : l ≠ []) : (setL l).getLastD z27 ∈ l := (mem_set _).1 (tail_mem (set_ne h))
theorem lo_both {l m : List Sv} (hl : l ≠ []) (hm : m ≠ []) : (setL (l ++ m)).headD z27 = if cmpS ((setL l).headD z27) ((setL m).headD z27) > 0 then (setL m).headD z27 else (setL l).headD z27 := by
  have hb : l ++ m ≠ [] := by simp [hl]
  have h1 := lo_mem hl
  have h2 := lo_mem hm
  have h3 := lo_mem hb
  have sw := cmpS_ord.swap ((setL l).headD z27) ((setL m).headD z27)
  split
  · refine cmp_anti (lo_le (List.mem_append.2 (.inr h2))) ?_
    rcases List.mem_append.1 h3 with h | h
    · exact cmp_le_trans (by omega) (lo_le h)
    · exact lo_le h
  · refine cmp_anti (lo_le (List.mem_append.2 (.inl h1))) ?_
    rcases List.mem_append.1 h3 with h | h
    · exact lo_le h
    · exact cmp_le_trans (by omega) (lo_le h)
theorem hi_both {l m : List Sv} (hl : l ≠ []) (hm : m ≠ []) : (setL (l ++ m)).getLastD z27 = if cmpS ((setL l).getLastD z27) ((setL m).getLastD z27) < 0 then (setL m).getLastD z27 else (setL l).getLastD z27 := by
  have hb : l ++ m ≠ [] := by simp [hl]
  have h1 := hi_mem hl
  have h2 := hi_mem hm
  have h3 := hi_mem hb
  have sw := cmpS_ord.swap ((setL l).getLastD z27) ((setL m).getLastD z27)
  split
  · refine cmp_anti ?_ (le_hi (List.mem_append.2 (.inr h2)))
    rcases List.mem_append.1 h3 with h | h
    · exact cmp_le_trans (le_hi h) (by omega)
    · exact le_hi h
  · refine cmp_anti ?_ (le_hi (List.mem_append.2 (.inl h1)))
    rcases List.mem_append.1 h3 with h | h
    · exact le_hi h
    · exact cmp_le_trans (le_hi h) (by omega)
theorem insC_more {α : Type} {c : α → α → Int} {x : α} : ∀ (l : List α), l.length ≤ (insC c x l).length
  | [] => by simp
  | y :: l => by
    have := insC_more (c := c) (x := x) l
    unfold insC
    split
    · simp
    · split
      · simp
      · simp; exact this
theorem setC_more {α : Type} {c : α → α → Int} (l : List α) : ∀ (m : List α), (setC c l).length ≤ (setC c (m ++ l)).length
  | [] => Nat.le_refl _
  | x :: m => Nat.le_trans (setC_more l m) (insC_more (c := c) (x := x) (setC c (m ++ l)))
theorem count_both (l m : List Sv) : (setL (l ++ m)).length ≤ (setL l).length + (setL m).length ∧ (setL l).length ≤ (setL (l ++ m)).length ∧ (setL m).length ≤ (setL (l ++ m)).length := by
  refine ⟨?_, ?_, setC_more m l⟩
  · have h : setL (l ++ m) = setC cmpS (setL l ++ setL m) := setC_congr cmpS_ord (fun z => by rw [List.mem_append, List.mem_append, mem_set, mem_set])
    rw [h, ← List.length_append]
    exact setC_length _
  · have h : setL (l ++ m) = setL (m ++ l) := setC_congr cmpS_ord (fun z => by rw [List.mem_append, List.mem_append, Or.comm])
    rw [h]
    exact setC_more l m
theorem wrong_part {l m : List Sv} (h : wrongP 3 (setL m) = 0) (hs : ∀ x ∈ l, x ∈ m) (hl : l ≠ []) : wrongP 3 (setL l) = 0 := by
  have key : ∀ S : List Sv, wrongP 3 S = 0 ↔ (∀ x ∈ S, rightS x = true) ∧ S ≠ [] ∧ ∀ x ∈ S, x.f0 = (S.headD z27).f0 := by
    intro S
    unfold wrongP
    constructor
    · intro h
      split at h
      · cases h
      · rename_i h1
        split at h
        · cases h
        · rename_i h2
          split at h
          · cases h
          · rename_i h3
            refine ⟨fun x hx => ?_, h2, fun x hx => ?_⟩
            · have : ¬ ((S.any fun x => !rightS x) = true) := fun h => h1 (.inr (.inr h))
              rw [List.any_eq_true] at this
              cases hr : rightS x with
              | true => rfl
              | false => exact absurd ⟨x, hx, by rw [hr]; rfl⟩ this
            · rw [List.any_eq_true] at h3
              by_cases he : x.f0 = (S.headD z27).f0
              · exact he
              · exact absurd ⟨x, hx, decide_eq_true (.inl he)⟩ h3
    · rintro ⟨h1, h2, h3⟩
      have e1 : (S.any fun x => !rightS x) = false := by
        rw [List.any_eq_false]
        intro x hx
        rw [h1 x hx]
        decide
      have e2 : S.any (oddS 3 S) = false := by
        rw [List.any_eq_false]
        intro x hx
        unfold oddS
        simp [h3 x hx]
      rw [e1, e2, if_neg (by decide), if_neg h2, if_neg (by decide)]
  obtain ⟨h1, h2, h3⟩ := (key _).1 h
  refine (key _).2 ⟨fun x hx => h1 x ((mem_set x).2 (hs x ((mem_set x).1 hx))), set_ne hl, fun x hx => ?_⟩
  rw [h3 x ((mem_set x).2 (hs x ((mem_set x).1 hx))), h3 _ ((mem_set _).2 (hs _ (lo_mem hl)))]
theorem ne_of_fine {l : List Sv} (h : wrongP 3 (setL l) = 0) : l ≠ [] := fun e => by subst e; exact wrong_nil h

theorem three (a b c : Nat) (h : c ≤ a + b ∧ a ≤ c ∧ b ≤ c) (ha : a ≤ 40) (hb : b ≤ 40) : wrap64 ((a : Int) + (b : Int)) = (a : Int) + (b : Int) ∧ (c : Int) ≤ (a : Int) + (b : Int) ∧ (c : Int) ≥ mx (a : Int) (b : Int) := by
  refine ⟨by unfold wrap64; omega, by omega, ?_⟩
  unfold mx
  split <;> omega
set_option maxHeartbeats 1000000 in
theorem joins_end (l m : List Sv) (hl : okL l) (hm : okL m) (hb : okL (l ++ m)) (h40 : l.length ≤ 40) (g40 : m.length ≤ 40) (k : Nat) (hk : 100 < k) :
    (if (ofP 3 l).2 = 0 then (if (ofP 3 m).2 = 0 then (antecedentlaw20_FoldJoins.j1 k l m (l ++ m) (ofP 3 (l ++ m)).2 ((ofP 3 (l ++ m)).2 != 0) (ofP 3 l).1.f0 (ofP 3 l).1.f1 (ofP 3 l).1.f2 (ofP 3 m).1.f0 (ofP 3 m).1.f1 (ofP 3 m).1.f2 (ofP 3 (l ++ m)).1.f0 (ofP 3 (l ++ m)).1.f1 (ofP 3 (l ++ m)).1.f2) else (antecedentlaw20_FoldJoins.j1 k l m (l ++ m) (ofP 3 (l ++ m)).2 true (ofP 3 l).1.f0 (ofP 3 l).1.f1 (ofP 3 l).1.f2 (ofP 3 m).1.f0 (ofP 3 m).1.f1 (ofP 3 m).1.f2 (ofP 3 (l ++ m)).1.f0 (ofP 3 (l ++ m)).1.f1 (ofP 3 (l ++ m)).1.f2)) else (antecedentlaw20_FoldJoins.j1 k l m (l ++ m) (ofP 3 (l ++ m)).2 true (ofP 3 l).1.f0 (ofP 3 l).1.f1 (ofP 3 l).1.f2 (ofP 3 m).1.f0 (ofP 3 m).1.f1 (ofP 3 m).1.f2 (ofP 3 (l ++ m)).1.f0 (ofP 3 (l ++ m)).1.f1 (ofP 3 (l ++ m)).1.f2)) = some true := by
  obtain ⟨k, rfl⟩ : ∃ k', k = k' + 1 := ⟨k - 1, by omega⟩
  have err : ∀ {t : List Sv}, (ofP 3 t).2 = wrongP 3 (setL t) := by
    intro t
    by_cases h : wrongP 3 (setL t) = 0
    · rw [of_min h, h]
    · rw [of_bad h]
  have stop : ∀ (a b c d e f g h i), ¬ (l ≠ [] ∧ m ≠ [] ∧ (ofP 3 (l ++ m)).2 = 0) → antecedentlaw20_FoldJoins.j1 (k + 1) l m (l ++ m) (ofP 3 (l ++ m)).2 true a b c d e f g h i = some true := by
    intro a b c d e f g h i hn
    rw [antecedentlaw20_FoldJoins.j1, if_pos rfl]
    by_cases h3 : (ofP 3 (l ++ m)).2 = 0
    · rw [if_pos h3]
      by_cases h1 : l = []
      · subst h1; exact if_pos rfl
      · have hll : ¬ ((l.length : Int) = 0) := by have := List.length_pos_iff.2 h1; omega
        rw [if_neg hll]
        have h2 : m = [] := Classical.byContradiction fun h2 => hn ⟨h1, h2, h3⟩
        subst h2; rfl
    · rw [if_neg h3]
  have part1 : l ≠ [] → (ofP 3 (l ++ m)).2 = 0 → (ofP 3 l).2 = 0 := fun h0 h => by
    rw [err] at h ⊢
    exact wrong_part h (fun x hx => List.mem_append.2 (.inl hx)) h0
  have part2 : m ≠ [] → (ofP 3 (l ++ m)).2 = 0 → (ofP 3 m).2 = 0 := fun h0 h => by
    rw [err] at h ⊢
    exact wrong_part h (fun x hx => List.mem_append.2 (.inr hx)) h0
  by_cases c1 : (ofP 3 l).2 = 0
  case neg => rw [if_neg c1, stop _ _ _ _ _ _ _ _ _ (fun h => c1 (part1 h.1 h.2.2))]
  rw [if_pos c1]
  by_cases c2 : (ofP 3 m).2 = 0
  case neg => rw [if_neg c2, stop _ _ _ _ _ _ _ _ _ (fun h => c2 (part2 h.2.1 h.2.2))]
  rw [if_pos c2]
  by_cases c3 : (ofP 3 (l ++ m)).2 = 0
  case neg =>
    rw [show ((ofP 3 (l ++ m)).2 != 0) = true from bne_iff_ne.2 c3]
    exact stop _ _ _ _ _ _ _ _ _ (fun h => c3 h.2.2)
  rw [show ((ofP 3 (l ++ m)).2 != 0) = false from by rw [c3]; rfl]
  rw [err] at c1 c2 c3
  have hne := ne_of_fine c1
  have gne := ne_of_fine c2
  have w : ∀ (kd : Int), (kd = 1 ∨ kd = 3 ∨ kd = 4) → wrongP kd (setL l) = 0 ∧ wrongP kd (setL m) = 0 ∧ wrongP kd (setL (l ++ m)) = 0 := fun kd hkd =>
    ⟨by rw [wrong_any hkd (k2 := 3) (by simp), c1], by rw [wrong_any hkd (k2 := 3) (by simp), c2], by rw [wrong_any hkd (k2 := 3) (by simp), c3]⟩
  obtain ⟨w11, w12, w13⟩ := w 1 (by simp)
  obtain ⟨w41, w42, w43⟩ := w 4 (by simp)
  have hlen : (l ++ m).length ≤ 80 := by rw [List.length_append]; omega
  rw [antecedentlaw20_FoldJoins.j1, if_neg (by decide)]
  rw [Of_eq 4 l (by decide) hl k (by omega), Option.bind_some, Of_eq 4 m (by decide) hm k (by omega), Option.bind_some, Of_eq 4 (l ++ m) (by decide) hb k (by omega), Option.bind_some, Of_eq 1 l (by decide) hl k (by omega), Option.bind_some, Of_eq 1 m (by decide) hm k (by omega), Option.bind_some, Of_eq 1 (l ++ m) (by decide) hb k (by omega), Option.bind_some]
  rw [of_min c1, of_min c2, of_min c3, of_max w41, of_max w42, of_max w43, of_count w11, of_count w12, of_count w13]
  simp only [four]
  rw [rcmp_eq, Option.bind_some, rcmp_eq]
  simp only [Option.bind_some, eq_iff]
  have hlo := lo_both hne gne
  have hhi := hi_both hne gne
  have hc := count_both l m
  have e1 : (setL l).length ≤ 40 := Nat.le_trans (setC_length (c := cmpS) l) h40
  have e2 : (setL m).length ≤ 40 := Nat.le_trans (setC_length (c := cmpS) m) g40
  generalize (setL (l ++ m)).length = nc at hc ⊢
  generalize (setL l).length = na at hc e1 ⊢
  generalize (setL m).length = nb at hc e2 ⊢
  obtain ⟨hw, hle, hge⟩ := three na nb nc hc e1 e2
  simp only [hw, hle, hge, if_true, decide_true]
  by_cases d1 : cmpS ((setL l).headD z27) ((setL m).headD z27) > 0
  · rw [if_pos d1] at hlo
    by_cases d2 : cmpS ((setL l).getLastD z27) ((setL m).getLastD z27) < 0
    · rw [if_pos d2] at hhi
      rw [if_pos d1, if_pos d2, if_pos (decide_eq_true hlo), if_pos (decide_eq_true hhi)]
    · rw [if_neg d2] at hhi
      rw [if_pos d1, if_neg d2, if_pos (decide_eq_true hlo), if_pos (decide_eq_true hhi)]
  · rw [if_neg d1] at hlo
    by_cases d2 : cmpS ((setL l).getLastD z27) ((setL m).getLastD z27) < 0
    · rw [if_pos d2] at hhi
      rw [if_neg d1, if_pos d2, if_pos (decide_eq_true hlo), if_pos (decide_eq_true hhi)]
    · rw [if_neg d2] at hhi
      rw [if_neg d1, if_neg d2, if_pos (decide_eq_true hlo), if_pos (decide_eq_true hhi)]
theorem FoldJoins_plain (l m : List Sv) (hl : l.length ≤ maxLen ∧ ∀ x ∈ l, wfV x) (hm : m.length ≤ maxLen ∧ ∀ x ∈ m, wfV x) : ∃ k, antecedentlaw20_FoldJoins.f k l m = some true := by
  refine ⟨2000, ?_⟩
  have hj : antecedentlaw20_FoldJoins.j0 2000 l m true = some true := by
    rw [antecedentlaw20_FoldJoins.j0, if_pos rfl, awake_eq _ (by omega), Option.bind_some, if_pos rfl]
  unfold antecedentlaw20_FoldJoins.f
  rw [awake_eq 2000 (by omega), Option.bind_some, if_pos rfl]
  by_cases h : (l.length : Int) > 40
  · rw [if_pos h, hj]
  · rw [if_neg h]
    by_cases g : (m.length : Int) > 40
    · rw [decide_eq_true g, hj]
    · rw [decide_eq_false g, antecedentlaw20_FoldJoins.j0, if_neg (by decide), Option.bind_some, if_pos (by simp; omega), Option.bind_some, if_pos (by simp; omega), Option.bind_some, List.nil_append]
      have hok : okL l := ⟨by omega, fun x hx => wfV_ok (hl.2 x hx)⟩
      have gok : okL m := ⟨by omega, fun x hx => wfV_ok (hm.2 x hx)⟩
      have bok : okL (l ++ m) := ⟨by rw [List.length_append]; omega, fun x hx => (List.mem_append.1 hx).elim (hok.2 x) (gok.2 x)⟩
      rw [Of_eq 3 l (by decide) hok 1999 (by omega), Option.bind_some, Of_eq 3 m (by decide) gok 1999 (by omega), Option.bind_some, Of_eq 3 (l ++ m) (by decide) bok 1999 (by rw [List.length_append]; omega), Option.bind_some]
      exact joins_end l m hok gok bok (by omega) (by omega) 1999 (by omega)
end Go.Proofs.Ytolefpeiceiocaa.Ps
