/- SETS OF COLUMNS: has, Part, Set, few, mask. No program's memory in sight. -/
import Derived.Test.YtliocmjeglbpiaaPsort
namespace Go.Proofs.Ytliocmjeglbpiaa.Ps
open Go.RowKit Go.Proofs.YtliocmjeglbpiaaW.PrintWords Go.Proofs.YtliocmjeglbpiaaW.PrintLast Go.Proofs.YtliocmjeglbpiaaW.PrintMore
set_option linter.unusedVariables false
set_option linter.unusedSimpArgs false

abbrev Big : Nat := 4611686018427387904
theorem rdL (xs : List (List Int)) (i : Nat) (h : i < xs.length) : rd_L3 xs (i : Int) = xs[i] := by
  simp [rd_L3, rdOf, h]

/-! ### has, Part -/
theorem has_loop (l : List Int) (a : Int) (hl : l.length < 1000000) (d : Nat) : ∀ i : Nat, i + d = l.length → Ev (fun k => antecedentref18_has.l0 k l a (l.length : Int) (i : Int)) ((l.drop i).contains a) := by
  induction d with
  | zero =>
    intro i hi
    rw [List.drop_eq_nil_of_le (by omega)]
    refine Ev.step (f := fun _ => some false) (fun k => ?_) (Ev.now _)
    simp only [antecedentref18_has.l0]
    rw [if_neg (nlt_cast (by omega))]
  | succ d ih =>
    intro i hi
    have hlt : i < l.length := by omega
    rw [List.drop_eq_getElem_cons hlt, List.contains_cons]
    by_cases e : l[i] = a
    · refine Ev.step (f := fun _ => some true) (fun k => ?_) ?_
      · simp only [antecedentref18_has.l0]
        rw [if_pos (lt_cast hlt), if_pos (nn_cast _), if_pos (lt_cast hlt), rd_nat l i hlt, if_pos e]
      · have : (a == l[i] || (l.drop (i + 1)).contains a) = true := by simp [e]
        rw [this]; exact Ev.now _
    · have : (a == l[i] || (l.drop (i + 1)).contains a) = (l.drop (i + 1)).contains a := by
        have : (a == l[i]) = false := by simpa using fun h => e h.symm
        rw [this, Bool.false_or]
      rw [this]
      refine Ev.step (fun k => ?_) (ih (i + 1) (by omega))
      simp only [antecedentref18_has.l0]
      rw [if_pos (lt_cast hlt), if_pos (nn_cast _), if_pos (lt_cast hlt), rd_nat l i hlt, if_neg e, wrap_succ i (by omega)]
theorem has_spec (l : List Int) (a : Int) (hl : l.length < 1000000) : Ev (fun k => antecedentref18_has.f k l a) (l.contains a) := has_loop l a hl l.length 0 (by omega)

theorem part_loop (a b : List Int) (ha : a.length < 1000000) (hb : b.length < 1000000) (d : Nat) : ∀ i : Nat, i + d = a.length → Ev (fun k => antecedentref18_Part.l0 k a b (a.length : Int) (i : Int)) (partB (a.drop i) b) := by
  induction d with
  | zero =>
    intro i hi
    rw [List.drop_eq_nil_of_le (by omega)]
    refine Ev.step (f := fun _ => some true) (fun k => ?_) (Ev.now _)
    simp only [antecedentref18_Part.l0]
    rw [if_neg (nlt_cast (by omega))]
  | succ d ih =>
    intro i hi
    have hlt : i < a.length := by omega
    rw [List.drop_eq_getElem_cons hlt]
    have e : partB (a[i] :: a.drop (i + 1)) b = (b.contains a[i] && partB (a.drop (i + 1)) b) := rfl
    rw [e]
    refine Ev.step (f := fun k => (antecedentref18_has.f k b a[i]).bind fun t => if t = true then antecedentref18_Part.l0 k a b (a.length : Int) ((i + 1 : Nat) : Int) else some false) (fun k => ?_) ?_
    · simp only [antecedentref18_Part.l0]
      rw [if_pos (lt_cast hlt), if_pos (nn_cast _), if_pos (lt_cast hlt), rd_nat a i hlt, wrap_succ i (by omega)]
    · refine Ev.bind (has_spec b a[i] hb) ?_
      cases b.contains a[i] with
      | true => simpa using ih (i + 1) (by omega)
      | false => exact Ev.now _
theorem part_spec (a b : List Int) (ha : a.length < 1000000) (hb : b.length < 1000000) : Ev (fun k => antecedentref18_Part.f k a b) (partB a b) := part_loop a b ha hb a.length 0 (by omega)
theorem partB_iff (a b : List Int) : partB a b = true ↔ ∀ x ∈ a, x ∈ b := by simp [partB]

/-! ### few -/
theorem few_loop (l : List (List Int)) (hl : l.length ≤ 9223372036854775807) (d : Nat) : ∀ i : Nat, i + d = l.length → Ev (fun k => antecedentlaw18_few.l0 k l (l.length : Int) (i : Int)) ((l.drop i).all (fun s => decide (s.length ≤ 10)) && decide (l.length ≤ 10)) := by
  induction d with
  | zero =>
    intro i hi
    rw [List.drop_eq_nil_of_le (by omega)]
    refine Ev.step (f := fun _ => some (decide ((l.length : Int) ≤ 10))) (fun k => ?_) ?_
    · simp only [antecedentlaw18_few.l0]
      rw [if_neg (nlt_cast (by omega))]
    · have : decide ((l.length : Int) ≤ 10) = (([] : List (List Int)).all (fun s => decide (s.length ≤ 10)) && decide (l.length ≤ 10)) := by
        simp only [List.all_nil, Bool.true_and]; congr 1; simp only [eq_iff_iff]; omega
      rw [← this]; exact Ev.now _
  | succ d ih =>
    intro i hi
    have hlt : i < l.length := by omega
    rw [List.drop_eq_getElem_cons hlt, List.all_cons]
    by_cases e : l[i].length ≤ 10
    · rw [decide_eq_true e, Bool.true_and]
      refine Ev.step (fun k => ?_) (ih (i + 1) (by omega))
      simp only [antecedentlaw18_few.l0]
      rw [if_pos (lt_cast hlt), if_pos (nn_cast _), if_pos (lt_cast hlt), rdL l i hlt, if_neg (by omega), wrap_succ i (by omega)]
    · rw [decide_eq_false e, Bool.false_and, Bool.false_and]
      refine Ev.step (f := fun _ => some false) (fun k => ?_) (Ev.now _)
      simp only [antecedentlaw18_few.l0]
      rw [if_pos (lt_cast hlt), if_pos (nn_cast _), if_pos (lt_cast hlt), rdL l i hlt, if_pos (by omega)]
theorem few_spec (l : List (List Int)) (hl : l.length ≤ 9223372036854775807) : Ev (fun k => antecedentlaw18_few.f k l) (l.all (fun s => decide (s.length ≤ 10)) && decide (l.length ≤ 10)) := few_loop l hl l.length 0 (by omega)

/-! ### Set -/
/-- Are these columns, none twice? -/
def SetOk (ar : Int) (s : List Int) : Prop := (∀ c ∈ s, 0 ≤ c ∧ c < ar) ∧ s.Nodup
instance (ar : Int) (s : List Int) : Decidable (SetOk ar s) := by unfold SetOk; infer_instance
theorem setOk_snoc (ar : Int) (s : List Int) (c : Int) : SetOk ar (s ++ [c]) ↔ SetOk ar s ∧ (0 ≤ c ∧ c < ar) ∧ c ∉ s := by
  unfold SetOk
  rw [List.nodup_append]
  constructor
  · rintro ⟨h1, h2, h3, h4⟩
    exact ⟨⟨fun x hx => h1 x (by simp [hx]), h2⟩, h1 c (by simp), fun hm => h4 c hm c (by simp) rfl⟩
  · rintro ⟨⟨h1, h2⟩, h3, h4⟩
    refine ⟨fun x hx => ?_, h2, by simp, fun x hx y hy e => ?_⟩
    · rcases List.mem_append.1 hx with hx | hx
      · exact h1 x hx
      · rw [List.mem_singleton.1 hx]; exact h3
    · rw [List.mem_singleton.1 hy] at e; exact h4 (e ▸ hx)
theorem setOk_take {ar : Int} {s : List Int} (h : SetOk ar s) (i : Nat) : SetOk ar (s.take i) := ⟨fun c hc => h.1 c (List.mem_of_mem_take hc), h.2.sublist (List.take_sublist i s)⟩
theorem take_succ_get (s : List Int) (i : Nat) (h : i < s.length) : s.take (i + 1) = s.take i ++ [s[i]] := by rw [List.take_succ_eq_append_getElem h]

theorem set_loop (ar : Int) (s : List Int) (hs : s.length < 1000000) (d : Nat) : ∀ i : Nat, i + d = s.length → SetOk ar (s.take i) → Ev (fun k => antecedentref18_Set.l0 k ar s (s.length : Int) (i : Int)) (decide (SetOk ar s)) := by
  induction d with
  | zero =>
    intro i hi hok
    rw [List.take_of_length_le (by omega)] at hok
    rw [decide_eq_true hok]
    refine Ev.step (f := fun _ => some true) (fun k => ?_) (Ev.now _)
    simp only [antecedentref18_Set.l0]
    rw [if_neg (nlt_cast (by omega))]
  | succ d ih =>
    intro i hi hok
    have hlt : i < s.length := by omega
    have hsn := setOk_snoc ar (s.take i) s[i]
    rw [← take_succ_get s i hlt] at hsn
    -- the comparison with those ahead
    have inner : ∀ (e j : Nat), j + e = i → (∀ m, m < j → nth s m ≠ s[i]) → (0 ≤ s[i] ∧ s[i] < ar) → Ev (fun k => antecedentref18_Set.l1 k ar s (i : Int) (j : Int) (s.length : Int) (i : Int)) (decide (SetOk ar s)) := by
      intro e
      induction e with
      | zero =>
        intro j hj hne hr
        obtain rfl : j = i := by omega
        refine Ev.step (fun k => ?_) (ih (j + 1) (by omega) (hsn.2 ⟨hok, hr, fun hm => ?_⟩))
        · simp only [antecedentref18_Set.l1]
          rw [if_neg (by omega), wrap_succ j (by omega)]
        · obtain ⟨m, hm, em⟩ := List.mem_iff_getElem.1 hm
          rw [List.getElem_take] at em
          rw [List.length_take] at hm
          exact hne m (by omega) (by simpa [nth, show m < s.length by omega] using em)
      | succ e ih2 =>
        intro j hj hne hr
        have hjl : j < s.length := by omega
        by_cases heq : s[j] = s[i]
        · have hno : ¬ SetOk ar s := fun h => by
            have := (List.nodup_iff_pairwise_ne.1 h.2)
            have h2 := List.pairwise_iff_getElem.1 this j i hjl hlt (by omega)
            exact h2 heq
          rw [decide_eq_false hno]
          refine Ev.step (f := fun _ => some false) (fun k => ?_) (Ev.now _)
          simp only [antecedentref18_Set.l1]
          rw [if_pos (by omega), if_pos (nn_cast _), if_pos (by omega), if_pos (nn_cast _), if_pos (by omega), rd_nat s j hjl, rd_nat s i hlt, if_pos heq]
        · refine Ev.step (fun k => ?_) (ih2 (j + 1) (by omega) (fun m hm => ?_) hr)
          · simp only [antecedentref18_Set.l1]
            rw [if_pos (by omega), if_pos (nn_cast _), if_pos (by omega), if_pos (nn_cast _), if_pos (by omega), rd_nat s j hjl, rd_nat s i hlt, if_neg heq, wrap_succ j (by omega)]
          · rcases Nat.lt_or_ge m j with h | h
            · exact hne m h
            · obtain rfl : m = j := by omega
              simpa [nth, hjl] using heq
    have hbad : ¬ (0 ≤ s[i] ∧ s[i] < ar) → ¬ SetOk ar s := fun h hh => h (hh.1 _ (List.getElem_mem hlt))
    by_cases h1 : s[i] < 0
    · rw [decide_eq_false (hbad (by omega))]
      refine Ev.step (f := fun k => antecedentref18_Set.j1 k ar s (i : Int) (s.length : Int) (i : Int) true) (fun k => ?_) (Ev.step (f := fun _ => some false) (fun k => ?_) (Ev.now _))
      · simp only [antecedentref18_Set.l0]
        rw [if_pos (lt_cast hlt), if_pos (nn_cast _), if_pos (lt_cast hlt), rd_nat s i hlt, if_pos h1]
      · simp [antecedentref18_Set.j1]
    · refine Ev.step (f := fun k => antecedentref18_Set.j1 k ar s (i : Int) (s.length : Int) (i : Int) (decide (s[i] ≥ ar))) (fun k => ?_) ?_
      · simp only [antecedentref18_Set.l0]
        rw [if_pos (lt_cast hlt), if_pos (nn_cast _), if_pos (lt_cast hlt), rd_nat s i hlt, if_neg h1]
      · by_cases h2 : s[i] ≥ ar
        · rw [decide_eq_false (hbad (by omega)), decide_eq_true h2]
          refine Ev.step (f := fun _ => some false) (fun k => ?_) (Ev.now _)
          simp [antecedentref18_Set.j1]
        · rw [decide_eq_false h2]
          refine Ev.step (fun k => ?_) (inner i 0 (by omega) (fun m hm => absurd hm (Nat.not_lt_zero _)) (by omega))
          simp [antecedentref18_Set.j1]
theorem set_spec (ar : Int) (s : List Int) (hs : s.length < 1000000) : Ev (fun k => antecedentref18_Set.f k ar s) (decide (SetOk ar s)) := set_loop ar s hs s.length 0 (by omega) ⟨by simp, by simp⟩

/-! ### mask -/
/-- A set as a number, bit by bit. -/
def maskN (s : List Int) : Nat := s.foldl (fun m c => m ||| 2 ^ c.toNat) 0
theorem maskN_snoc (s : List Int) (c : Int) : maskN (s ++ [c]) = maskN s ||| 2 ^ c.toNat := by simp [maskN]
theorem maskN_test (s : List Int) (hs : ∀ c ∈ s, 0 ≤ c) (i : Nat) : (maskN s).testBit i = true ↔ (i : Int) ∈ s := by
  rw [← List.reverse_reverse s] at hs ⊢
  generalize s.reverse = t at hs ⊢
  induction t with
  | nil => simp [maskN]
  | cons c t ih =>
    rw [List.reverse_cons] at hs ⊢
    rw [maskN_snoc, Nat.testBit_or, Nat.testBit_two_pow]
    have hc : 0 ≤ c := hs c (by simp)
    have := ih (fun x hx => hs x (by simp at hx ⊢; exact .inl hx))
    simp only [Bool.or_eq_true, this, decide_eq_true_eq, List.mem_append, List.mem_singleton]
    refine or_congr Iff.rfl ?_
    omega
theorem maskN_lt {ar : Int} {s : List Int} (har : ar ≤ 8) (hs : ∀ c ∈ s, 0 ≤ c ∧ c < ar) : maskN s < 256 := by
  refine Nat.lt_pow_two_of_testBit (n := 8) _ (fun i hi => ?_)
  rw [← Bool.not_eq_true, maskN_test s (fun c hc => (hs c hc).1)]
  intro hm
  have := (hs _ hm).2
  omega

theorem mask_loop (ar : Int) (har : ar ≤ 8) (s : List Int) (hs : s.length < 1000000) (d : Nat) : ∀ i : Nat, i + d = s.length → SetOk ar (s.take i) → Ev (fun k => chain_mask.l0 k ar (maskN (s.take i) : Nat) s (s.length : Int) (i : Int)) (if SetOk ar s then ((maskN s : Int), true) else (0, false)) := by
  induction d with
  | zero =>
    intro i hi hok
    rw [List.take_of_length_le (by omega)] at hok ⊢
    rw [if_pos hok]
    refine Ev.step (f := fun _ => some ((maskN s : Int), true)) (fun k => ?_) (Ev.now _)
    simp only [chain_mask.l0]
    rw [if_neg (nlt_cast (by omega))]
  | succ d ih =>
    intro i hi hok
    have hlt : i < s.length := by omega
    have hsn := setOk_snoc ar (s.take i) s[i]
    rw [← take_succ_get s i hlt] at hsn
    have hm := maskN_lt har hok.1
    have hbad : ¬ SetOk ar (s.take (i + 1)) → ¬ SetOk ar s := fun h hh => h (setOk_take hh _)
    have hgo : ∀ k, chain_mask.l0 (k + 1) ar (maskN (s.take i) : Nat) s (s.length : Int) (i : Int) = if s[i] < 0 then some (0, false) else if s[i] ≥ ar then some (0, false) else if 0 ≤ s[i] then if (Go.bits .and .u64 (shr .u64 (maskN (s.take i) : Nat) s[i]) 1) = 1 then some (0, false) else chain_mask.l0 k ar (Go.bits .or .u64 (maskN (s.take i) : Nat) (shl .u64 1 s[i])) s (s.length : Int) ((i + 1 : Nat) : Int) else none := by
      intro k
      simp only [chain_mask.l0]
      rw [if_pos (lt_cast hlt), if_pos (nn_cast _), if_pos (lt_cast hlt), rd_nat s i hlt, wrap_succ i (by omega)]
    by_cases h1 : s[i] < 0
    · rw [if_neg (hbad (fun h => by have := (hsn.1 h).2.1; omega))]
      exact Ev.step (f := fun _ => some (0, false)) (fun k => by rw [hgo k, if_pos h1]) (Ev.now _)
    · by_cases h2 : s[i] ≥ ar
      · rw [if_neg (hbad (fun h => by have := (hsn.1 h).2.1; omega))]
        exact Ev.step (f := fun _ => some (0, false)) (fun k => by rw [hgo k, if_neg h1, if_pos h2]) (Ev.now _)
      · obtain ⟨c, hc⟩ : ∃ c : Nat, s[i] = (c : Int) := ⟨s[i].toNat, by omega⟩
        have htest := test_bit (maskN (s.take i)) c (by omega) (by omega)
        rw [maskN_test _ (fun x hx => (hok.1 x hx).1)] at htest
        by_cases h3 : (c : Int) ∈ s.take i
        · rw [if_neg (hbad (fun h => (hsn.1 h).2.2 (by rw [hc]; exact h3)))]
          exact Ev.step (f := fun _ => some (0, false)) (fun k => by rw [hgo k, if_neg h1, if_neg h2, if_pos (by omega), hc, if_pos (htest.2 h3)]) (Ev.now _)
        · refine Ev.step (fun k => ?_) (ih (i + 1) (by omega) (hsn.2 ⟨hok, by omega, by rw [hc]; exact h3⟩))
          rw [hgo k, if_neg h1, if_neg h2, if_pos (by omega), hc, if_neg (fun h => h3 (htest.1 h)), or_bit _ c (by omega) (by omega), take_succ_get s i hlt, maskN_snoc, hc, Int.toNat_natCast]
theorem mask_spec (ar : Int) (har : ar ≤ 8) (s : List Int) (hs : s.length < 1000000) : Ev (fun k => chain_mask.f k ar s) (if SetOk ar s then ((maskN s : Int), true) else (0, false)) := mask_loop ar har s hs s.length 0 (by omega) ⟨by simp, by simp⟩
end Go.Proofs.Ytliocmjeglbpiaa.Ps
