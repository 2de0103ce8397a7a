/- FoldOrder: the plain law. -/
import Derived.Test.YtolefpeiceiocaaPs4
import Derived.Test.YtolefpeiceiocaaPref
namespace Go.Proofs.Ytolefpeiceiocaa.Ps
open Go Go.RowKit Go.Proofs.YtolefpeiceiocaaW.PrintWords Go.Proofs.YtolefpeiceiocaaW.PrintLast
set_option linter.unusedVariables false

theorem of_same (kind : Int) {l m : List Sv} (h : ∀ x, x ∈ l ↔ x ∈ m) : ofP kind l = ofP kind m := by
  unfold ofP setL
  rw [setC_congr cmpS_ord h]
theorem vals_same (h : List Sv) {l m : List (List Sv)} (hm : ∀ t, t ∈ l ↔ t ∈ m) : ∀ x, x ∈ valsT h l ↔ x ∈ valsT h m := by
  intro x
  unfold valsT
  simp only [List.mem_map, List.mem_filter, hm]
theorem go_same (kind : Int) {l m : List (List Sv)} (hm : ∀ t, t ∈ l ↔ t ∈ m) : ∀ hs out, goP kind l hs out = goP kind m hs out
  | [], _ => rfl
  | h :: hs, out => by
    rw [goP, goP, of_same kind (vals_same h hm), go_same kind hm hs]
theorem set_same {l m : List (List Sv)} (hm : ∀ t, t ∈ l ↔ t ∈ m) : setT (l.map List.dropLast) = setT (m.map List.dropLast) := setC_congr lexS_ord (fun z => by simp only [List.mem_map, hm])
/-- Of lists of one length, or not. -/
theorem uneven_iff (l : List (List Sv)) : unevenP l = true ↔ ∃ t ∈ l, t.length = 0 ∨ ∃ u ∈ l, t.length ≠ u.length := by
  unfold unevenP
  rw [List.any_eq_true]
  constructor
  · rintro ⟨t, ht, h⟩
    refine ⟨t, ht, ?_⟩
    rcases of_decide_eq_true h with h | h
    · exact .inl h
    · obtain ⟨x, r, e⟩ := List.exists_cons_of_ne_nil (List.ne_nil_of_mem ht)
      exact .inr ⟨x, by rw [e]; simp, by rw [e] at h; exact h⟩
  · rintro ⟨t, ht, h⟩
    rcases h with h | ⟨u, hu, h⟩
    · exact ⟨t, ht, decide_eq_true (.inl h)⟩
    · by_cases h2 : t.length = (l.headD []).length
      · exact ⟨u, hu, decide_eq_true (.inr (fun e => h (by omega)))⟩
      · exact ⟨t, ht, decide_eq_true (.inr h2)⟩
theorem groups_same (kind : Int) {l m : List (List Sv)} (hm : ∀ t, t ∈ l ↔ t ∈ m) : groupsP kind l = groupsP kind m := by
  have hu : unevenP l = unevenP m := by
    rw [Bool.eq_iff_iff, uneven_iff, uneven_iff]
    simp only [hm]
  unfold groupsP
  rw [hu, set_same hm, go_same kind hm]

theorem same_loop (l : List (List Sv)) (h1 : l.length ≤ maxLen) (B : Nat) (h2 : ∀ y ∈ l, y.length ≤ B) (hB : B ≤ maxLen) : ∀ (m k i : Nat), i + m = l.length → m + (2 * B + 2) < k → antecedentref04_Same.l0 k l l (l.length : Int) (i : Int) = some true := by
  intro m
  induction m with
  | zero =>
    intro k i hi hk
    obtain ⟨k, rfl⟩ : ∃ k', k = k' + 1 := ⟨k - 1, by omega⟩
    unfold antecedentref04_Same.l0
    rw [if_neg (by omega)]
  | succ m ih =>
    intro k i hi hk
    obtain ⟨k, rfl⟩ : ∃ k', k = k' + 1 := ⟨k - 1, by omega⟩
    have hil : i < l.length := by omega
    have hb := h2 l[i] (List.getElem_mem hil)
    unfold antecedentref04_Same.l0
    rw [if_pos (by omega), if_pos (by omega), if_pos (by omega), if_pos (by omega), rd_row hil, Order_eq _ _ (by omega) k (by omega), Option.bind_some, if_pos (lexS_self _), wrap_len hil h1, ih k (i + 1) (by omega) (by omega)]
theorem same_self (l : List (List Sv)) (h1 : l.length ≤ maxLen) (B : Nat) (h2 : ∀ y ∈ l, y.length ≤ B) (hB : B ≤ maxLen) (k : Nat) (hk : l.length + (2 * B + 2) < k) : antecedentref04_Same.f k l l = some true := by
  unfold antecedentref04_Same.f
  rw [if_pos rfl]
  exact same_loop l h1 B h2 hB l.length k 0 (by omega) hk

theorem groups_in {kind : Int} (hk : inI kind) {l : List (List Sv)} (h : okLL l) : fold_Groups.f kind l = some (groupsP kind l) := by
  unfold fold_Groups.f
  rw [if_pos ⟨h, hk⟩]
theorem turn_loop (kind : Int) (hkind : inI kind) (l : List Sv) (hl : okL l) (h40 : l.length ≤ 40) (m : List (List Sv)) (hm : okLL m) (hm1 : m.length ≤ 40) (hm2 : ∀ y ∈ m, y.length ≤ 10) (other : List Sv) (ho : other.length ≤ 40) (hot : ∀ x ∈ other, x ∈ l) :
    ∀ (q k i : Nat) (tn : List (List Sv)), i + q = m.length → q + 200 < k → tn.length = i → (∀ t ∈ tn, t ∈ m) → antecedentlaw20_FoldOrder.l1 k kind l m other tn (m.length : Int) (i : Int) = some true := by
  intro q
  induction q with
  | zero =>
    intro k i tn hi hk ht htn
    obtain ⟨k, rfl⟩ : ∃ k', k = k' + 1 := ⟨k - 1, by omega⟩
    unfold antecedentlaw20_FoldOrder.l1
    have hok : okL (other ++ l) := by
      refine ⟨by rw [List.length_append]; omega, fun x hx => ?_⟩
      rcases List.mem_append.1 hx with hx | hx
      · exact hl.2 x (hot x hx)
      · exact hl.2 x hx
    have hok2 : okLL (tn ++ m) := by
      refine ⟨by rw [List.length_append]; omega, fun x hx => ?_⟩
      rcases List.mem_append.1 hx with hx | hx
      · exact hm.2 x (htn x hx)
      · exact hm.2 x hx
    have e1 : ofP kind (other ++ l) = ofP kind l := of_same kind (fun x => by
      rw [List.mem_append]
      exact ⟨fun h => h.elim (hot x) id, .inr⟩)
    have e2 : groupsP kind (tn ++ m) = groupsP kind m := groups_same kind (fun x => by
      rw [List.mem_append]
      exact ⟨fun h => h.elim (htn x) id, .inr⟩)
    have hg := groups_len (kind := kind) hm1 hm2
    rw [if_neg (by omega), Of_eq kind l hkind hl k (by omega), Option.bind_some, if_pos (by omega), Of_eq kind _ hkind hok k (by rw [List.length_append]; omega), Option.bind_some, groups_in hkind hm, Option.bind_some, if_pos (by omega), groups_in hkind hok2, Option.bind_some, e1, e2, if_pos (by simp), if_pos rfl, same_self _ (by have := hg.1; unfold maxLen; omega) 10 hg.2 (by unfold maxLen; omega) k (by have := hg.1; omega), Option.bind_some, if_pos rfl]
    simp
  | succ q ih =>
    intro k i tn hi hk ht htn
    obtain ⟨k, rfl⟩ : ∃ k', k = k' + 1 := ⟨k - 1, by omega⟩
    unfold antecedentlaw20_FoldOrder.l1
    have e : wrap64 ((wrap64 ((m.length : Int) - 1)) - (i : Int)) = ((m.length - 1 - i : Nat) : Int) := by unfold wrap64; omega
    have hj : m.length - 1 - i < m.length := by omega
    rw [if_pos (by omega), e, if_pos (by omega), if_pos (by omega), if_pos (by omega), rd_row hj, wrap_small (by omega)]
    refine ih k (i + 1) _ (by omega) (by omega) (by simp; omega) (fun t h => ?_)
    rcases List.mem_append.1 h with h | h
    · exact htn t h
    · rw [List.mem_singleton.1 h]; exact List.getElem_mem hj
theorem other_loop (kind : Int) (hkind : inI kind) (l : List Sv) (hl : okL l) (h40 : l.length ≤ 40) (m : List (List Sv)) (hm : okLL m) (hm1 : m.length ≤ 40) (hm2 : ∀ y ∈ m, y.length ≤ 10) (b : Int) (hb : 0 ≤ b ∧ b ≤ 255) :
    ∀ (q k i : Nat) (other : List Sv), i + q = l.length → q + m.length + 210 < k → other.length = i → (∀ x ∈ other, x ∈ l) → antecedentlaw20_FoldOrder.l0 k kind l m b other (l.length : Int) (i : Int) = some true := by
  intro q
  induction q with
  | zero =>
    intro k i other hi hk ho hot
    obtain ⟨k, rfl⟩ : ∃ k', k = k' + 1 := ⟨k - 1, by omega⟩
    unfold antecedentlaw20_FoldOrder.l0
    rw [if_neg (by omega)]
    exact turn_loop kind hkind l hl h40 m hm hm1 hm2 other (by omega) hot m.length k 0 [] (by omega) (by omega) rfl (fun t h => by simp at h)
  | succ q ih =>
    intro k i other hi hk ho hot
    obtain ⟨k, rfl⟩ : ∃ k', k = k' + 1 := ⟨k - 1, by omega⟩
    unfold antecedentlaw20_FoldOrder.l0
    have e : Int.tmod (wrap64 ((i : Int) + wrap64 b)) (l.length : Int) = (((i + b.toNat) % l.length : Nat) : Int) := by
      have e1 : wrap64 ((i : Int) + wrap64 b) = ((i + b.toNat : Nat) : Int) := by unfold wrap64; omega
      rw [e1, Int.tmod_eq_emod_of_nonneg (by omega), Int.natCast_emod]
    have hj : (i + b.toNat) % l.length < l.length := Nat.mod_lt _ (by omega)
    rw [if_pos (by omega), if_neg (by omega), e, if_pos (by omega), if_pos (by omega), if_pos (by omega), rd_get hj, wrap_small (by omega)]
    refine ih k (i + 1) _ (by omega) (by omega) (by simp; omega) (fun t h => ?_)
    rcases List.mem_append.1 h with h | h
    · exact hot t h
    · rw [List.mem_singleton.1 h]; exact List.getElem_mem hj
theorem FoldOrder_plain (kind : Int) (l : List Sv) (m : List (List Sv)) (b : Int) (hkind : inI kind) (hl : l.length ≤ maxLen ∧ ∀ x ∈ l, wfV x) (hm : m.length ≤ maxLen ∧ ∀ y ∈ m, y.length ≤ maxLen ∧ ∀ x ∈ y, wfV x) (hb : 0 ≤ b ∧ b ≤ 255) : ∃ k, antecedentlaw20_FoldOrder.f k kind l m b = some true := by
  refine ⟨m.length + 400, ?_⟩
  have hj : ∀ k, 4 ≤ k → antecedentlaw20_FoldOrder.j0 (k + 1) kind l m b true = some true := fun k hk => by
    rw [antecedentlaw20_FoldOrder.j0, if_pos rfl, awake_eq k hk, Option.bind_some, if_pos rfl]
  unfold antecedentlaw20_FoldOrder.f
  rw [awake_eq _ (by omega), Option.bind_some, if_pos rfl]
  by_cases h : (l.length : Int) > 40
  · rw [if_pos h, hj _ (by omega)]
  · rw [if_neg h, few_eq m hm.1 _ (by omega), Option.bind_some]
    by_cases hf : fewP m = true
    · obtain ⟨g1, g2, g3⟩ := few_ok hf (fun y hy => (hm.2 y hy).2)
      rw [hf, antecedentlaw20_FoldOrder.j0, if_neg (by decide)]
      exact other_loop kind hkind l ⟨by omega, fun x hx => wfV_ok (hl.2 x hx)⟩ (by omega) m g3 g1 g2 b hb l.length _ 0 [] (by omega) (by omega) rfl (fun t h => by simp at h)
    · rw [Bool.eq_false_iff.2 hf]
      exact hj _ (by omega)
end Go.Proofs.Ytolefpeiceiocaa.Ps
