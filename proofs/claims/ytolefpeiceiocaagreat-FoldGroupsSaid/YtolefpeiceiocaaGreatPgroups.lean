/- WHAT THE REFERENCES' Compare, Order AND FEW COMPUTE: plain, no program in sight. No condition but lengths that Go may have. -/
import Derived.Test.YtolefpeiceiocaaGreatPs5
import Derived.Test.YtolefpeiceiocaaGreatGgroups
import Derived.Test.YtolefpeiceiocaaGreatPaw
import Derived.Test.YtolefpeiceiocaaGreatArgs
import Derived.Test.YtolefpeiceiocaaGreatPsFG
namespace Go.Proofs.YtolefpeiceiocaaGreat.Ps
open Go Go.RowKit Go.Proofs.YtolefpeiceiocaaGreatW.PrintWords Go.Proofs.YtolefpeiceiocaaGreatW.PrintLast
set_option linter.unusedVariables false

theorem wrap_len {i n : Nat} (h : i < n) (hn : n ≤ maxLen) : wrap64 ((i : Int) + 1) = ((i + 1 : Nat) : Int) := by unfold wrap64; unfold maxLen at hn; omega
theorem order_loop (x y : List Sv) (hx : x.length ≤ maxLen) : ∀ (m k i : Nat), i + m = x.length → i ≤ y.length → 2 * m + 2 ≤ k → antecedentref03_Order.l0 k x y (i : Int) = some (lexS (x.drop i) (y.drop i)) := by
  intro m
  induction m with
  | zero =>
    intro k i hi hy hk
    obtain ⟨k, rfl⟩ : ∃ k', k = k' + 2 := ⟨k - 2, by omega⟩
    unfold antecedentref03_Order.l0
    rw [if_neg (by omega)]
    unfold antecedentref03_Order.j1
    rw [if_neg (by decide), List.drop_eq_nil_of_le (show x.length ≤ i by omega)]
    by_cases h : i < y.length
    · rw [if_pos (by omega), List.drop_eq_getElem_cons h]; rfl
    · rw [if_neg (by omega), List.drop_eq_nil_of_le (by omega)]
      rw [if_neg (by omega)]; rfl
  | succ m ih =>
    intro k i hi hy hk
    obtain ⟨k, rfl⟩ : ∃ k', k = k' + 2 := ⟨k - 2, by omega⟩
    have hil : i < x.length := by omega
    unfold antecedentref03_Order.l0
    rw [if_pos (by omega)]
    unfold antecedentref03_Order.j1
    rw [List.drop_eq_getElem_cons hil]
    by_cases h : i < y.length
    · rw [if_pos (by simp; omega), if_pos (by omega), if_pos (by omega), if_pos (by omega), rd_get hil, rd_get h, rcmp_eq, Option.bind_some, List.drop_eq_getElem_cons h, lexS]
      by_cases hc : cmpS x[i] y[i] = 0
      · rw [if_pos hc, if_pos hc, wrap_len hil hx, ih k (i + 1) (by omega) (by omega) (by omega)]
      · rw [if_neg hc, if_neg hc]
    · rw [if_neg (by simp; omega), if_neg (by omega), if_pos (by omega), List.drop_eq_nil_of_le (show y.length ≤ i by omega)]; rfl
theorem Order_eq (x y : List Sv) (hx : x.length ≤ maxLen) (k : Nat) (hk : 2 * x.length + 2 ≤ k) : antecedentref03_Order.f k x y = some (lexS x y) := by
  have h := order_loop x y hx x.length k 0 (by omega) (by omega) (by omega)
  simpa [antecedentref03_Order.f] using h
theorem rd_row {l : List (List Sv)} {i : Nat} (h : i < l.length) : rd_L3 l (i : Int) = l[i] := by
  unfold rd_L3
  rw [List.getD_eq_getElem?_getD, Int.toNat_natCast, List.getElem?_eq_getElem h]; rfl

/-- Is a list of tuples of a size that is looked at? -/
def fewP (l : List (List Sv)) : Bool := l.all (fun t => decide (t.length ≤ 10)) && decide (l.length ≤ 40)
theorem few_loop (l : List (List Sv)) (hlen : l.length ≤ maxLen) : ∀ (m k i : Nat), i + m = l.length → m < k → antecedentlaw20_few.l0 k l (l.length : Int) (i : Int) = some ((l.drop i).all (fun t => decide (t.length ≤ 10)) && decide (l.length ≤ 40)) := by
  intro m
  induction m with
  | zero =>
    intro k i hi hk
    obtain ⟨k, rfl⟩ : ∃ k', k = k' + 1 := ⟨k - 1, by omega⟩
    unfold antecedentlaw20_few.l0
    rw [if_neg (by omega), List.drop_eq_nil_of_le (by omega), List.all_nil, Bool.true_and]
    congr 1
    rw [Bool.eq_iff_iff, decide_eq_true_iff, decide_eq_true_iff]
    omega
  | succ m ih =>
    intro k i hi hk
    obtain ⟨k, rfl⟩ : ∃ k', k = k' + 1 := ⟨k - 1, by omega⟩
    have hil : i < l.length := by omega
    unfold antecedentlaw20_few.l0
    rw [if_pos (by omega), if_pos (by omega), if_pos (by omega), rd_row hil, List.drop_eq_getElem_cons hil, List.all_cons]
    by_cases h : l[i].length ≤ 10
    · rw [if_neg (by omega), wrap_len hil hlen, ih k (i + 1) (by omega) (by omega), decide_eq_true h, Bool.true_and]
    · rw [if_pos (by omega), decide_eq_false h, Bool.false_and, Bool.false_and]
theorem few_eq (l : List (List Sv)) (hlen : l.length ≤ maxLen) (k : Nat) (hk : l.length < k) : antecedentlaw20_few.f k l = some (fewP l) := by
  have h := few_loop l hlen l.length k 0 (by omega) hk
  simpa [antecedentlaw20_few.f, fewP] using h
theorem few_ok {l : List (List Sv)} (h : fewP l = true) (hw : ∀ y ∈ l, ∀ x ∈ y, wfV x) : l.length ≤ 40 ∧ (∀ y ∈ l, y.length ≤ 10) ∧ okLL l := by
  unfold fewP at h
  rw [Bool.and_eq_true, List.all_eq_true] at h
  have h2 : l.length ≤ 40 := of_decide_eq_true h.2
  have h3 : ∀ y ∈ l, y.length ≤ 10 := fun y hy => of_decide_eq_true (h.1 y hy)
  exact ⟨h2, h3, by omega, fun y hy => ⟨by have := h3 y hy; omega, fun x hx => wfV_ok (hw y hy x hx)⟩⟩

/-- The rows of what is grouped are not long. -/
theorem go_len {kind : Int} {l : List (List Sv)} {B : Nat} : ∀ (hs out : List (List Sv)), (∀ h ∈ hs, h.length < B) → (∀ h ∈ out, h.length ≤ B) →
    (goP kind l hs out).1.length ≤ hs.length + out.length ∧ ∀ h ∈ (goP kind l hs out).1, h.length ≤ B
  | [], out, _, h2 => by rw [goP]; exact ⟨by simp, h2⟩
  | h :: hs, out, h1, h2 => by
    rw [goP]
    split
    · exact ⟨by simp, fun x hx => by simp at hx⟩
    · have ih := go_len (kind := kind) (l := l) (B := B) hs (out ++ [h ++ [(ofP kind (valsT h l)).1]]) (fun x hx => h1 x (by simp [hx])) (fun x hx => by
        rcases List.mem_append.1 hx with hx | hx
        · exact h2 x hx
        · rw [List.mem_singleton.1 hx, List.length_append]
          have := h1 h (by simp)
          simp only [List.length_cons, List.length_nil]
          omega)
      refine ⟨?_, ih.2⟩
      have := ih.1
      rw [List.length_append] at this
      simp at this ⊢
      omega
theorem groups_len {kind : Int} {l : List (List Sv)} (h1 : l.length ≤ 40) (h2 : ∀ y ∈ l, y.length ≤ 10) : (groupsP kind l).1.length ≤ 40 ∧ ∀ y ∈ (groupsP kind l).1, y.length ≤ 10 := by
  unfold groupsP
  split
  · exact ⟨by simp, fun x hx => by simp at hx⟩
  · rename_i hu
    have hlen := setC_length (c := lexS) (l.map List.dropLast)
    have := go_len (kind := kind) (l := l) (B := 10) (setT (l.map List.dropLast)) [] (fun h hh => by
      unfold setT at hh
      rw [mem_setC lexS_ord, List.mem_map] at hh
      obtain ⟨t, ht, rfl⟩ := hh
      have h3 := h2 t ht
      have h4 := even_len (by simpa using hu) t ht
      rw [List.length_dropLast]
      omega) (fun x hx => by simp at hx)
    refine ⟨?_, this.2⟩
    have h5 := this.1
    unfold setT at h5
    rw [List.length_map] at hlen
    unfold setT
    simp at h5
    omega
theorem same_loop (l : List (List Sv)) (h1 : l.length ≤ maxLen) (B : Nat) (h2 : ∀ y ∈ l, y.length ≤ B) (hB : B ≤ maxLen) : ∀ (m k i : Nat), i + m = l.length → m + (2 * B + 2) < k → antecedentref04_Same.l0 k l l (l.length : Int) (i : Int) = some true := by
  intro m
  induction m with
  | zero =>
    intro k i hi hk
    obtain ⟨k, rfl⟩ : ∃ k', k = k' + 1 := ⟨k - 1, by omega⟩
    unfold antecedentref04_Same.l0
    rw [if_neg (by omega)]
  | succ m ih =>
    intro k i hi hk
    obtain ⟨k, rfl⟩ : ∃ k', k = k' + 1 := ⟨k - 1, by omega⟩
    have hil : i < l.length := by omega
    have hb := h2 l[i] (List.getElem_mem hil)
    unfold antecedentref04_Same.l0
    rw [if_pos (by omega), if_pos (by omega), if_pos (by omega), if_pos (by omega), rd_row hil, Order_eq _ _ (by omega) k (by omega), Option.bind_some, if_pos (lexS_self _), wrap_len hil h1, ih k (i + 1) (by omega) (by omega)]
theorem same_self (l : List (List Sv)) (h1 : l.length ≤ maxLen) (B : Nat) (h2 : ∀ y ∈ l, y.length ≤ B) (hB : B ≤ maxLen) (k : Nat) (hk : l.length + (2 * B + 2) < k) : antecedentref04_Same.f k l l = some true := by
  unfold antecedentref04_Same.f
  rw [if_pos rfl]
  exact same_loop l h1 B h2 hB l.length k 0 (by omega) hk

theorem groups_in {kind : Int} (hk : inI kind) {l : List (List Sv)} (h : okLL l) : fold_Groups.f kind l = some (groupsP kind l) := by
  unfold fold_Groups.f
  rw [if_pos ⟨h, hk⟩]
end Go.Proofs.YtolefpeiceiocaaGreat.Ps
/- FoldGroups: the plain law. -/
namespace Go.Proofs.YtolefpeiceiocaaGreat.Ps
open Go Go.RowKit Go.Proofs.YtolefpeiceiocaaGreatW.PrintWords Go.Proofs.YtolefpeiceiocaaGreatW.PrintLast
set_option linter.unusedVariables false

/-- A tuple put into its place. -/
theorem ins_setT {S l : List (List Sv)} {x : List Sv} {a : Nat} (hS : S = setT l) (ha : a ≤ S.length) (h1 : ∀ j (h : j < S.length), j < a → lexS S[j] x < 0) (h2 : ∀ h : a < S.length, lexS x S[a] < 0) : (S.take a ++ [x]) ++ S.drop a = setT (l ++ [x]) := by
  have hsort : S.Pairwise (fun x y => lexS x y < 0) := by rw [hS]; exact setC_sorted lexS_ord l
  have hlow : ∀ y ∈ S.take a, lexS y x < 0 := fun y hy => by
    obtain ⟨j, hj, rfl⟩ := List.mem_iff_getElem.1 hy
    rw [List.length_take] at hj
    rw [List.getElem_take]
    exact h1 j (by omega) (by omega)
  have hhigh : ∀ y ∈ S.drop a, lexS x y < 0 := fun y hy => by
    obtain ⟨j, hj, rfl⟩ := List.mem_iff_getElem.1 hy
    rw [List.length_drop] at hj
    rw [List.getElem_drop]
    rcases Nat.eq_zero_or_pos j with rfl | h0
    · exact h2 (by omega)
    · exact lexS_ord.trans (h2 (by omega)) (List.pairwise_iff_getElem.1 hsort a (a + j) (by omega) (by omega) (by omega))
  have hcross : ∀ y ∈ S.take a, ∀ z ∈ S.drop a, lexS y z < 0 := fun y hy z hz => lexS_ord.trans (hlow y hy) (hhigh z hz)
  refine sorted_one lexS_ord ?_ (setC_sorted lexS_ord _) (fun z => ?_)
  · rw [List.pairwise_append, List.pairwise_append]
    refine ⟨⟨hsort.sublist (List.take_sublist a S), List.pairwise_singleton .., fun y hy z hz => ?_⟩, hsort.sublist (List.drop_sublist a S), fun y hy z hz => ?_⟩
    · rw [List.mem_singleton.1 hz]; exact hlow y hy
    · rcases List.mem_append.1 hy with hy | hy
      · exact hcross y hy z hz
      · rw [List.mem_singleton.1 hy]; exact hhigh z hz
  · show _ ↔ z ∈ setC lexS (l ++ [x])
    rw [mem_setC lexS_ord, List.mem_append, List.mem_append, List.mem_append, List.mem_singleton]
    have hz : z ∈ S ↔ z ∈ l := by rw [hS]; exact mem_setC lexS_ord
    have hs : z ∈ S ↔ z ∈ S.take a ∨ z ∈ S.drop a := by
      conv => lhs; rw [← List.take_append_drop a S]
      exact List.mem_append
    rw [← hz, hs]
    constructor
    · rintro ((h | h) | h)
      · exact .inl (.inl h)
      · exact .inr h
      · exact .inl (.inr h)
    · rintro ((h | h) | h)
      · exact .inl (.inl h)
      · exact .inr h
      · exact .inl (.inr h)
theorem setT_in {l : List (List Sv)} {x : List Sv} (h : x ∈ l) : setT (l ++ [x]) = setT l := setC_congr lexS_ord (fun z => by
  rw [List.mem_append, List.mem_singleton]
  constructor
  · rintro (h1 | rfl)
    · exact h1
    · exact h
  · exact .inl)

/-- What the loops are about: few tuples, all of one length. -/
structure GOk (kind : Int) (l : List (List Sv)) : Prop where
  hk : inI kind
  l40 : l.length ≤ 40
  r10 : ∀ t ∈ l, t.length ≤ 10
  ok : okLL l
theorem valsT_snoc {h : List Sv} {l : List (List Sv)} {t : List Sv} : valsT h (l ++ [t]) = if lexS t.dropLast h = 0 then valsT h l ++ [t.getLastD z25] else valsT h l := by
  unfold valsT
  rw [List.filter_append, List.map_append]
  by_cases hc : lexS t.dropLast h = 0
  · rw [if_pos hc]; simp [hc]
  · rw [if_neg hc]; simp [hc]
theorem valsT_len {h : List Sv} {l : List (List Sv)} : (valsT h l).length ≤ l.length := by
  unfold valsT
  rw [List.length_map]
  exact List.length_filter_le _ _
theorem mem_valsT {h : List Sv} {l : List (List Sv)} {x : Sv} (hx : x ∈ valsT h l) : ∃ t ∈ l, x = t.getLastD z25 := by
  unfold valsT at hx
  obtain ⟨t, ht, rfl⟩ := List.mem_map.1 hx
  exact ⟨t, (List.mem_filter.1 ht).1, rfl⟩
theorem take_last {t : List Sv} : t.take (t.length - 1) = t.dropLast := by rw [List.dropLast_eq_take]
theorem last_rd {t : List Sv} (h : 0 < t.length) : rd_T25 t ((t.length - 1 : Nat) : Int) = t.getLastD z25 := by
  rw [rd_get (by omega), List.getLastD_eq_getLast?, List.getLast?_eq_getElem?, List.getElem?_eq_getElem (by omega)]
  rfl
theorem seg_one {α : Type} {hs : List α} {i : Nat} (hi : i < hs.length) : (hs.take (i + 1)).drop i = [hs[i]] := by
  rw [List.take_succ_eq_append_getElem hi, List.drop_append_of_le_length (by rw [List.length_take]; omega), List.drop_eq_nil_of_le (by rw [List.length_take]; omega)]
  rfl
theorem same_one (x y : List Sv) (hx : x.length ≤ 10) (k : Nat) (hk : 40 ≤ k) : antecedentref04_Same.f k [x] [y] = some (decide (lexS x y = 0)) := by
  obtain ⟨k, rfl⟩ : ∃ k', k = k' + 2 := ⟨k - 2, by omega⟩
  unfold antecedentref04_Same.f
  rw [if_pos (show (([x] : List (List Sv)).length : Int) = (([y] : List (List Sv)).length : Int) from rfl), antecedentref04_Same.l0, if_pos (show (0 : Int) < (([x] : List (List Sv)).length : Int) by simp), if_pos (by decide), if_pos (show (0 : Int) < (([x] : List (List Sv)).length : Int) by simp), if_pos (show (0 : Int) < (([y] : List (List Sv)).length : Int) by simp)]
  have e1 : rd_L3 [x] 0 = x := rfl
  have e2 : rd_L3 [y] 0 = y := rfl
  rw [e1, e2, Order_eq x y (by unfold maxLen; omega) (k + 1) (by omega), Option.bind_some]
  by_cases h : lexS x y = 0
  · rw [if_pos h, antecedentref04_Same.l0, if_neg (show ¬ (wrap64 (0 + 1) < (([x] : List (List Sv)).length : Int)) by unfold wrap64; simp), decide_eq_true h]
  · rw [if_neg h, decide_eq_false h]

theorem gl4 {kind : Int} {l : List (List Sv)} (G : GOk kind l) (hev : unevenP l = false) (hs out : List (List Sv)) (i : Nat) (hi : i < hs.length) (hs40 : hs.length ≤ 40) (h10 : ∀ h ∈ hs, h.length ≤ 10) (ho : out.length ≤ 40) (r : List (List Sv) × Int) (B : Nat) (hB : 40 ≤ B)
    (hr : ∀ k, B ≤ k → (if (ofP kind (valsT hs[i] l)).2 = 0 then antecedentref20_Groups.l3 k kind l hs (out ++ [hs[i] ++ [(ofP kind (valsT hs[i] l)).1]]) (hs.length : Int) ((i + 1 : Nat) : Int) else some ([], (ofP kind (valsT hs[i] l)).2)) = some r) :
    ∀ (m k j : Nat), j + m = l.length → m + 1 + B ≤ k → antecedentref20_Groups.l4 k kind l hs out (i : Int) (valsT hs[i] (l.take j)) (hs.length : Int) (i : Int) (l.length : Int) (j : Int) = some r := by
  have h40 := G.l40
  intro m
  induction m with
  | zero =>
    intro k j hj hk
    obtain ⟨k, rfl⟩ : ∃ k', k = k' + 1 := ⟨k - 1, by omega⟩
    have hv := valsT_len (h := hs[i]) (l := l)
    have hokv : okL (valsT hs[i] l) := ⟨by omega, fun x hx => by
      obtain ⟨t, ht, rfl⟩ := mem_valsT hx
      have ht0 := even_len hev t ht
      have hne : t ≠ [] := by intro e; subst e; simp at ht0
      rw [List.getLastD_eq_getLast?, List.getLast?_eq_some_getLast hne]
      exact (G.ok.2 t ht).2 _ (List.getLast_mem hne)⟩
    have e1 : antecedentref20_Of.f kind (valsT hs[i] l) = some ((ofP kind (valsT hs[i] l)).1.f0, (ofP kind (valsT hs[i] l)).1.f1, (ofP kind (valsT hs[i] l)).1.f2, (ofP kind (valsT hs[i] l)).2) := by unfold antecedentref20_Of.f; rw [if_pos ⟨hokv, G.hk⟩]; rfl
    rw [antecedentref20_Groups.l4, if_neg (by omega), List.take_of_length_le (by omega), e1, Option.bind_some]
    have h := hr k (by omega)
    by_cases h0 : (ofP kind (valsT hs[i] l)).2 = 0
    · rw [if_pos h0] at h ⊢
      have hl := h10 hs[i] (List.getElem_mem hi)
      rw [Option.bind_some, if_pos (by omega), if_pos (by omega), rd_row hi, if_pos (by simp; omega), Option.bind_some, Option.bind_some, if_pos (by simp; omega), Option.bind_some, if_pos (by simp; omega), wrap_small (i := i) (by omega)]
      exact h
    · rw [if_neg h0] at h ⊢
      exact h
  | succ m ih =>
    intro k j hj hk
    obtain ⟨k, rfl⟩ : ∃ k', k = k' + 1 := ⟨k - 1, by omega⟩
    have hjl : j < l.length := by omega
    have ht := List.getElem_mem hjl
    have ht0 := even_len hev l[j] ht
    have ht1 := G.r10 l[j] ht
    have h := ih k (j + 1) (by omega) (by omega)
    rw [List.take_succ_eq_append_getElem hjl, valsT_snoc] at h
    have ew : wrap64 ((l[j].length : Int) - 1) = ((l[j].length - 1 : Nat) : Int) := by unfold wrap64; omega
    rw [antecedentref20_Groups.l4, if_pos (by omega), if_pos (by omega), if_pos (by omega), rd_row hjl, ew, if_pos (by omega), if_pos (by omega), wrap_small (i := i) (by omega), if_pos (by omega), if_pos (by omega), if_pos (by omega)]
    have e2 : (hs.take ((i + 1 : Nat) : Int).toNat).drop (i : Int).toNat = [hs[i]] := by
      rw [Int.toNat_natCast, Int.toNat_natCast]
      exact seg_one hi
    rw [e2, Int.toNat_natCast, take_last, same_one _ _ (by rw [List.length_dropLast]; omega) k (by omega), Option.bind_some, wrap_small (i := j) (by omega)]
    by_cases hc : lexS l[j].dropLast hs[i] = 0
    · rw [if_pos hc] at h
      have hv := valsT_len (h := hs[i]) (l := l.take j)
      rw [List.length_take] at hv
      rw [if_pos (decide_eq_true hc), if_pos (by omega), Option.bind_some, if_pos (by simp; omega), last_rd (by omega)]
      exact h
    · rw [if_neg hc] at h
      rw [if_neg (by simp [hc])]
      exact h
theorem gl3 {kind : Int} {l : List (List Sv)} (G : GOk kind l) (hev : unevenP l = false) (hs : List (List Sv)) (hs40 : hs.length ≤ 40) (h10 : ∀ h ∈ hs, h.length ≤ 10) :
    ∀ (m k i : Nat) (out : List (List Sv)), i + m = hs.length → (l.length + 3) * m + 50 ≤ k → out.length ≤ i → antecedentref20_Groups.l3 k kind l hs out (hs.length : Int) (i : Int) = some (goP kind l (hs.drop i) out) := by
  have h40 := G.l40
  intro m
  induction m with
  | zero =>
    intro k i out hi hk ho
    obtain ⟨k, rfl⟩ : ∃ k', k = k' + 1 := ⟨k - 1, by omega⟩
    rw [antecedentref20_Groups.l3, if_neg (by omega), List.drop_eq_nil_of_le (by omega), goP]
  | succ m ih =>
    intro k i out hi hk ho
    rw [Nat.mul_succ] at hk
    generalize hB : (l.length + 3) * m = B at ih hk
    obtain ⟨k, rfl⟩ : ∃ k', k = k' + 1 := ⟨k - 1, by omega⟩
    have hil : i < hs.length := by omega
    rw [antecedentref20_Groups.l3, if_pos (by omega), List.drop_eq_getElem_cons hil, goP]
    refine gl4 G hev hs out i hil hs40 h10 (by omega) _ (B + 50) (by omega) (fun k' hk' => ?_) l.length k 0 (by omega) (by omega)
    by_cases h0 : (ofP kind (valsT hs[i] l)).2 = 0
    · rw [if_pos h0, if_neg (by simp [h0]), ih k' (i + 1) _ (by omega) (by omega) (by simp; omega)]
    · rw [if_neg h0, if_pos h0]
theorem heads_ok {l : List (List Sv)} (h40 : l.length ≤ 40) (h10 : ∀ t ∈ l, t.length ≤ 10) : (setT (l.map List.dropLast)).length ≤ 40 ∧ ∀ h ∈ setT (l.map List.dropLast), h.length ≤ 10 := by
  refine ⟨?_, fun h hh => ?_⟩
  · have := setC_length (c := lexS) (l.map List.dropLast)
    rw [List.length_map] at this
    unfold setT
    omega
  · unfold setT at hh
    rw [mem_setC lexS_ord, List.mem_map] at hh
    obtain ⟨t, ht, rfl⟩ := hh
    have := h10 t ht
    rw [List.length_dropLast]
    omega
theorem gl1 {kind : Int} {l : List (List Sv)} (G : GOk kind l) (hev : unevenP l = false) :
    ∀ (m k i : Nat), i + m = l.length → (l.length + 3) * m + 2000 ≤ k → antecedentref20_Groups.l1 k kind l (setT ((l.take i).map List.dropLast)) (l.length : Int) (i : Int) = some (goP kind l (setT (l.map List.dropLast)) []) := by
  have h40 := G.l40
  intro m
  induction m with
  | zero =>
    intro k i hi hk
    obtain ⟨k, rfl⟩ : ∃ k', k = k' + 1 := ⟨k - 1, by omega⟩
    obtain ⟨g1, g2⟩ := heads_ok h40 G.r10
    rw [antecedentref20_Groups.l1, if_neg (by omega), List.take_of_length_le (by omega)]
    have hm : (l.length + 3) * (setT (l.map List.dropLast)).length ≤ 43 * 40 := Nat.mul_le_mul (by omega) g1
    have h := gl3 G hev (setT (l.map List.dropLast)) g1 g2 (setT (l.map List.dropLast)).length k 0 [] (by omega) (by omega) (by simp)
    exact h
  | succ m ih =>
    intro k i hi hk
    rw [Nat.mul_succ] at hk
    generalize hB : (l.length + 3) * m = B at ih hk
    obtain ⟨k, rfl⟩ : ∃ k', k = k' + 1 := ⟨k - 1, by omega⟩
    have hil : i < l.length := by omega
    have ht := List.getElem_mem hil
    have ht0 := even_len hev l[i] ht
    have ht1 := G.r10 l[i] ht
    have ew : wrap64 ((l[i].length : Int) - 1) = ((l[i].length - 1 : Nat) : Int) := by unfold wrap64; omega
    rw [antecedentref20_Groups.l1, if_pos (by omega), if_pos (by omega), if_pos (by omega), rd_row hil, ew, if_pos (by omega), if_pos (by omega), Int.toNat_natCast, take_last]
    obtain ⟨S, hS⟩ : ∃ S, S = setT ((l.take i).map List.dropLast) := ⟨_, rfl⟩
    have hS40 : S.length ≤ 40 ∧ ∀ h ∈ S, h.length ≤ 10 := by
      rw [hS]
      exact heads_ok (by rw [List.length_take]; omega) (fun t h => G.r10 t (List.mem_of_mem_take h))
    have hSl : S.length ≤ l.length := by
      rw [hS]
      have := setC_length (c := lexS) ((l.take i).map List.dropLast)
      rw [List.length_map, List.length_take] at this
      unfold setT
      omega
    have hx : (l.take (i + 1)).map List.dropLast = (l.take i).map List.dropLast ++ [l[i].dropLast] := by rw [List.take_succ_eq_append_getElem hil, List.map_append]; rfl
    rw [← hS]
    have inner : ∀ (q k' a : Nat), a + q = S.length → q + 1 + B + 2000 ≤ k' → (∀ j (h : j < S.length), j < a → lexS S[j] l[i].dropLast < 0) →
        antecedentref20_Groups.l2 k' kind l S l[i].dropLast (a : Int) (l.length : Int) (i : Int) = some (goP kind l (setT (l.map List.dropLast)) []) := by
      intro q
      induction q with
      | zero =>
        intro k' a ha hk' hlow
        obtain ⟨k', rfl⟩ : ∃ k'', k' = k'' + 1 := ⟨k' - 1, by omega⟩
        have h := ih k' (i + 1) (by omega) (by omega)
        have e := ins_setT (S := S) (x := l[i].dropLast) (a := a) hS (by omega) hlow (fun h => absurd h (by omega))
        rw [hx, ← e] at h
        rw [antecedentref20_Groups.l2, if_neg (by omega), if_pos (by omega), if_pos (by omega), Option.bind_some, Int.toNat_natCast]
        simp only [List.nil_append, List.length_nil, List.length_append, List.length_cons, List.length_take, List.length_drop, Option.bind_some, wrap_small (show i < 1000000 by omega)]
        rw [if_pos (by omega), if_pos (by omega), if_pos (by omega)]
        exact h
      | succ q ihq =>
        intro k' a ha hk' hlow
        obtain ⟨k', rfl⟩ : ∃ k'', k' = k'' + 1 := ⟨k' - 1, by omega⟩
        have hal : a < S.length := by omega
        have hl10 := hS40.2 S[a] (List.getElem_mem hal)
        have eo := Order_eq S[a] l[i].dropLast (by unfold maxLen; omega) k' (by omega)
        rw [antecedentref20_Groups.l2, if_pos (by omega), if_pos (by omega), rd_row hal, eo, Option.bind_some]
        by_cases hc : lexS S[a] l[i].dropLast < 0
        · rw [if_pos hc, wrap_small (i := a) (by omega)]
          refine ihq k' (a + 1) (by omega) (by omega) (fun j h hj => ?_)
          rcases Nat.lt_or_ge j a with g | g
          · exact hlow j h g
          · obtain rfl : j = a := by omega
            exact hc
        · rw [if_neg hc, Option.bind_some]
          have h := ih k' (i + 1) (by omega) (by omega)
          by_cases he : lexS S[a] l[i].dropLast = 0
          · rw [if_pos he, wrap_small (i := i) (by omega)]
            have hm : l[i].dropLast ∈ (l.take i).map List.dropLast := by
              rw [← lexS_eq he]
              have hmS : ∀ z, z ∈ S → z ∈ (l.take i).map List.dropLast := fun z hz => by
                rw [hS] at hz
                exact (mem_setC lexS_ord).1 hz
              exact hmS _ (List.getElem_mem hal)
            rw [hx, setT_in hm, ← hS] at h
            exact h
          · have hgt : lexS l[i].dropLast S[a] < 0 := by
              have h1 := lexS_swap S[a] l[i].dropLast
              omega
            have e := ins_setT (S := S) (x := l[i].dropLast) (a := a) hS (by omega) hlow (fun _ => hgt)
            rw [hx, ← e] at h
            rw [if_neg he, if_pos (by omega), Option.bind_some, Int.toNat_natCast]
            simp only [List.nil_append, List.length_nil, List.length_append, List.length_cons, List.length_take, List.length_drop, Option.bind_some, wrap_small (show i < 1000000 by omega)]
            rw [if_pos (by omega), if_pos (by omega), if_pos (by omega)]
            exact h
    exact inner S.length k 0 (by omega) (by omega) (fun j h hj => by omega)
theorem gl0 {kind : Int} {l : List (List Sv)} (G : GOk kind l) : ∀ (m k i : Nat), i + m = l.length → m + 4000 ≤ k → (∀ j (h : j < l.length), j < i → ¬ (l[j].length = 0 ∨ l[j].length ≠ (l.headD []).length)) →
    antecedentref20_Groups.l0 k kind l (l.length : Int) (i : Int) = some (groupsP kind l) := by
  have h40 := G.l40
  intro m
  induction m with
  | zero =>
    intro k i hi hk hpre
    obtain ⟨k, rfl⟩ : ∃ k', k = k' + 1 := ⟨k - 1, by omega⟩
    have hev : unevenP l = false := by
      unfold unevenP
      rw [List.any_eq_false]
      intro t ht
      obtain ⟨j, hj, rfl⟩ := List.mem_iff_getElem.1 ht
      have := hpre j hj (by omega)
      simp only [decide_eq_true_eq]
      exact this
    have hm : (l.length + 3) * l.length ≤ 43 * 40 := Nat.mul_le_mul (by omega) h40
    have h := gl1 G hev l.length k 0 (by omega) (by omega)
    rw [antecedentref20_Groups.l0, if_neg (by omega)]
    unfold groupsP
    rw [if_neg (by rw [hev]; decide)]
    exact h
  | succ m ih =>
    intro k i hi hk hpre
    obtain ⟨k, rfl⟩ : ∃ k', k = k' + 1 := ⟨k - 1, by omega⟩
    have hil : i < l.length := by omega
    have hh : rd_L3 l 0 = l.headD [] := by
      unfold rd_L3
      cases l with
      | nil => simp at hil
      | cons x t => rfl
    have bad : (l[i].length = 0 ∨ l[i].length ≠ (l.headD []).length) → groupsP kind l = ([], 1) := fun hb => by
      unfold groupsP
      rw [if_pos]
      unfold unevenP
      exact List.any_eq_true.2 ⟨l[i], List.getElem_mem hil, decide_eq_true hb⟩
    rw [antecedentref20_Groups.l0, if_pos (by omega), if_pos (by omega), if_pos (by omega), rd_row hil, hh]
    by_cases h0 : l[i].length = 0
    · rw [if_pos (by omega), bad (.inl h0)]
    · rw [if_neg (by omega), if_pos (by omega)]
      by_cases h1 : l[i].length = (l.headD []).length
      · rw [if_pos (by omega), wrap_small (i := i) (by omega)]
        refine ih k (i + 1) (by omega) (by omega) (fun j h hj => ?_)
        rcases Nat.lt_or_ge j i with g | g
        · exact hpre j h g
        · obtain rfl : j = i := by omega
          omega
      · rw [if_neg (by omega), bad (.inr h1)]
theorem FoldGroups_plain (kind : Int) (l : List (List Sv)) (hk : inI kind) (hl : l.length ≤ maxLen ∧ ∀ y ∈ l, y.length ≤ maxLen ∧ ∀ x ∈ y, wfV x) : ∃ k, antecedentlaw20_FoldGroups.f k kind l = some true := by
  refine ⟨l.length + 8000, ?_⟩
  unfold antecedentlaw20_FoldGroups.f
  rw [awake_eq _ (by omega), Option.bind_some, if_pos rfl, few_eq l hl.1 _ (by omega), Option.bind_some]
  by_cases hf : fewP l = true
  · obtain ⟨g1, g2, g3⟩ := few_ok hf (fun y hy => (hl.2 y hy).2)
    rw [if_pos hf, groups_in hk g3, Option.bind_some]
    have h := gl0 (kind := kind) ⟨hk, g1, g2, g3⟩ l.length (l.length + 8000) 0 (by omega) (by omega) (fun j h hj => by omega)
    have e : antecedentref20_Groups.f (l.length + 8000) kind l = some (groupsP kind l) := by
      unfold antecedentref20_Groups.f
      exact h
    have hg := groups_len (kind := kind) g1 g2
    rw [e, Option.bind_some, same_self _ (by have := hg.1; unfold maxLen; omega) 10 hg.2 (by unfold maxLen; omega) _ (by have := hg.1; omega), Option.bind_some, if_pos rfl]
    simp
  · rw [if_neg hf, Option.bind_some, if_pos rfl]
end Go.Proofs.YtolefpeiceiocaaGreat.Ps
