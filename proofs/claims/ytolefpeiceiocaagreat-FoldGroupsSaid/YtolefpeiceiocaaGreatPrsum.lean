/- WHAT ref20.Set AND ref20.sum COMPUTE: plain, no program in sight. Condition: fewer than a million values, as Go may have them. -/
import Derived.Test.YtolefpeiceiocaaGreatPs4
import Derived.Test.YtolefpeiceiocaaGreatPs6
import Derived.Test.YtolefpeiceiocaaGreatPaw
namespace Go.Proofs.YtolefpeiceiocaaGreat.Ps
open Go Go.RowKit Go.Proofs.YtolefpeiceiocaaGreatW.PrintWords Go.Proofs.YtolefpeiceiocaaGreatW.PrintLast
set_option linter.unusedVariables false

theorem eq_iff (x y : Sv) : ((x.f0) == (y.f0) && ((x.f1) == (y.f1) && ((x.f2.toList) == (y.f2.toList)))) = decide (x = y) := by
  have := eqB_iff x y
  unfold eqB at this
  rw [this]
theorem rcmp_eq (x y : Sv) : antecedentref02_Compare.f x.f0 x.f1 x.f2 y.f0 y.f1 y.f2 = some (cmpS x y) := by
  unfold antecedentref02_Compare.f cmpS
  rw [AnteVal.vcmp_walk]
  show _ = some (if (x.f0 != y.f0) = true then (if x.f0 < y.f0 then (-1 : Int) else 1) else if (x.f1 != y.f1) = true then (if x.f1 < y.f1 then (-1 : Int) else 1) else if Op.bytesLess x.f2.toList y.f2.toList = true then (-1 : Int) else if (!x.f2.toList == y.f2.toList) = true then (1 : Int) else 0)
  have b0 : ((x.f0 != y.f0) = true) = ¬ (x.f0 = y.f0) := by simp
  have b1 : ((x.f1 != y.f1) = true) = ¬ (x.f1 = y.f1) := by simp
  have b2 : ((!x.f2.toList == y.f2.toList) = true) = ¬ (x.f2.toList = y.f2.toList) := by simp
  have b3 : ((Op.bytesLess x.f2.toList y.f2.toList || (x.f2.toList == y.f2.toList)) = true) = (Op.bytesLess x.f2.toList y.f2.toList = true ∨ x.f2.toList = y.f2.toList) := by simp
  simp only [b0, b1, b2, b3]
  by_cases h0 : x.f0 = y.f0
  · by_cases h1 : x.f1 = y.f1
    · by_cases h2 : Op.bytesLess x.f2.toList y.f2.toList = true
      · simp [h0, h1, h2]
      · by_cases h3 : x.f2.toList = y.f2.toList
        · rw [if_pos h0, if_pos h1, if_neg h2, if_pos (.inr h3), if_neg (not_not_intro h0), if_neg (not_not_intro h1), if_neg h2, if_neg (not_not_intro h3)]
        · rw [if_pos h0, if_pos h1, if_neg h2, if_neg (fun h => h.elim h2 h3), if_neg (not_not_intro h0), if_neg (not_not_intro h1), if_neg h2, if_pos h3]
    · rw [if_pos h0, if_neg h1, if_neg (not_not_intro h0), if_pos h1]
      split <;> rfl
  · rw [if_neg h0, if_pos h0]
    split <;> rfl

/-- A value put into its place. -/
theorem ins_set {S l : List Sv} {x : Sv} {a : Nat} (hS : S = setL l) (ha : a ≤ S.length) (h1 : ∀ j (h : j < S.length), j < a → cmpS S[j] x < 0) (h2 : ∀ h : a < S.length, cmpS x S[a] < 0) : (S.take a ++ [x]) ++ S.drop a = setL (l ++ [x]) := by
  have hsort : S.Pairwise (fun x y => cmpS x y < 0) := by rw [hS]; exact setC_sorted cmpS_ord l
  have hlow : ∀ y ∈ S.take a, cmpS y x < 0 := fun y hy => by
    obtain ⟨j, hj, rfl⟩ := List.mem_iff_getElem.1 hy
    rw [List.length_take] at hj
    rw [List.getElem_take]
    exact h1 j (by omega) (by omega)
  have hhigh : ∀ y ∈ S.drop a, cmpS x y < 0 := fun y hy => by
    obtain ⟨j, hj, rfl⟩ := List.mem_iff_getElem.1 hy
    rw [List.length_drop] at hj
    rw [List.getElem_drop]
    rcases Nat.eq_zero_or_pos j with rfl | h0
    · exact h2 (by omega)
    · exact cmpS_ord.trans (h2 (by omega)) (List.pairwise_iff_getElem.1 hsort a (a + j) (by omega) (by omega) (by omega))
  have hcross : ∀ y ∈ S.take a, ∀ z ∈ S.drop a, cmpS y z < 0 := fun y hy z hz => cmpS_ord.trans (hlow y hy) (hhigh z hz)
  refine sorted_one cmpS_ord ?_ (setC_sorted cmpS_ord _) (fun z => ?_)
  · rw [List.pairwise_append, List.pairwise_append]
    refine ⟨⟨hsort.sublist (List.take_sublist a S), List.pairwise_singleton .., fun y hy z hz => ?_⟩, hsort.sublist (List.drop_sublist a S), fun y hy z hz => ?_⟩
    · rw [List.mem_singleton.1 hz]; exact hlow y hy
    · rcases List.mem_append.1 hy with hy | hy
      · exact hcross y hy z hz
      · rw [List.mem_singleton.1 hy]; exact hhigh z hz
  · show _ ↔ z ∈ setC cmpS (l ++ [x])
    rw [mem_setC cmpS_ord, List.mem_append, List.mem_append, List.mem_append, List.mem_singleton]
    have hz : z ∈ S ↔ z ∈ l := by rw [hS]; exact mem_setC cmpS_ord
    have hs : z ∈ S ↔ z ∈ S.take a ∨ z ∈ S.drop a := by
      conv => lhs; rw [← List.take_append_drop a S]
      exact List.mem_append
    rw [← hz, hs]
    constructor
    · rintro ((h | h) | h)
      · exact .inl (.inl h)
      · exact .inr h
      · exact .inl (.inr h)
    · rintro ((h | h) | h)
      · exact .inl (.inl h)
      · exact .inr h
      · exact .inl (.inr h)
theorem set_in {l : List Sv} {x : Sv} (h : x ∈ l) : setL (l ++ [x]) = setL l := setC_congr cmpS_ord (fun z => by
  rw [List.mem_append, List.mem_singleton]
  constructor
  · rintro (h1 | rfl)
    · exact h1
    · exact h
  · exact .inl)

theorem rset_loop (l : List Sv) (hl : okL l) : ∀ (m k i : Nat), i + m = l.length → (l.length + 3) * m + 1 ≤ k → antecedentref20_Set.l0 k l (setL (l.take i)) (l.length : Int) (i : Int) = some (setL l) := by
  have hlen := hl.1
  intro m
  induction m with
  | zero =>
    intro k i hi hk
    obtain ⟨k, rfl⟩ : ∃ k', k = k' + 1 := ⟨k - 1, by omega⟩
    rw [antecedentref20_Set.l0, if_neg (by omega), List.take_of_length_le (by omega)]
  | succ m ih =>
    intro k i hi hk
    rw [Nat.mul_succ] at hk
    generalize hB : (l.length + 3) * m = B at ih hk
    obtain ⟨k, rfl⟩ : ∃ k', k = k' + 1 := ⟨k - 1, by omega⟩
    have hil : i < l.length := by omega
    rw [antecedentref20_Set.l0, if_pos (by omega)]
    have hsz : (setL (l.take i)).length ≤ l.length := Nat.le_trans (setC_length (c := cmpS) (l.take i)) (by rw [List.length_take]; omega)
    have hsz2 : (setL (l.take i)).length < 1000000 := by omega
    have hx : l.take (i + 1) = l.take i ++ [l[i]] := take_one hil
    have inner : ∀ (q k' a : Nat), a + q = (setL (l.take i)).length → q + B + 3 ≤ k' → (∀ j (h : j < (setL (l.take i)).length), j < a → cmpS (setL (l.take i))[j] l[i] < 0) →
        antecedentref20_Set.l1 k' l (setL (l.take i)) (i : Int) (a : Int) (l.length : Int) (i : Int) = some (setL l) := by
      intro q
      induction q with
      | zero =>
        intro k' a ha hk' hlow
        obtain ⟨k', rfl⟩ : ∃ k'', k' = k'' + 1 := ⟨k' - 1, by omega⟩
        have h := ih k' (i + 1) (by omega) (by omega)
        have e := ins_set (S := setL (l.take i)) (l := l.take i) (x := l[i]) (a := a) rfl (by omega) hlow (fun h => absurd h (by omega))
        rw [hx, ← e] at h
        rw [antecedentref20_Set.l1, if_neg (by omega), if_pos (by omega), if_pos (by omega), Option.bind_some, Int.toNat_natCast]
        have hd : (setL (l.take i)).drop a = [] := List.drop_eq_nil_of_le (by omega)
        have ht : (setL (l.take i)).take a = setL (l.take i) := List.take_of_length_le (by omega)
        rw [ht, hd] at h
        simp only [ht, hd, List.nil_append, List.length_nil, List.length_append, List.length_cons, List.append_nil, Option.bind_some, rd_get hil, wrap_small (show i < 1000000 by omega)]
        simp only [List.append_nil] at h
        rw [if_pos (by omega), if_pos (by omega), if_pos (by omega), if_pos (by omega), if_pos (by omega)]
        exact h
      | succ q ihq =>
        intro k' a ha hk' hlow
        obtain ⟨k', rfl⟩ : ∃ k'', k' = k'' + 1 := ⟨k' - 1, by omega⟩
        have hal : a < (setL (l.take i)).length := by omega
        rw [antecedentref20_Set.l1, if_pos (by omega), if_pos (by omega), if_pos (by omega), if_pos (by omega), rd_get hal, rd_get hil, rcmp_eq, Option.bind_some]
        by_cases hc : cmpS (setL (l.take i))[a] l[i] < 0
        · rw [if_pos hc, wrap_small (i := a) (by omega)]
          refine ihq k' (a + 1) (by omega) (by omega) (fun j h hj => ?_)
          rcases Nat.lt_or_ge j a with g | g
          · exact hlow j h g
          · obtain rfl : j = a := by omega
            exact hc
        · rw [if_neg hc, eq_iff]
          by_cases he : (setL (l.take i))[a] = l[i]
          · rw [if_pos (decide_eq_true he), wrap_small (i := i) (by omega)]
            have h := ih k' (i + 1) (by omega) (by omega)
            have hm : l[i] ∈ l.take i := (mem_setC cmpS_ord).1 (by rw [← he]; exact List.getElem_mem hal)
            rw [hx, set_in hm] at h
            exact h
          · rw [if_neg (by simp [he])]
            have h := ih k' (i + 1) (by omega) (by omega)
            have hgt : cmpS l[i] (setL (l.take i))[a] < 0 := by
              have h1 := cmpS_ord.swap (setL (l.take i))[a] l[i]
              have h2 : cmpS (setL (l.take i))[a] l[i] ≠ 0 := fun e => he (cmpS_ord.eq e)
              omega
            have e := ins_set (S := setL (l.take i)) (l := l.take i) (x := l[i]) (a := a) rfl (by omega) hlow (fun _ => hgt)
            rw [hx, ← e] at h
            rw [if_pos (by omega), Option.bind_some, Int.toNat_natCast]
            simp only [List.nil_append, List.length_nil, List.length_append, List.length_cons, List.length_take, List.length_drop, Option.bind_some, wrap_small (show i < 1000000 by omega)]
            rw [if_pos (by omega), if_pos (by omega), if_pos (by omega)]
            exact h
    exact inner (setL (l.take i)).length k 0 (by omega) (by omega) (fun j h hj => by omega)
theorem rset_eq (l : List Sv) (hl : okL l) (k : Nat) (hk : (l.length + 3) * l.length + 1 ≤ k) : antecedentref20_Set.f k l = some (setL l) := by
  have h := rset_loop l hl l.length k 0 (by omega) hk
  simpa [antecedentref20_Set.f, setL, setC] using h
end Go.Proofs.YtolefpeiceiocaaGreat.Ps
/- WHAT ref20.sum COMPUTES: plain, no program in sight. Condition: fewer than a million values, as Go may have them. -/
namespace Go.Proofs.YtolefpeiceiocaaGreat.Ps
open Go Go.RowKit Go.Proofs.YtolefpeiceiocaaGreatW.PrintWords Go.Proofs.YtolefpeiceiocaaGreatW.PrintLast
set_option linter.unusedVariables false

theorem sum_neg : ∀ {l : List Int}, (∀ x ∈ l, x < 0 ∧ inI x) → l.sum ≤ 0
  | [], _ => by simp
  | x :: l, h => by
    have := sum_neg (l := l) (fun y hy => h y (by simp [hy]))
    have := (h x (by simp)).1
    rw [List.sum_cons]
    omega
theorem sum_pos' : ∀ {l : List Int}, (∀ x ∈ l, 0 ≤ x ∧ inI x) → 0 ≤ l.sum
  | [], _ => by simp
  | x :: l, h => by
    have := sum_pos' (l := l) (fun y hy => h y (by simp [hy]))
    have := (h x (by simp)).1
    rw [List.sum_cons]
    omega
def sumR (T : Int) : Int × Bool := if inI T then (T, true) else (0, false)
theorem rsum_loop1 : ∀ (c k : Nat) (low high : List Int) (n : Int), low.length + high.length = c → 3 * c + 3 ≤ k → (∀ x ∈ low, x < 0 ∧ inI x) → (∀ x ∈ high, 0 ≤ x ∧ inI x) → inI n →
    antecedentref20_sum.l1 k low high n = some (sumR (n + low.sum + high.sum)) := by
  intro c
  induction c with
  | zero =>
    intro k low high n hc hk h1 h2 hn
    obtain ⟨k, rfl⟩ : ∃ k', k = k' + 2 := ⟨k - 2, by omega⟩
    obtain rfl := List.eq_nil_of_length_eq_zero (show low.length = 0 by omega)
    obtain rfl := List.eq_nil_of_length_eq_zero (show high.length = 0 by omega)
    rw [antecedentref20_sum.l1, if_neg (by simp), antecedentref20_sum.j2, if_neg (by simp)]
    have e : n + ([] : List Int).sum + ([] : List Int).sum = n := by simp
    rw [e]
    unfold sumR
    rw [if_pos hn]
  | succ c ih =>
    intro k low high n hc hk h1 h2 hn
    obtain ⟨k, rfl⟩ : ∃ k', k = k' + 3 := ⟨k - 3, by omega⟩
    have up : ∀ x t, high = x :: t → (n < 0 ∨ low = []) → antecedentref20_sum.j3 (k + 1) low high n true = some (sumR (n + low.sum + high.sum)) := by
      intro x t e hor
      subst e
      have hx := h2 x (by simp)
      have ht : ∀ y ∈ t, 0 ≤ y ∧ inI y := fun y hy => h2 y (by simp [hy])
      have hrd : rd (x :: t) 0 = x := rfl
      have hdr : (x :: t).drop (1 : Int).toNat = t := rfl
      have hsp := sum_pos' ht
      rw [antecedentref20_sum.j3, if_pos rfl, if_pos (by rw [List.length_cons]; omega), hrd, hdr, if_pos (show (1 : Int) ≤ ((x :: t).length : Int) by rw [List.length_cons]; omega)]
      unfold inI at hn hx
      have hw : 0 < n → wrap64 (9223372036854775807 - n) = 9223372036854775807 - n := fun h => by unfold wrap64; omega
      have go : n + x ≤ 9223372036854775807 → antecedentref20_sum.l1 k low t (wrap64 (n + x)) = some (sumR (n + low.sum + (x :: t).sum)) := by
        intro hle
        have e : wrap64 (n + x) = n + x := by unfold wrap64; omega
        rw [e, ih k low t (n + x) (by simp at hc; omega) (by omega) h1 ht (by unfold inI; omega), List.sum_cons]
        congr 2
        omega
      by_cases hp : n > 0
      · obtain rfl : low = [] := by
          rcases hor with h | h
          · omega
          · exact h
        rw [if_pos hp, hw hp]
        by_cases hb : x > 9223372036854775807 - n
        · rw [if_pos hb]
          unfold sumR
          rw [if_neg (by unfold inI; rw [List.sum_cons]; simp; omega)]
        · rw [if_neg hb]
          exact go (by omega)
      · rw [if_neg hp]
        exact go (by omega)
    have down : low ≠ [] → (0 ≤ n ∨ high = []) → antecedentref20_sum.j3 (k + 1) low high n false = some (sumR (n + low.sum + high.sum)) := by
      intro hne hor
      obtain ⟨x, t, e⟩ := List.exists_cons_of_ne_nil hne
      subst e
      have hx := h1 x (by simp)
      have ht : ∀ y ∈ t, y < 0 ∧ inI y := fun y hy => h1 y (by simp [hy])
      have hrd : rd (x :: t) 0 = x := rfl
      have hdr : (x :: t).drop (1 : Int).toNat = t := rfl
      have hsp := sum_neg ht
      rw [antecedentref20_sum.j3, if_neg (by decide), if_neg (by rw [List.length_cons]; omega), if_pos (by rw [List.length_cons]; omega), hrd, hdr, if_pos (show (1 : Int) ≤ ((x :: t).length : Int) by rw [List.length_cons]; omega)]
      unfold inI at hn hx
      have hw : n < 0 → wrap64 (-9223372036854775808 - n) = -9223372036854775808 - n := fun h => by unfold wrap64; omega
      have go : -9223372036854775808 ≤ n + x → antecedentref20_sum.l1 k t high (wrap64 (n + x)) = some (sumR (n + (x :: t).sum + high.sum)) := by
        intro hle
        have e : wrap64 (n + x) = n + x := by unfold wrap64; omega
        rw [e, ih k t high (n + x) (by simp at hc; omega) (by omega) ht h2 (by unfold inI; omega), List.sum_cons]
        congr 2
        omega
      by_cases hp : n < 0
      · obtain rfl : high = [] := by
          rcases hor with h | h
          · omega
          · exact h
        rw [if_pos hp, hw hp]
        by_cases hb : x < -9223372036854775808 - n
        · rw [if_pos hb]
          unfold sumR
          rw [if_neg (by unfold inI; rw [List.sum_cons]; simp; omega)]
        · rw [if_neg hb]
          exact go (by omega)
      · rw [if_neg hp]
        exact go (by omega)
    have second : antecedentref20_sum.j2 (k + 2) low high n true = some (sumR (n + low.sum + high.sum)) := by
      rw [antecedentref20_sum.j2, if_pos rfl]
      cases high with
      | nil =>
        rw [if_neg (by simp)]
        exact down (by intro e; subst e; simp at hc) (.inr rfl)
      | cons x t =>
        rw [if_pos (by rw [List.length_cons]; omega)]
        by_cases hn0 : n < 0
        · rw [if_pos hn0]
          exact up x t rfl (.inl hn0)
        · rw [if_neg hn0]
          cases low with
          | nil => exact up x t rfl (.inr rfl)
          | cons y u =>
            have e : (((y :: u).length : Int) == 0) = false := beq_eq_false_iff_ne.2 (by rw [List.length_cons]; omega)
            rw [e]
            exact down (by simp) (.inl (by omega))
    rw [antecedentref20_sum.l1]
    by_cases hl : (low.length : Int) > 0
    · rw [if_pos hl]
      exact second
    · rw [if_neg hl, decide_eq_true (show (high.length : Int) > 0 by omega)]
      exact second
theorem sumP_take {l : List Sv} {i : Nat} (h : i < l.length) : sumP (l.take (i + 1)) = sumP (l.take i) + l[i].f1 := by
  rw [take_one h, sum_snoc]
theorem rsum_loop0 (l : List Sv) (hl : okL l) : ∀ (m k i : Nat) (low high : List Int), i + m = l.length → m + 3 * l.length + 4 ≤ k → (∀ x ∈ low, x < 0 ∧ inI x) → (∀ x ∈ high, 0 ≤ x ∧ inI x) → low.length + high.length = i → low.sum + high.sum = sumP (l.take i) →
    antecedentref20_sum.l0 k l low high (l.length : Int) (i : Int) = some (sumR (sumP l)) := by
  have hlen := hl.1
  intro m
  induction m with
  | zero =>
    intro k i low high hi hk h1 h2 hc hs
    obtain ⟨k, rfl⟩ : ∃ k', k = k' + 1 := ⟨k - 1, by omega⟩
    rw [antecedentref20_sum.l0, if_neg (by omega), rsum_loop1 i k low high 0 hc (by omega) h1 h2 (by decide)]
    rw [List.take_of_length_le (by omega)] at hs
    congr 2
    omega
  | succ m ih =>
    intro k i low high hi hk h1 h2 hc hs
    obtain ⟨k, rfl⟩ : ∃ k', k = k' + 1 := ⟨k - 1, by omega⟩
    have hil : i < l.length := by omega
    have hx := (hl.2 l[i] (List.getElem_mem hil)).2.1
    rw [antecedentref20_sum.l0, if_pos (by omega), if_pos (by omega), if_pos (by omega), rd_get hil, wrap_small (i := i) (by omega)]
    by_cases hn : l[i].f1 < 0
    · rw [if_pos hn, if_pos (by omega)]
      refine ih k (i + 1) (low ++ [l[i].f1]) high (by omega) (by omega) (fun x h => ?_) h2 (by simp; omega) (by rw [sumP_take hil]; simp; omega)
      rcases List.mem_append.1 h with h | h
      · exact h1 x h
      · rw [List.mem_singleton.1 h]; exact ⟨hn, hx⟩
    · rw [if_neg hn, if_pos (by omega)]
      refine ih k (i + 1) low (high ++ [l[i].f1]) (by omega) (by omega) h1 (fun x h => ?_) (by simp; omega) (by rw [sumP_take hil]; simp; omega)
      rcases List.mem_append.1 h with h | h
      · exact h2 x h
      · rw [List.mem_singleton.1 h]; exact ⟨by omega, hx⟩
theorem rsum_eq (l : List Sv) (hl : okL l) (k : Nat) (hk : 4 * l.length + 4 ≤ k) : antecedentref20_sum.f k l = some (sumR (sumP l)) := by
  have h := rsum_loop0 l hl l.length k 0 [] [] (by omega) (by omega) (fun x h => by simp at h) (fun x h => by simp at h) rfl rfl
  simpa [antecedentref20_sum.f] using h
end Go.Proofs.YtolefpeiceiocaaGreat.Ps
