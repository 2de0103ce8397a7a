/- FoldSmall: the plain law. -/
import Derived.Test.YtolefpeiceiocaaPs6
import Derived.Test.YtolefpeiceiocaaPwide0
namespace AnteFlo
/-- A small whole number's rung. -/
theorem of_rung {n : Int} (h : n.natAbs < 9007199254740992) : ∃ q, q < 9218868437227405312 ∧ val q = n.natAbs * pw 1074 ∧ ofInt n = D.word (decide (n < 0)) q ∧ back (gOf n) = D.word (decide (n < 0)) q := by
  obtain ⟨q, hq, hv⟩ := rep_pw (m := n.natAbs) (k := 1074) h (by omega)
  have e := ofInt_exact (n := n) hq hv
  refine ⟨q, hq, hv, e, ?_⟩
  unfold gOf
  rw [e, code_word _ (by omega), back_code _ (by omega)]
theorem sval_int {n : Int} {q : Nat} (hv : val q = n.natAbs * pw 1074) : sval (decide (n < 0)) q = n * (pw 1074 : Nat) := by
  unfold sval
  rw [hv]
  generalize pw 1074 = P
  by_cases h : n < 0
  · rw [if_pos (by simpa using h), Int.natCast_mul, ← Int.neg_mul]
    congr 1
    omega
  · rw [if_neg (by simpa using h), Int.natCast_mul]
    congr 1
    omega
/-- Small whole numbers' sum is exact. -/
theorem gAdd_small {a b : Int} (ha : a.natAbs < 9007199254740992) (hb : b.natAbs < 9007199254740992) (hc : (a + b).natAbs < 9007199254740992) : gAdd (gOf a) (gOf b) = gOf (a + b) := by
  obtain ⟨r, hr, vr, _, br⟩ := of_rung ha
  obtain ⟨q, hq, vq, _, bq⟩ := of_rung hb
  obtain ⟨x, hx, vx, ox, _⟩ := of_rung hc
  have e := add_exact (decide (a < 0)) (decide (b < 0)) (decide (a + b < 0)) hr hq hx (by rw [sval_int vr, sval_int vq, sval_int vx, Int.add_mul]) (fun h0 => by
    subst h0
    rw [val_zero] at vx
    have hz : (a + b).natAbs = 0 := by
      rcases Nat.mul_eq_zero.1 vx.symm with h | h
      · exact h
      · have := pw_pos 1074; omega
    have hs : a + b = 0 := by omega
    rw [decide_eq_false (by omega : ¬ a + b < 0)]
    by_cases h : a < 0
    · rw [decide_eq_false (by omega : ¬ b < 0), Bool.and_false]
    · rw [decide_eq_false h, Bool.false_and])
  unfold gAdd
  rw [br, bq, fop0, e, ocode_some]
  unfold gOf
  rw [ox]
end AnteFlo
namespace Go.Proofs.Ytolefpeiceiocaa.Ps
open Go Go.RowKit Go.Proofs.YtolefpeiceiocaaW.PrintWords Go.Proofs.YtolefpeiceiocaaW.PrintLast
set_option linter.unusedVariables false

def smallS (l : List Sv) : Prop := ∀ x ∈ l, ∃ n : Int, x = vI n ∧ -2147483648 ≤ n ∧ n ≤ 2147483647
theorem sum_small : ∀ {l : List Sv}, smallS l → -2147483648 * (l.length : Int) ≤ sumP l ∧ sumP l ≤ 2147483647 * (l.length : Int)
  | [], _ => by simp [sumP]
  | x :: l, h => by
    have ih := sum_small (l := l) (fun y hy => h y (by simp [hy]))
    obtain ⟨n, rfl, h1, h2⟩ := h x (by simp)
    have e : sumP (vI n :: l) = n + sumP l := by simp [sumP, vI]
    rw [e, List.length_cons]
    omega
theorem numS_int (n : Int) : numS (vI n) = AnteFlo.gOf n := by unfold numS vI; rw [if_pos rfl]
theorem points_small {l : List Sv} (h : smallS l) (h0 : l ≠ []) (hl : l.length ≤ 40) : pointsP l = AnteFlo.gOf (sumP l) := by
  obtain ⟨x, t, rfl⟩ := List.exists_cons_of_ne_nil h0
  have key : ∀ (t : List Sv) (s : Int), smallS t → s.natAbs + 2147483648 * t.length < 9007199254740992 → t.foldl (fun s y => AnteFlo.gAdd s (numS y)) (AnteFlo.gOf s) = AnteFlo.gOf (s + sumP t) := by
    intro t
    induction t with
    | nil => intro s _ _; simp [sumP]
    | cons y t ih =>
      intro s hs hb
      obtain ⟨n, rfl, h1, h2⟩ := hs y (by simp)
      rw [List.length_cons] at hb
      rw [List.foldl_cons, numS_int, AnteFlo.gAdd_small (by omega) (by omega) (by omega), ih (s + n) (fun y hy => hs y (by simp [hy])) (by omega)]
      have e : sumP (vI n :: t) = n + sumP t := by simp [sumP, vI]
      rw [e, Int.add_assoc]
  obtain ⟨n, rfl, h1, h2⟩ := h x (by simp)
  show t.foldl (fun s y => AnteFlo.gAdd s (numS y)) (numS (vI n)) = _
  rw [List.length_cons] at hl
  rw [numS_int, key t n (fun y hy => h y (by simp [hy])) (by omega)]
  have e : sumP (vI n :: t) = n + sumP t := by simp [sumP, vI]
  rw [e]
theorem of_mean {l : List Sv} (h0 : l ≠ []) (h1 : ∀ x ∈ l, ∃ n, x = ⟨1, n, emp⟩) : ofP 5 l = (⟨2, AnteFlo.gDiv (pointsP (setL l)) (AnteFlo.gOf (setL l).length), emp⟩, 0) := by
  have hm : ∀ x, x ∈ setL l ↔ x ∈ l := fun x => mem_setC cmpS_ord
  have hne : setL l ≠ [] := by
    obtain ⟨x, r, e⟩ := List.exists_cons_of_ne_nil h0
    intro e2
    have := (hm x).2 (by rw [e]; simp)
    rw [e2] at this
    cases this
  have hd : ((setL l).headD z27).f0 = 1 := by
    obtain ⟨x, r, e⟩ := List.exists_cons_of_ne_nil hne
    obtain ⟨n, rfl⟩ := h1 x ((hm x).1 (by rw [e]; simp))
    rw [e]; rfl
  have hr : ((setL l).any fun x => !rightS x) = false := by
    rw [List.any_eq_false]
    intro x hx
    obtain ⟨n, rfl⟩ := h1 x ((hm x).1 hx)
    simp [rightS, toV, vright, emp]
  have ho : (setL l).any (oddS 5 (setL l)) = false := by
    rw [List.any_eq_false]
    intro x hx
    obtain ⟨n, rfl⟩ := h1 x ((hm x).1 hx)
    unfold oddS
    rw [hd]
    simp
  have hw : wrongP 5 (setL l) = 0 := by
    unfold wrongP
    rw [if_neg (by rw [hr]; simp), if_neg hne, if_neg (by rw [ho]; simp)]
  unfold ofP setP
  rw [if_neg (by rw [hw]; simp), if_neg (by decide), if_neg (by decide), if_neg (by decide), if_pos rfl]
theorem set_snoc_in {l : List Sv} {x : Sv} (h : x ∈ l) : setL (l ++ [x]) = setL l := setC_congr cmpS_ord (fun z => by
  rw [List.mem_append, List.mem_singleton]
  constructor
  · rintro (h1 | rfl)
    · exact h1
    · exact h
  · exact .inl)
theorem set_snoc_new {l : List Sv} {x : Sv} (h : x ∉ l) : (setL (l ++ [x])).Perm (x :: setL l) := by
  have h2 : setL (l ++ [x]) = setC cmpS (x :: setL l) := setC_congr cmpS_ord (fun z => by
    unfold setL
    rw [List.mem_append, List.mem_singleton, List.mem_cons, mem_setC cmpS_ord]
    constructor
    · rintro (h1 | h1)
      · exact .inr h1
      · exact .inl h1
    · rintro (h1 | h1)
      · exact .inr h1
      · exact .inl h1)
  rw [h2]
  exact set_perm cmpS_ord (List.nodup_cons.2 ⟨fun hm => h ((mem_setC cmpS_ord).1 hm), setC_nodup cmpS_ord l⟩)

/-- The first ones, as values. -/
def fst (l : List Int) (i : Nat) : List Sv := (l.take i).map vI
theorem fst_snoc {l : List Int} {i : Nat} (h : i < l.length) : fst l (i + 1) = fst l i ++ [vI l[i]] := by unfold fst; rw [take_snoc_int h, List.map_append]; rfl
theorem fst_len {l : List Int} {i : Nat} (h : i ≤ l.length) : (fst l i).length = i := by unfold fst; rw [List.length_map, List.length_take]; omega
theorem mem_fst {l : List Int} {i : Nat} {x : Int} : vI x ∈ fst l i ↔ x ∈ l.take i := by
  unfold fst
  rw [List.mem_map]
  constructor
  · rintro ⟨y, hy, e⟩
    rw [← vI_inj e]; exact hy
  · intro h
    exact ⟨x, h, rfl⟩
def in32 (n : Int) : Prop := -2147483648 ≤ n ∧ n ≤ 2147483647
theorem small_fst {l : List Int} (hl : ∀ x ∈ l, in32 x) (i : Nat) : smallS (fst l i) := by
  intro x hx
  obtain ⟨n, hn, rfl⟩ := List.mem_map.1 hx
  have := hl n (List.mem_of_mem_take hn)
  exact ⟨n, rfl, this.1, this.2⟩
theorem small_set {l : List Sv} (h : smallS l) : smallS (setL l) := fun x hx => h x ((mem_setC cmpS_ord).1 hx)
theorem okL_small {l : List Sv} (h : smallS l) (hl : l.length < 1000000) : okL l := ⟨hl, fun x hx => by
  obtain ⟨n, rfl, h1, h2⟩ := h x hx
  exact okS_int (by unfold inI; omega)⟩

theorem small_loop (l : List Int) (hl : ∀ x ∈ l, in32 x) (h40 : l.length ≤ 40) (h0 : l ≠ []) : ∀ (m k i : Nat), i + m = l.length → 50 * m + 60 < k →
    antecedentlaw20_FoldSmall.l0 k l (fst l i) (sumP (setL (fst l i))) ((setL (fst l i)).length : Int) (l.length : Int) (i : Int) = some true := by
  have bound : ∀ i, i ≤ l.length → -90000000000 ≤ sumP (setL (fst l i)) ∧ sumP (setL (fst l i)) ≤ 90000000000 ∧ (setL (fst l i)).length ≤ 40 := by
    intro i hi
    have h1 := sum_small (small_set (small_fst hl i))
    have h2 := setC_length (c := cmpS) (fst l i)
    rw [fst_len hi] at h2
    have h3 : (setL (fst l i)).length ≤ 40 := by unfold setL; omega
    omega
  intro m
  induction m with
  | zero =>
    intro k i hi hk
    obtain ⟨k, rfl⟩ : ∃ k', k = k' + 1 := ⟨k - 1, by omega⟩
    have e : i = l.length := by omega
    subst e
    have hlen := fst_len (l := l) (Nat.le_refl _)
    have hne : fst l l.length ≠ [] := by
      intro e
      rw [e] at hlen
      exact h0 (List.eq_nil_of_length_eq_zero hlen.symm)
    have hsm := small_fst hl l.length
    have hin : ∀ x ∈ fst l l.length, ∃ n, x = ⟨1, n, emp⟩ := fun x hx => by
      obtain ⟨n, e, _⟩ := hsm x hx
      exact ⟨n, e⟩
    have hok := okL_small hsm (by omega)
    obtain ⟨b1, b2, b3⟩ := bound l.length (Nat.le_refl _)
    have e2 := Of_eq 2 _ (by decide) hok k (by omega)
    have e5 := Of_eq 5 _ (by decide) hok k (by omega)
    have hiS : inI (sumP (setL (fst l l.length))) := by unfold inI; omega
    rw [of_sum hne hin, if_pos hiS] at e2
    have hsne : setL (fst l l.length) ≠ [] := by
      obtain ⟨x, r, e⟩ := List.exists_cons_of_ne_nil hne
      intro e2
      have := (mem_setC cmpS_ord (z := x) (l := fst l l.length)).2 (by rw [e]; simp)
      unfold setL at e2
      rw [e2] at this
      cases this
    rw [of_mean hne hin, points_small (small_set hsm) hsne b3] at e5
    unfold antecedentlaw20_FoldSmall.l0
    rw [if_neg (by omega), e2, Option.bind_some, e5, Option.bind_some]
    refine (if_pos rfl).trans ((if_pos rfl).trans ((if_pos (by simp [four, emp])).trans ?_))
    unfold flo_Of.f
    rw [if_pos hiS, Option.bind_some, if_pos (by unfold inI; omega), Option.bind_some]
    unfold flo_Div.f
    rw [if_pos ⟨gOf_in _, gOf_in _⟩, Option.bind_some]
    simp [four, emp]
  | succ m ih =>
    intro k i hi hk
    obtain ⟨k, rfl⟩ : ∃ k', k = k' + 1 := ⟨k - 1, by omega⟩
    have hil : i < l.length := by omega
    have hx := hl l[i] (List.getElem_mem hil)
    obtain ⟨b1, b2, b3⟩ := bound i (by omega)
    unfold antecedentlaw20_FoldSmall.l0
    rw [if_pos (by omega)]
    have hwx : wrap64 (l[i]) = l[i] := wrap_in (by unfold inI; unfold in32 at hx; omega)
    have hnext := ih
    -- the inner loop
    have inner : ∀ (q k' j : Nat), j + q = i → q + 50 * m + 61 < k' → ∀ b : Bool, (b = true ↔ l[i] ∉ l.take j) → antecedentlaw20_FoldSmall.l1 k' l (fst l i) (sumP (setL (fst l i))) ((setL (fst l i)).length : Int) (i : Int) b (l.length : Int) (i : Int) (i : Int) (j : Int) = some true := by
      intro q
      induction q with
      | zero =>
        intro k' j hj hk' b hb
        obtain ⟨k', rfl⟩ : ∃ k'', k' = k'' + 1 := ⟨k' - 1, by omega⟩
        have e : j = i := by omega
        subst e
        have hflen := fst_len (l := l) (i := j) (by omega)
        unfold antecedentlaw20_FoldSmall.l1
        rw [if_neg (by omega)]
        have h := ih k' (j + 1) (by omega) (by omega)
        rw [fst_snoc hil] at h
        have e1 : (⟨1, wrap64 l[j], (⟨#[]⟩ : ByteArray)⟩ : Sv) = vI l[j] := by rw [hwx]; rfl
        by_cases hm : l[j] ∈ l.take j
        · have hbf : b = false := by
            cases b with
            | false => rfl
            | true => exact absurd hm (hb.1 rfl)
          rw [hbf, if_neg (by simp), if_pos (by omega), if_pos (by omega), rd_int hil, if_pos (by omega), wrap_small (by omega), e1]
          rw [set_snoc_in (mem_fst.2 hm)] at h
          exact h
        · have hbt : b = true := hb.2 hm
          rw [hbt, if_pos rfl, if_pos (by omega), if_pos (by omega), rd_int hil, if_pos (by omega), wrap_small (by omega), e1, hwx]
          have hp := set_snoc_new (l := fst l j) (x := vI l[j]) (fun h => hm (mem_fst.1 h))
          rw [sum_perm hp, hp.length_eq] at h
          have e2 : sumP (vI l[j] :: setL (fst l j)) = sumP (setL (fst l j)) + l[j] := by simp [sumP, vI]; omega
          rw [e2, List.length_cons] at h
          rw [wrap_in (n := sumP (setL (fst l j)) + l[j]) (by unfold inI; unfold in32 at hx; omega), wrap_small (by omega)]
          exact h
      | succ q ihq =>
        intro k' j hj hk' b hb
        obtain ⟨k', rfl⟩ : ∃ k'', k' = k'' + 1 := ⟨k' - 1, by omega⟩
        have hjl : j < l.length := by omega
        unfold antecedentlaw20_FoldSmall.l1
        rw [if_pos (by omega)]
        have hsn : ∀ b' : Bool, (b' = true ↔ l[i] ∉ l.take (j + 1)) → antecedentlaw20_FoldSmall.l1 k' l (fst l i) (sumP (setL (fst l i))) ((setL (fst l i)).length : Int) (i : Int) b' (l.length : Int) (i : Int) (i : Int) ((j + 1 : Nat) : Int) = some true :=
          fun b' hb' => ihq k' (j + 1) (by omega) (by omega) b' hb'
        cases b with
        | true =>
          rw [if_pos rfl, if_pos (by omega), if_pos (by omega), if_pos (by omega), if_pos (by omega), rd_int hil, rd_int hjl, wrap_small (by omega)]
          refine hsn _ ?_
          rw [take_snoc_int hjl, List.mem_append, List.mem_singleton]
          have h1 := hb.1 rfl
          constructor
          · rintro h (h2 | h2)
            · exact h1 h2
            · rw [h2] at h; simp at h
          · intro h
            have : l[j] ≠ l[i] := fun e => h (.inr e.symm)
            simpa using this
        | false =>
          rw [if_neg (by simp), wrap_small (by omega)]
          refine hsn _ ?_
          rw [take_snoc_int hjl, List.mem_append]
          have h1 : l[i] ∈ l.take j := by
            by_cases h : l[i] ∈ l.take j
            · exact h
            · have := hb.2 h; cases this
          constructor
          · intro h; cases h
          · intro h; exact absurd (.inl h1) h
    exact inner i k 0 (by omega) (by omega) true (by simp)
theorem FoldSmall_true (l : List Int) (hl : ∀ x ∈ l, in32 x) : antecedentlaw20_FoldSmall.f 3000 l = some true := by
  unfold antecedentlaw20_FoldSmall.f
  rw [awake_eq 3000 (by omega), Option.bind_some, if_pos rfl]
  have stop : antecedentlaw20_FoldSmall.j0 3000 l true = some true := by
    rw [show (3000 : Nat) = 2999 + 1 from rfl, antecedentlaw20_FoldSmall.j0, if_pos rfl, awake_eq 2999 (by omega), Option.bind_some, if_pos rfl]
  by_cases h : (l.length : Int) > 40
  · rw [if_pos h, stop]
  · rw [if_neg h]
    by_cases h0 : l = []
    · subst h0
      exact stop
    · have h1 : ((l.length : Int) == 0) = false := by
        have : l.length ≠ 0 := fun e => h0 (List.eq_nil_of_length_eq_zero e)
        simpa using this
      rw [h1]
      rw [show (3000 : Nat) = 2999 + 1 from rfl, antecedentlaw20_FoldSmall.j0, if_neg (by simp)]
      have := small_loop l hl (by omega) h0 l.length 2999 0 (by omega) (by omega)
      simpa [fst, setL, setC, sumP] using this
theorem FoldSmall_plain (l : List Int) (hl : l.length ≤ maxLen ∧ ∀ x ∈ l, (Lit.int .i32 x).wf = true) : ∃ k, antecedentlaw20_FoldSmall.f k l = some true := ⟨_, FoldSmall_true l (fun x hx => wf_i32 (hl.2 x hx))⟩
end Go.Proofs.Ytolefpeiceiocaa.Ps
