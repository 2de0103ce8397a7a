/- SafeReady: what the law computes is true. No program's memory in sight. -/
import Derived.Test.YtmgbfgloegcloaaPu6
namespace Go.Proofs.Ytmgbfgloegcloaa.Pu
open Go.RowKit Go.Proofs.YtmgbfgloegcloaaW.PrintWords Go.Proofs.YtmgbfgloegcloaaW.PrintLast Go.Proofs.Ytmgbfgloegcloaa.Ps AnteSet

theorem isB_of {s a : ByteArray} {l : List ByteArray} (hb : isB a l = true) (hs : s.toList ≠ []) (e : a.toList = s.toList) : inB l s = true := by
  rcases isB_iff.1 hb with h | h
  · exact absurd (e ▸ h) hs
  · rw [inB_iff, ← toList_inj e]; exact h
theorem isB_cases {a : ByteArray} {l : List ByteArray} (hb : isB a l = true) : a.toList = [] ∨ inB l a = true := by
  rcases isB_iff.1 hb with h | h
  · exact .inl h
  · exact .inr (inB_iff.2 h)
theorem ready_step (x : S43) (o : List Int) (body : List S43) (v : List ByteArray) (seen : List Bool) (l vs : List ByteArray) (n at_ : Int) (hl : l.length ≤ 100000) (hv : vs.length ≤ 1000) (hr : ready x l = true) (i : Nat) (hi : i < vs.length)
    (hm : vs[i] ∈ vars (terms x)) (R : Bool) (h : Ev (fun k => antecedentlaw11_SafeReady.l1 k body o v seen l n at_ vs (vs.length : Int) ((i + 1 : Nat) : Int) (x.f0) (x.f1.f0) (x.f1.f1) (x.f2) (x.f3.f0) (x.f3.f1.f0) (x.f3.f1.f1) (x.f3.f1.f2) (x.f4.f0) (x.f4.f1.f0) (x.f4.f1.f1) (x.f4.f1.f2) (x.f5.f0) (x.f5.f1.f0) (x.f5.f1.f1) (x.f5.f1.f2) (x.f6)) R) :
    Ev (fun k => antecedentlaw11_SafeReady.l1 k body o v seen l n at_ vs (vs.length : Int) (i : Int) (x.f0) (x.f1.f0) (x.f1.f1) (x.f2) (x.f3.f0) (x.f3.f1.f0) (x.f3.f1.f1) (x.f3.f1.f2) (x.f4.f0) (x.f4.f1.f0) (x.f4.f1.f1) (x.f4.f1.f2) (x.f5.f0) (x.f5.f1.f0) (x.f5.f1.f1) (x.f5.f1.f2) (x.f6)) R := by
  have hne : vs[i].toList ≠ [] := (mem_vars.1 hm).1
  obtain ⟨k1, i1⟩ := in_ev l vs[i] (by omega)
  obtain ⟨k2, i2⟩ := in_ev l x.f4.f0 (by omega)
  obtain ⟨k3, i3⟩ := in_ev l x.f3.f0 (by omega)
  obtain ⟨k4, h⟩ := h
  refine ⟨k1 + k2 + k3 + k4 + 1, fun k hk => ?_⟩
  obtain ⟨k, rfl⟩ : ∃ j, k = j + 1 := ⟨k - 1, by omega⟩
  have go := h k (by omega)
  simp only [antecedentlaw11_SafeReady.l1]
  rw [if_pos (lt_cast hi), if_pos (nn_cast i), if_pos (lt_cast hi), rdOf_nat _ _ _ hi, wrap_succ i (by omega)]
  refine (congrArg (fun t => Option.bind t _) (i1 k (by omega))).trans ?_
  rw [Option.bind_some]
  by_cases c2 : x.f0 = 2
  · rw [if_pos c2]
    have : inB l vs[i] = true := by
      rw [ready_two c2, List.all_eq_true] at hr
      exact hr _ ((mem_nset slo).2 hm)
    rw [if_pos this]
    exact go
  · rw [if_neg c2]
    cases ht : inB l vs[i] with
    | true =>
      rw [if_pos rfl]
      by_cases c4 : x.f0 = 4
      · rw [if_pos c4]; exact go
      · rw [if_neg c4]
        by_cases c3 : x.f0 = 3
        · rw [if_pos c3]
          by_cases ca : x.f3.f0.toList = vs[i].toList
          · rw [if_pos ca]; exact go
          · rw [if_neg ca]; exact go
        · rw [if_neg c3]; exact go
    | false =>
      have no : ∀ {a : ByteArray}, isB a l = true → ¬ a.toList = vs[i].toList := fun hb e => by
        have := isB_of hb hne e
        rw [ht] at this; cases this
      by_cases c4 : x.f0 = 4
      · rw [if_pos c4, if_neg (by decide)]
        unfold ready Ps.readyB at hr
        rw [if_neg c2, if_neg (by omega), if_pos c4, Bool.and_eq_true] at hr
        rw [if_neg (no hr.1), if_neg (no hr.2)]
        exact go
      · rw [if_neg c4]
        by_cases c3 : x.f0 = 3
        · rw [if_pos c3]
          unfold ready Ps.readyB at hr
          rw [if_neg c2, if_pos c3, Bool.or_eq_true, Bool.and_eq_true, Bool.and_eq_true, Bool.or_eq_true, beq_iff_eq] at hr
          by_cases ca : x.f3.f0.toList = vs[i].toList
          · rw [if_pos ca, if_neg (by decide)]
            have hna : ¬ isB x.f3.f0 l = true := fun hb => no hb ca
            have ⟨hop, hb⟩ : x.f2.toList = [61] ∧ isB x.f4.f0 l = true := by
              rcases hr with hr | hr
              · exact absurd hr.1 hna
              · exact ⟨hr.1, hr.2.resolve_left hna⟩
            rw [if_pos hop]
            by_cases e : x.f4.f0.toList = []
            · rw [if_pos e]; exact go
            · rw [if_neg e]
              refine (congrArg (fun t => Option.bind t _) (i2 k (by omega))).trans ?_
              rw [Option.bind_some, (isB_cases hb).resolve_left e, if_pos rfl]
              exact go
          · rw [if_neg ca, if_neg (by decide)]
            by_cases cb : x.f4.f0.toList = vs[i].toList
            · rw [if_pos cb]
              have hnb : ¬ isB x.f4.f0 l = true := fun hb => no hb cb
              have ⟨hop, hb⟩ : x.f2.toList = [61] ∧ isB x.f3.f0 l = true := by
                rcases hr with hr | hr
                · exact absurd hr.2 hnb
                · exact ⟨hr.1, hr.2.resolve_right hnb⟩
              rw [if_pos hop]
              by_cases e : x.f3.f0.toList = []
              · rw [if_pos e]; exact go
              · rw [if_neg e]
                refine (congrArg (fun t => Option.bind t _) (i3 k (by omega))).trans ?_
                rw [Option.bind_some, (isB_cases hb).resolve_left e, if_pos rfl]
                exact go
            · rw [if_neg cb]; exact go
        · rw [if_neg c3]; exact go
theorem ready_l1 (x : S43) (hx : x.f1.f1.length ≤ 10) (o : List Int) (body : List S43) (v : List ByteArray) (seen : List Bool) (l : List ByteArray) (n : Int) (at_ : Nat) (ha : at_ < 1000000) (hl : l.length ≤ 100000) (hr : ready x l = true) (R : Bool)
    (h : Ev (fun k => antecedentlaw11_SafeReady.l0 k body o v seen (next x l) n ((at_ + 1 : Nat) : Int)) R) (d : Nat) :
    ∀ i : Nat, i + d = (names (vars (terms x))).length → Ev (fun k => antecedentlaw11_SafeReady.l1 k body o v seen l n (at_ : Int) (names (vars (terms x))) ((names (vars (terms x))).length : Int) (i : Int) (x.f0) (x.f1.f0) (x.f1.f1) (x.f2) (x.f3.f0) (x.f3.f1.f0) (x.f3.f1.f1) (x.f3.f1.f2) (x.f4.f0) (x.f4.f1.f0) (x.f4.f1.f1) (x.f4.f1.f2) (x.f5.f0) (x.f5.f1.f0) (x.f5.f1.f1) (x.f5.f1.f2) (x.f6)) R := by
  have hv : (names (vars (terms x))).length ≤ (vars (terms x)).length := length_nset slo _
  have hv2 := vars_length (terms x)
  rw [terms_length] at hv2
  induction d with
  | zero =>
    intro i hi
    obtain ⟨k1, b1⟩ := safe_Binds_ev x l (by omega) (by omega)
    obtain ⟨k2, h⟩ := h
    refine ⟨k1 + k2 + 1, fun k hk => ?_⟩
    obtain ⟨k, rfl⟩ : ∃ j, k = j + 1 := ⟨k - 1, by omega⟩
    simp only [antecedentlaw11_SafeReady.l1]
    rw [if_neg (nlt_cast (by omega)), wrap_succ at_ (by omega)]
    refine (congrArg (fun t => Option.bind t _) (b1 k (by omega))).trans ?_
    exact h k (by omega)
  | succ d ih =>
    intro i hi
    have hlt : i < (names (vars (terms x))).length := by omega
    exact ready_step x o body v seen l (names (vars (terms x))) n at_ hl (by omega) hr i hlt ((mem_nset slo).1 (List.getElem_mem hlt)) R (ih (i + 1) (by omega))
theorem rd_ofNat {o : List Nat} {i : Nat} (h : i < o.length) : rd (o.map Int.ofNat) (i : Int) = (o[i] : Int) := by
  have e : (o.map Int.ofNat)[i]'(by simpa using h) = (o[i] : Int) := by simp
  rw [← e]
  unfold rd
  simp [List.getD, List.getElem?_eq_getElem h]
theorem ready_l0 (body : List S43) (hs : Small body) (o : List Nat) (v : List ByteArray) (ho : o.length = body.length) (hv : v.length ≤ 100000) (d : Nat) :
    ∀ (i : Nat) (taken : List Bool) (l : List ByteArray), i + d = o.length → taken.length = body.length → l.length + 13 * d ≤ 1000 → Chain body taken l (o.drop i) v →
    Ev (fun k => antecedentlaw11_SafeReady.l0 k body (o.map Int.ofNat) v taken l (o.length : Int) (i : Int)) true := by
  have hb := hs.1
  induction d with
  | zero =>
    intro i taken l hi ht hl hc
    rw [List.drop_eq_nil_of_le (by omega)] at hc
    have e : v = l := hc
    subst e
    have s1 := same_ev v v (by omega)
    rw [decide_eq_true rfl] at s1
    obtain ⟨k1, s1⟩ := s1
    refine ⟨k1 + 1, fun k hk => ?_⟩
    obtain ⟨k, rfl⟩ : ∃ j, k = j + 1 := ⟨k - 1, by omega⟩
    simp only [antecedentlaw11_SafeReady.l0]
    rw [if_neg (nlt_cast (by omega)), if_pos (by rw [List.length_map, ho])]
    refine (congrArg (fun t => Option.bind t _) (s1 k (by omega))).trans ?_
    rfl
  | succ d ih =>
    intro i taken l hi ht hl hc
    have hlt : i < o.length := by omega
    rw [List.drop_eq_getElem_cons hlt] at hc
    obtain ⟨h1, h2, h3, h4⟩ := hc
    have eb : body.getD o[i] z43 = body[o[i]] := by simp [List.getD, List.getElem?_eq_getElem h1]
    have hx := hs.2 _ (List.getElem_mem h1)
    have hn := next_length body[o[i]] l hx
    rw [eb] at h3 h4
    have g0 := ih (i + 1) (taken.set o[i] true) (next body[o[i]] l) (by omega) (by simpa using ht) (by omega) h4
    obtain ⟨k1, g1⟩ := ready_l1 body[o[i]] hx (o.map Int.ofNat) body v (taken.set o[i] true) l (o.length : Int) i (by omega) (by omega) h3 true g0 (names (vars (terms body[o[i]]))).length 0 (by omega)
    obtain ⟨k2, b1⟩ := safe_Vars_ev body[o[i]] (by omega)
    refine ⟨k1 + k2 + 2, fun k hk => ?_⟩
    obtain ⟨k, rfl⟩ : ∃ j, k = j + 2 := ⟨k - 2, by omega⟩
    simp only [antecedentlaw11_SafeReady.l0]
    have ht2 : o[i] < taken.length := by omega
    have e2 : rdOf false taken ((o[i] : Nat) : Int) = false := by
      rw [rdOf_bool ht2]
      have : taken.getD o[i] false = taken[o[i]] := by simp [List.getD, List.getElem?_eq_getElem ht2]
      rw [← this]; exact h2
    rw [rd_ofNat hlt, if_pos (lt_cast hlt), if_pos (nn_cast i), if_pos (show (i : Int) < ((o.map Int.ofNat).length : Int) by rw [List.length_map]; omega), if_neg (by omega), if_neg (by omega), if_pos (nn_cast _), if_pos (lt_cast ht2), e2]
    simp only [antecedentlaw11_SafeReady.j1]
    rw [if_neg (by decide), rd_ofNat hlt, if_pos (nn_cast i), if_pos (show (i : Int) < ((o.map Int.ofNat).length : Int) by rw [List.length_map]; omega), if_pos (nn_cast _), if_pos (lt_cast ht2), if_pos (lt_cast h1), rd43_nat h1]
    refine (congrArg (fun t => Option.bind t _) (b1 k (by omega))).trans ?_
    rw [Option.bind_some, Int.toNat_natCast]
    exact g1 k (by omega)
theorem chain_length10 {body : List S43} (hs : Small body) : ∀ {r : List Nat} {taken : List Bool} {l v : List ByteArray}, Chain body taken l r v → v.length ≤ l.length + 13 * r.length
  | [], _, _, _, h => by
    have h : _ = _ := h
    rw [h]; simp
  | i :: r, taken, l, v, h => by
    obtain ⟨h1, _, _, h4⟩ := h
    have := chain_length10 hs h4
    have eb : body.getD i z43 = body[i] := by simp [List.getD, List.getElem?_eq_getElem h1]
    have hn := next_length (body.getD i z43) l (by rw [eb]; exact hs.2 _ (List.getElem_mem h1))
    rw [List.length_cons]
    omega
theorem SafeReady_plain (body : List S43) : ∃ k, antecedentlaw11_SafeReady.f k body = some true := by
  obtain ⟨t, hb, hP⟩ := few_ev body []
  obtain ⟨k1, h1⟩ := awake_ev
  obtain ⟨k2, h2⟩ := hb
  cases t with
  | false =>
    refine ⟨k1 + k2, ?_⟩
    unfold antecedentlaw11_SafeReady.f
    refine (congrArg (fun t => Option.bind t _) (h1 (k1 + k2) (by omega))).trans ?_
    rw [Option.bind_some, if_pos rfl]
    refine (congrArg (fun t => Option.bind t _) (h2 (k1 + k2) (by omega))).trans ?_
    rw [Option.bind_some, if_neg (by decide)]
    refine (congrArg (fun t => Option.bind t _) (h1 (k1 + k2) (by omega))).trans ?_
    rfl
  | true =>
    obtain ⟨hs, hl⟩ := hP rfl
    have hb := hs.1
    obtain ⟨k3, h3⟩ := safe_Order_ev body hs [] (by simp)
    cases ho : order body [] with
    | none =>
      rw [ho] at h3
      refine ⟨k1 + k2 + k3, ?_⟩
      unfold antecedentlaw11_SafeReady.f
      refine (congrArg (fun t => Option.bind t _) (h1 _ (by omega))).trans ?_
      rw [Option.bind_some, if_pos rfl]
      refine (congrArg (fun t => Option.bind t _) (h2 _ (by omega))).trans ?_
      rw [Option.bind_some, if_pos rfl]
      refine (congrArg (fun t => Option.bind t _) (h3 _ (by omega))).trans ?_
      rw [Option.bind_some, if_neg (by decide), if_pos (by decide)]
      show some (wrap64 (((0 : Nat) : Int) + ((0 : Nat) : Int)) == 0) = some true
      have e0 : wrap64 (((0 : Nat) : Int) + ((0 : Nat) : Int)) = 0 := by unfold wrap64; omega
      rw [e0]
      rfl
    | some ov =>
      obtain ⟨o, v⟩ := ov
      rw [ho] at h3
      obtain ⟨c1, c2, c3, c4⟩ := order_chain ho
      have hvl := chain_length10 hs c2
      have e0 : names ([] : List ByteArray) = [] := rfl
      rw [e0] at c2 hvl
      rw [List.length_nil] at hvl
      obtain ⟨k4, h4⟩ := ready_l0 body hs o v c1 (by omega) o.length 0 (List.replicate body.length false) [] (by omega) (by simp) (by simp; omega) (by simpa using c2)
      refine ⟨k1 + k2 + k3 + k4, ?_⟩
      unfold antecedentlaw11_SafeReady.f
      refine (congrArg (fun t => Option.bind t _) (h1 _ (by omega))).trans ?_
      rw [Option.bind_some, if_pos rfl]
      refine (congrArg (fun t => Option.bind t _) (h2 _ (by omega))).trans ?_
      rw [Option.bind_some, if_pos rfl]
      refine (congrArg (fun t => Option.bind t _) (h3 _ (by omega))).trans ?_
      rw [Option.bind_some, if_pos (show (told (some (o, v))).2.2 = 0 from rfl), if_pos (by omega), if_pos (by omega)]
      have e5 : (told (some (o, v))).1 = o.map Int.ofNat := rfl
      rw [e5, List.length_map, Int.toNat_natCast]
      exact h4 _ (by omega)
end Go.Proofs.Ytmgbfgloegcloaa.Pu
