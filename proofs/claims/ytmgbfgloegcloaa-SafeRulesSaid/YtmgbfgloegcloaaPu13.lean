/- SafeRules: what the law computes is true. No program's memory in sight. -/
import Derived.Test.YtmgbfgloegcloaaPu11
namespace Go.Proofs.Ytmgbfgloegcloaa.Pu
open Go.RowKit Go.Proofs.YtmgbfgloegcloaaW.PrintWords Go.Proofs.YtmgbfgloegcloaaW.PrintLast Go.Proofs.Ytmgbfgloegcloaa.Ps AnteSet
abbrev RuleR := ByteArray × List S40 × Int × List S43 × Int
def badR : RuleR := (⟨#[]⟩, [], 0, [], 7)
theorem ref_rule_l1 (p : ByteArray) (a : List S40) (f : Int) (b : List S43) (o : List Nat) (ho : o.length ≤ 1000) (hb : ∀ i ∈ o, i < b.length) (d : Nat) : ∀ i : Nat, i + d = o.length →
    Ev (fun k => zt.l1 k (o.map Int.ofNat) (o.length : Int) (i : Int) p a f b p a f ((o.take i).map (fun i => b.getD i z43))) (p, a, f, o.map (fun i => b.getD i z43), 0) := by
  induction d with
  | zero =>
    intro i hi
    refine Ev.step (f := fun _ => some (p, a, f, o.map (fun i => b.getD i z43), 0)) (fun k => ?_) (Ev.now _)
    simp only [zt.l1]
    rw [if_neg (yU (by omega)), List.take_of_length_le (by omega)]
  | succ d ih =>
    intro i hi
    have hlt : i < o.length := by omega
    have hbi := hb _ (List.getElem_mem hlt)
    have e : (o.take (i + 1)).map (fun i => b.getD i z43) = (o.take i).map (fun i => b.getD i z43) ++ [b[o[i]]] := by
      rw [List.take_succ_eq_append_getElem hlt, List.map_append, List.map_singleton]
      simp [List.getD, List.getElem?_eq_getElem hbi]
    have h := ih (i + 1) (by omega)
    rw [e] at h
    refine Ev.step (f := fun k => zt.l1 k (o.map Int.ofNat) (o.length : Int) ((i + 1 : Nat) : Int) p a f b p a f ((o.take i).map (fun i => b.getD i z43) ++ [b[o[i]]])) (fun k => ?_) h
    simp only [zt.l1]
    rw [rdN_ofNat hlt, if_pos (zR hlt), if_pos (yu i), if_pos (show (i : Int) < ((o.map Int.ofNat).length : Int) by rw [List.length_map]; omega), if_pos (yu _), if_pos (zR hbi), if_pos (by rw [List.length_map, List.length_take]; omega), qE hbi, yp i (by omega)]
theorem ref_rule_l0 (p : ByteArray) (a : List S40) (f : Int) (b : List S43) (o : List Nat) (v vs : List ByteArray) (hv : v.length ≤ 100000) (hvs : vs.length ≤ 100000) (G : RuleR)
    (h : Ev (fun k => zt.l1 k (o.map Int.ofNat) ((o.map Int.ofNat).length : Int) 0 p a f b p a f []) G) (d : Nat) : ∀ i : Nat, i + d = vs.length →
    Ev (fun k => zt.l0 k (o.map Int.ofNat) v vs (vs.length : Int) (i : Int) p a f b) (if (vs.drop i).all (fun s => inB v s) = true then G else badR) := by
  induction d with
  | zero =>
    intro i hi
    have hd : vs.drop i = [] := List.drop_eq_nil_of_le (by omega)
    rw [hd, List.all_nil, if_pos rfl]
    refine Ev.step (fun k => ?_) h
    simp only [zt.l0]
    rw [if_neg (yU (by omega))]
  | succ d ih =>
    intro i hi
    have hlt : i < vs.length := by omega
    have hd : vs.drop i = vs[i] :: vs.drop (i + 1) := List.drop_eq_getElem_cons hlt
    obtain ⟨k1, h1⟩ := in_ev v vs[i] (by omega)
    obtain ⟨k2, h2⟩ := ih (i + 1) (by omega)
    refine ⟨k1 + k2 + 1, fun k hk => ?_⟩
    obtain ⟨k, rfl⟩ : ∃ j, k = j + 1 := ⟨k - 1, by omega⟩
    simp only [zt.l0]
    rw [if_pos (zR hlt), if_pos (yu i), if_pos (zR hlt), qg _ _ _ hlt, yp i (by omega)]
    refine (congrArg (fun t => Option.bind t _) (h1 k (by omega))).trans ?_
    rw [Option.bind_some, hd, List.all_cons]
    cases hi2 : inB v vs[i] with
    | true =>
      rw [if_pos rfl, Bool.true_and]
      exact h2 k (by omega)
    | false =>
      rw [if_neg (by decide), Bool.false_and, if_neg (by decide)]
      rfl
theorem heads_all (a : List S40) (v : List ByteArray) : ((names (vars a)).all fun s => inB v s) = !headsFree a v := by
  rw [Bool.eq_iff_iff, List.all_eq_true, Bool.not_eq_true', headsFree, List.any_eq_false]
  constructor
  · intro h t ht
    rw [Bool.not_eq_true, Bool.not_eq_false', isB_iff]
    by_cases e : t.f0.toList = []
    · exact .inl e
    · exact .inr (inB_iff.1 (h t.f0 ((qy slo).2 (mem_vars.2 ⟨e, t, ht, rfl⟩))))
  · intro h s hs
    obtain ⟨h1, t, ht, rfl⟩ := mem_vars.1 ((qy slo).1 hs)
    have := h t ht
    rw [Bool.not_eq_true, Bool.not_eq_false', isB_iff] at this
    exact inB_iff.2 (this.resolve_left h1)
theorem ref_Rule_ev (p : ByteArray) (a : List S40) (f : Int) (b : List S43) (hs : Small b) (ha : a.length ≤ 1000) : Ev (fun k => zt.f k p a f b) (ruleS p a f b) := by
  have hb := hs.1
  obtain ⟨k1, h1⟩ := ref_Order_ev b hs [] (by simp)
  unfold ruleS
  cases ho : order b [] with
  | none =>
    rw [ho] at h1
    refine ⟨k1, fun k hk => ?_⟩
    show zt.f k p a f b = _
    unfold zt.f
    refine (congrArg (fun t => Option.bind t _) (h1 k hk)).trans ?_
    rw [Option.bind_some, if_neg (by decide)]
    rfl
  | some ov =>
    obtain ⟨o, v⟩ := ov
    rw [ho] at h1
    have hl := (qt ho).1
    have hvl : v.length ≤ 100000 := by
      obtain ⟨_, hc, _, e⟩ := qt ho
      have : v.length ≤ ([] ++ (List.range b.length).flatMap (lv b) : List ByteArray).length := by rw [e]; exact length_nset slo _
      have h2 : ((List.range b.length).flatMap (lv b)).length ≤ b.length * 13 := by
        rw [List.length_flatMap]
        have : ∀ (l : List Nat), (∀ i ∈ l, i < b.length) → (l.map fun i => (lv b i).length).sum ≤ l.length * 13 := by
          intro l
          induction l with
          | nil => intro _; simp
          | cons i l ih =>
            intro hi
            have hib := hi i (by simp)
            have eb : b.getD i z43 = b[i] := by simp [List.getD, List.getElem?_eq_getElem hib]
            have h3 := vars_length (terms b[i])
            rw [qp] at h3
            have h4 := hs.2 _ (List.getElem_mem hib)
            have h5 := ih (fun j hj => hi j (List.mem_cons_of_mem _ hj))
            simp only [List.map_cons, List.sum_cons, List.length_cons]
            have h6 : (lv b i).length ≤ 13 := by unfold lv; rw [eb]; omega
            omega
        have := this (List.range b.length) (fun i hi => List.mem_range.1 hi)
        rw [List.length_range] at this
        exact this
      rw [List.nil_append] at this
      omega
    have hn : (names (vars a)).length ≤ (vars a).length := length_nset slo _
    have hn2 := vars_length a
    have e0 : names ([] ++ vars a) = names (vars a) := by rw [List.nil_append]
    have h2 := names_ev a [] (by omega) (by simp)
    rw [e0] at h2
    obtain ⟨k2, h2⟩ := h2
    have h3 := ref_rule_l1 p a f b o (by omega) (order_lt ho) o.length 0 (by omega)
    have h3 : Ev (fun k => zt.l1 k (o.map Int.ofNat) ((o.map Int.ofNat).length : Int) 0 p a f b p a f []) (p, a, f, o.map (fun i => b.getD i z43), 0) := by
      rw [List.length_map]; exact h3
    obtain ⟨k4, h4⟩ := ref_rule_l0 p a f b o v (names (vars a)) hvl (by omega) _ h3 (names (vars a)).length 0 (by omega)
    rw [List.drop_zero, heads_all] at h4
    refine ⟨k1 + k2 + k4, fun k hk => ?_⟩
    show zt.f k p a f b = _
    unfold zt.f
    refine (congrArg (fun t => Option.bind t _) (h1 k (by omega))).trans ?_
    rw [Option.bind_some, if_pos (show (told (some (o, v))).2.2 = 0 from rfl)]
    refine (congrArg (fun t => Option.bind t _) (h2 k (by omega))).trans ?_
    rw [Option.bind_some]
    refine (h4 k (by omega)).trans ?_
    show _ = some (if headsFree a v = true then _ else _)
    cases hf : headsFree a v with
    | true => rfl
    | false => rfl
def progS (q0 : ByteArray) (q1 : List S40) : List S51 → List S51 → List S51 × ByteArray × List S40 × Int
  | [], acc => (acc, q0, q1, 0)
  | x :: r, acc => match ruleS x.f0.f0 x.f0.f1 x.f1 x.f2 with
    | (p, a, f, b, e) => if e = 0 then progS q0 q1 r (acc ++ [⟨⟨p, a⟩, f, b⟩]) else ([], ⟨#[]⟩, [], e)
theorem small_of {x : S51} (h : FineP 13 x) : Small x.f2 := ⟨h.1, fun y hy => (h.2.2 y hy).1⟩
theorem safe_prog_l0 (rules : List S51) (hr : rules.length ≤ 1000) (hf : ∀ x ∈ rules, FineP 13 x) (q0 : ByteArray) (q1 : List S40) (d : Nat) : ∀ (i : Nat) (acc : List S51), i + d = rules.length → acc.length ≤ i →
    Ev (fun k => yh.l0 k rules (rules.length : Int) (i : Int) acc q0 q1) (progS q0 q1 (rules.drop i) acc) := by
  induction d with
  | zero =>
    intro i acc hi ha
    have hd : rules.drop i = [] := List.drop_eq_nil_of_le (by omega)
    rw [hd]
    refine Ev.step (f := fun _ => some (acc, q0, q1, 0)) (fun k => ?_) (Ev.now _)
    simp only [yh.l0]
    rw [if_neg (yU (by omega))]
  | succ d ih =>
    intro i acc hi ha
    have hlt : i < rules.length := by omega
    have hd : rules.drop i = rules[i] :: rules.drop (i + 1) := List.drop_eq_getElem_cons hlt
    have hx := hf _ (List.getElem_mem hlt)
    obtain ⟨k1, h1⟩ := safe_Rule_ev rules[i].f0.f0 rules[i].f0.f1 rules[i].f1 rules[i].f2 (small_of hx)
    rw [hd]
    unfold progS
    rcases hR : ruleS rules[i].f0.f0 rules[i].f0.f1 rules[i].f1 rules[i].f2 with ⟨p, a, f, b, e⟩
    rw [hR] at h1
    by_cases e0 : e = 0
    · obtain ⟨k2, h2⟩ := ih (i + 1) (acc ++ [⟨⟨p, a⟩, f, b⟩]) (by omega) (by simp; omega)
      refine ⟨k1 + k2 + 1, fun k hk => ?_⟩
      obtain ⟨k, rfl⟩ : ∃ j, k = j + 1 := ⟨k - 1, by omega⟩
      simp only [yh.l0]
      rw [if_pos (zR hlt), if_pos (yu i), if_pos (zR hlt), rd51_nat hlt]
      refine (congrArg (fun t => Option.bind t _) (h1 k (by omega))).trans ?_
      rw [Option.bind_some, if_pos e0, if_pos (by omega), yp i (by omega), if_pos e0]
      exact h2 k (by omega)
    · refine ⟨k1 + 1, fun k hk => ?_⟩
      obtain ⟨k, rfl⟩ : ∃ j, k = j + 1 := ⟨k - 1, by omega⟩
      simp only [yh.l0]
      rw [if_pos (zR hlt), if_pos (yu i), if_pos (zR hlt), rd51_nat hlt]
      refine (congrArg (fun t => Option.bind t _) (h1 k (by omega))).trans ?_
      rw [Option.bind_some, if_neg e0, if_neg e0]
theorem ref_prog_l0 (rules : List S51) (hr : rules.length ≤ 1000) (hf : ∀ x ∈ rules, FineP 13 x) (q0 : ByteArray) (q1 : List S40) (d : Nat) : ∀ (i : Nat) (acc : List S51), i + d = rules.length → acc.length ≤ i →
    Ev (fun k => zG.l0 k (rules.length : Int) (i : Int) rules q0 q1 acc q0 q1) (progS q0 q1 (rules.drop i) acc) := by
  induction d with
  | zero =>
    intro i acc hi ha
    have hd : rules.drop i = [] := List.drop_eq_nil_of_le (by omega)
    rw [hd]
    refine Ev.step (f := fun _ => some (acc, q0, q1, 0)) (fun k => ?_) (Ev.now _)
    simp only [zG.l0]
    rw [if_neg (yU (by omega))]
  | succ d ih =>
    intro i acc hi ha
    have hlt : i < rules.length := by omega
    have hd : rules.drop i = rules[i] :: rules.drop (i + 1) := List.drop_eq_getElem_cons hlt
    have hx := hf _ (List.getElem_mem hlt)
    obtain ⟨k1, h1⟩ := ref_Rule_ev rules[i].f0.f0 rules[i].f0.f1 rules[i].f1 rules[i].f2 (small_of hx) (by have := hx.2.1; omega)
    rw [hd]
    unfold progS
    rcases hR : ruleS rules[i].f0.f0 rules[i].f0.f1 rules[i].f1 rules[i].f2 with ⟨p, a, f, b, e⟩
    rw [hR] at h1
    by_cases e0 : e = 0
    · obtain ⟨k2, h2⟩ := ih (i + 1) (acc ++ [⟨⟨p, a⟩, f, b⟩]) (by omega) (by simp; omega)
      refine ⟨k1 + k2 + 1, fun k hk => ?_⟩
      obtain ⟨k, rfl⟩ : ∃ j, k = j + 1 := ⟨k - 1, by omega⟩
      simp only [zG.l0]
      rw [if_pos (zR hlt), if_pos (yu i), if_pos (zR hlt), rd51_nat hlt]
      refine (congrArg (fun t => Option.bind t _) (h1 k (by omega))).trans ?_
      rw [Option.bind_some, if_pos e0, if_pos (by omega), yp i (by omega), if_pos e0]
      exact h2 k (by omega)
    · refine ⟨k1 + 1, fun k hk => ?_⟩
      obtain ⟨k, rfl⟩ : ∃ j, k = j + 1 := ⟨k - 1, by omega⟩
      simp only [zG.l0]
      rw [if_pos (zR hlt), if_pos (yu i), if_pos (zR hlt), rd51_nat hlt]
      refine (congrArg (fun t => Option.bind t _) (h1 k (by omega))).trans ?_
      rw [Option.bind_some, if_neg e0, if_neg e0]
theorem ruleS_fine {x : S51} (h : FineP 13 x) {p : ByteArray} {a : List S40} {f : Int} {b : List S43} {e : Int} (hR : ruleS x.f0.f0 x.f0.f1 x.f1 x.f2 = (p, a, f, b, e)) : FineP 13 ⟨⟨p, a⟩, f, b⟩ := by
  have none_ : FineP 13 ⟨⟨⟨#[]⟩, []⟩, 0, []⟩ := ⟨by simp, by simp, by simp⟩
  unfold ruleS at hR
  cases ho : order x.f2 [] with
  | none =>
    rw [ho] at hR
    injection hR with r1 hR; injection hR with r2 hR; injection hR with r3 hR; injection hR with r4 r5
    subst r1 r2 r3 r4 r5
    exact none_
  | some ov =>
    obtain ⟨o, v⟩ := ov
    rw [ho] at hR
    have hR : (if headsFree x.f0.f1 v = true then ((⟨#[]⟩, [], 0, [], 7) : RuleR) else (x.f0.f0, x.f0.f1, x.f1, o.map (fun i => x.f2.getD i z43), 0)) = (p, a, f, b, e) := hR
    cases hf : headsFree x.f0.f1 v with
    | true =>
      rw [hf, if_pos rfl] at hR
      injection hR with r1 hR; injection hR with r2 hR; injection hR with r3 hR; injection hR with r4 r5
      subst r1 r2 r3 r4 r5
      exact none_
    | false =>
      rw [hf, if_neg (by decide)] at hR
      injection hR with r1 hR; injection hR with r2 hR; injection hR with r3 hR; injection hR with r4 r5
      subst r1 r2 r3 r4 r5
      refine ⟨?_, h.2.1, fun y hy => ?_⟩
      · show (o.map _).length ≤ 13
        rw [List.length_map, (qt ho).1]
        exact h.1
      · obtain ⟨i, hi, rfl⟩ := List.mem_map.1 hy
        have hib := order_lt ho i hi
        have eb : x.f2.getD i z43 = x.f2[i] := by simp [List.getD, List.getElem?_eq_getElem hib]
        rw [eb]
        exact h.2.2 _ (List.getElem_mem hib)
theorem progS_fine (q0 : ByteArray) (q1 : List S40) (hq : q1.length ≤ 10) : ∀ (rules acc : List S51), (∀ x ∈ rules, FineP 13 x) → (∀ x ∈ acc, FineP 13 x) → (progS q0 q1 rules acc).1.length ≤ rules.length + acc.length ∧ (∀ x ∈ (progS q0 q1 rules acc).1, FineP 13 x) ∧ (progS q0 q1 rules acc).2.2.1.length ≤ 10
  | [], acc, _, ha => ⟨by simp [progS], ha, hq⟩
  | x :: r, acc, hr, ha => by
    unfold progS
    rcases hR : ruleS x.f0.f0 x.f0.f1 x.f1 x.f2 with ⟨p, a, f, b, e⟩
    have hx := ruleS_fine (hr x (by simp)) hR
    by_cases e0 : e = 0
    · have ih := progS_fine q0 q1 hq r (acc ++ [⟨⟨p, a⟩, f, b⟩]) (fun y hy => hr y (List.mem_cons_of_mem _ hy)) (fun y hy => by
        rcases List.mem_append.1 hy with h | h
        · exact ha y h
        · rw [List.mem_singleton.1 h]; exact hx)
      simp only [if_pos e0]
      refine ⟨?_, ih.2⟩
      have := ih.1
      simp only [List.length_append, List.length_cons, List.length_nil] at this ⊢
      omega
    · simp only [if_neg e0]
      exact ⟨by simp, by simp, by simp⟩
theorem sameRule_fine {x : S51} (h : FineP 13 x) : Ev (fun k => zj.f k x.f0.f0 x.f0.f1 x.f1 x.f2 x.f0.f0 x.f0.f1 x.f1 x.f2) true :=
  sameRule_self _ _ _ _ (by have := h.2.1; omega) (by have := h.1; omega) h.2.2
theorem sameProg_l0 (rules : List S51) (hr : rules.length ≤ 100000) (hf : ∀ x ∈ rules, FineP 13 x) (q0 : ByteArray) (q1 : List S40) (d : Nat) : ∀ i : Nat, i + d = rules.length →
    Ev (fun k => zv.l0 k (rules.length : Int) (i : Int) rules q0 q1 rules q0 q1) true := by
  induction d with
  | zero =>
    intro i hi
    refine Ev.step (f := fun _ => some true) (fun k => ?_) (Ev.now _)
    simp only [zv.l0]
    rw [if_neg (yU (by omega))]
  | succ d ih =>
    intro i hi
    have hlt : i < rules.length := by omega
    obtain ⟨k1, h1⟩ := sameRule_fine (hf _ (List.getElem_mem hlt))
    obtain ⟨k2, h2⟩ := ih (i + 1) (by omega)
    refine ⟨k1 + k2 + 1, fun k hk => ?_⟩
    obtain ⟨k, rfl⟩ : ∃ j, k = j + 1 := ⟨k - 1, by omega⟩
    simp only [zv.l0]
    rw [if_pos (zR hlt), if_pos (yu i), if_pos (zR hlt), if_pos (zR hlt), rd51_nat hlt]
    refine (congrArg (fun t => Option.bind t _) (h1 k (by omega))).trans ?_
    rw [Option.bind_some, if_pos rfl, yp i (by omega)]
    exact h2 k (by omega)
theorem sameProg_self (rules : List S51) (hr : rules.length ≤ 100000) (hf : ∀ x ∈ rules, FineP 13 x) (q0 : ByteArray) (q1 : List S40) (hq : q1.length ≤ 10) : Ev (fun k => zv.f k rules q0 q1 rules q0 q1) true := by
  obtain ⟨k1, h1⟩ := sameAtom_self q0 q1 (by omega)
  obtain ⟨k2, h2⟩ := sameProg_l0 rules hr hf q0 q1 rules.length 0 (by omega)
  refine ⟨k1 + k2 + 1, fun k hk => ?_⟩
  obtain ⟨k, rfl⟩ : ∃ j, k = j + 1 := ⟨k - 1, by omega⟩
  show zv.f (k + 1) rules q0 q1 rules q0 q1 = some true
  unfold zv.f
  rw [if_pos rfl]
  refine (congrArg (fun t => Option.bind t _) (h1 (k + 1) (by omega))).trans ?_
  rw [Option.bind_some]
  simp only [zv.j0]
  rw [if_neg (by decide)]
  exact h2 k (by omega)
theorem rules_l0 (rules : List S51) (hr : rules.length ≤ 100000) (hf : ∀ x ∈ rules, FineP 13 x) (q0 : ByteArray) (q1 : List S40) (d : Nat) : ∀ i : Nat, i + d = rules.length →
    Ev (fun k => zm.l0 k (rules.length : Int) (i : Int) rules q0 q1) true := by
  induction d with
  | zero =>
    intro i hi
    refine Ev.step (f := fun _ => some true) (fun k => ?_) (Ev.now _)
    simp only [zm.l0]
    rw [if_neg (yU (by omega))]
  | succ d ih =>
    intro i hi
    have hlt : i < rules.length := by omega
    have hx := hf _ (List.getElem_mem hlt)
    obtain ⟨k1, h1⟩ := safe_Rule_ev rules[i].f0.f0 rules[i].f0.f1 rules[i].f1 rules[i].f2 (small_of hx)
    obtain ⟨k2, h2⟩ := ref_Rule_ev rules[i].f0.f0 rules[i].f0.f1 rules[i].f1 rules[i].f2 (small_of hx) (by have := hx.2.1; omega)
    rcases hR : ruleS rules[i].f0.f0 rules[i].f0.f1 rules[i].f1 rules[i].f2 with ⟨p, a, f, b, e⟩
    rw [hR] at h1 h2
    obtain ⟨k3, h3⟩ := sameRule_fine (ruleS_fine hx hR)
    obtain ⟨k4, h4⟩ := ih (i + 1) (by omega)
    refine ⟨k1 + k2 + k3 + k4 + 1, fun k hk => ?_⟩
    obtain ⟨k, rfl⟩ : ∃ j, k = j + 1 := ⟨k - 1, by omega⟩
    simp only [zm.l0]
    rw [if_pos (zR hlt), if_pos (yu i), if_pos (zR hlt), rd51_nat hlt]
    refine (congrArg (fun t => Option.bind t _) (h1 k (by omega))).trans ?_
    refine (congrArg (fun t => Option.bind t _) (h2 k (by omega))).trans ?_
    refine (congrArg (fun t => Option.bind t _) (h3 k (by omega))).trans ?_
    rw [Option.bind_some, if_pos rfl, if_pos rfl, yp i (by omega)]
    exact h4 k (by omega)
theorem SafeRules_plain (rules : List S51) (q0 : ByteArray) (q1 : List S40) : ∃ k, zm.f k rules q0 q1 = some true := by
  obtain ⟨t, hw, hP⟩ := Few_evP 10 13 (by omega) (by omega) rules q0 q1
  obtain ⟨k1, h1⟩ := awake_ev
  obtain ⟨k2, h2⟩ := hw
  cases t with
  | false =>
    refine ⟨k1 + k2, ?_⟩
    unfold zm.f
    refine (congrArg (fun t => Option.bind t _) (h1 _ (by omega))).trans ?_
    rw [Option.bind_some, if_pos rfl]
    refine (congrArg (fun t => Option.bind t _) (h2 _ (by omega))).trans ?_
    rw [Option.bind_some, if_neg (by decide)]
    refine (congrArg (fun t => Option.bind t _) (h1 _ (by omega))).trans ?_
    rfl
  | true =>
    obtain ⟨hr, hq, hf⟩ := hP rfl
    have h3 := safe_prog_l0 rules (by omega) hf q0 q1 rules.length 0 [] (by omega) (by simp)
    have h4 := ref_prog_l0 rules (by omega) hf q0 q1 rules.length 0 [] (by omega) (by simp)
    rw [List.drop_zero] at h3 h4
    obtain ⟨k3, h3⟩ := h3
    obtain ⟨k4, h4⟩ := h4
    obtain ⟨f1, f2, f3⟩ := progS_fine q0 q1 hq rules [] hf (by simp)
    rw [List.length_nil] at f1
    obtain ⟨k5, h5⟩ := sameProg_self (progS q0 q1 rules []).1 (by omega) f2 (progS q0 q1 rules []).2.1 (progS q0 q1 rules []).2.2.1 f3
    obtain ⟨k6, h6⟩ := rules_l0 rules (by omega) hf q0 q1 rules.length 0 (by omega)
    refine ⟨k1 + k2 + k3 + k4 + k5 + k6 + 1, ?_⟩
    unfold zm.f
    refine (congrArg (fun t => Option.bind t _) (h1 _ (by omega))).trans ?_
    rw [Option.bind_some, if_pos rfl]
    refine (congrArg (fun t => Option.bind t _) (h2 _ (by omega))).trans ?_
    rw [Option.bind_some, if_pos rfl]
    refine (congrArg (fun t => Option.bind t _) (h3 _ (by omega))).trans ?_
    refine (congrArg (fun t => Option.bind t _) (h4 _ (by omega))).trans ?_
    refine (congrArg (fun t => Option.bind t _) (h5 _ (by omega))).trans ?_
    have e : ((progS q0 q1 rules []).2.2.2 != (progS q0 q1 rules []).2.2.2) = false := by simp
    rw [Option.bind_some, if_pos rfl, e]
    simp only [zm.j0]
    rw [if_neg (by decide)]
    exact h6 _ (by omega)
end Go.Proofs.Ytmgbfgloegcloaa.Pu
