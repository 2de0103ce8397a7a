/- THE ORDER OF A RULE: what is in order stays so; what is turned about is so as well; what a rule is alike with. No program's memory in sight. -/
import Derived.Test.YtmgbfgloegcloaaPtD
import Derived.Test.YtmgbfgloegcloaaPu6
namespace Go.Proofs.Ytmgbfgloegcloaa.Pu
open Go.RowKit Go.Proofs.YtmgbfgloegcloaaW.PrintWords Go.Proofs.YtmgbfgloegcloaaW.PrintLast Go.Proofs.Ytmgbfgloegcloaa.Ps AnteSet
def FineP (m : Nat) (x : S51) : Prop := x.f2.length ≤ m ∧ x.f0.f1.length ≤ 10 ∧ ∀ y ∈ x.f2, (y.f1.f1.length ≤ 10 ∧ y.f6.length ≤ 30)
theorem few_l1P (m : Nat) (rules : List S51) (p : ByteArray) (q : List S40) (i : Nat) (x : S51) (hx : x.f2.length ≤ 1000) (P : Prop)
    (next : ∀ s : Int, 0 ≤ s → s ≤ 60 → ∃ b, Ev (fun k => zl.l0 k (m : Int) s (rules.length : Int) (wrap64 ((i : Int) + 1)) rules p q) b ∧ (b = true → P)) (d : Nat) :
    ∀ (j : Nat) (s : Int), j + d = x.f2.length → 0 ≤ s → s ≤ 60 →
      ∃ b, Ev (fun k => zl.l1 k (m : Int) s (rules.length : Int) (i : Int) (x.f2.length : Int) (j : Int) rules p q x.f0.f0 x.f0.f1 x.f1 x.f2) b ∧ (b = true → P ∧ ∀ y ∈ x.f2.drop j, (y.f1.f1.length ≤ 10 ∧ y.f6.length ≤ 30)) := by
  induction d with
  | zero =>
    intro j s hj h0 h1
    have hd : x.f2.drop j = [] := List.drop_eq_nil_of_le (by omega)
    obtain ⟨b, hb, hP⟩ := next s h0 h1
    refine ⟨b, Ev.step (f := fun k => zl.l0 k (m : Int) s (rules.length : Int) (wrap64 ((i : Int) + 1)) rules p q) (fun k => ?_) hb, fun e => ⟨hP e, by rw [hd]; simp⟩⟩
    simp only [zl.l1]
    rw [if_neg (yU (by omega))]
  | succ d ih =>
    intro j s hj h0 h1
    have hlt : j < x.f2.length := by omega
    have hd : x.f2.drop j = x.f2[j] :: x.f2.drop (j + 1) := List.drop_eq_getElem_cons hlt
    by_cases e1 : (x.f2[j].f6.length : Int) > 30
    · refine ⟨false, Ev.step (f := fun _ => some false) (fun k => ?_) (Ev.now _), fun e => by cases e⟩
      simp only [zl.l1]
      rw [if_pos (zR hlt), if_pos (yu j), if_pos (zR hlt), qE hlt, if_pos e1]
    · by_cases e2 : (x.f2[j].f1.f1.length : Int) > 10
      · refine ⟨false, Ev.step (f := fun _ => some false) (fun k => ?_) (Ev.now _), fun e => by cases e⟩
        simp only [zl.l1]
        rw [if_pos (zR hlt), if_pos (yu j), if_pos (zR hlt), qE hlt, if_neg e1, if_pos e2]
      · have ew : wrap64 (s + (x.f2[j].f6.length : Int)) = s + (x.f2[j].f6.length : Int) := by unfold wrap64; omega
        by_cases e3 : s + (x.f2[j].f6.length : Int) > 60
        · refine ⟨false, Ev.step (f := fun _ => some false) (fun k => ?_) (Ev.now _), fun e => by cases e⟩
          simp only [zl.l1]
          rw [if_pos (zR hlt), if_pos (yu j), if_pos (zR hlt), qE hlt, if_neg e1, if_neg e2, ew, if_pos e3]
        · obtain ⟨b, hb, hP⟩ := ih (j + 1) (s + (x.f2[j].f6.length : Int)) (by omega) (by omega) (by omega)
          refine ⟨b, Ev.step (f := fun k => zl.l1 k (m : Int) (s + (x.f2[j].f6.length : Int)) (rules.length : Int) (i : Int) (x.f2.length : Int) ((j + 1 : Nat) : Int) rules p q x.f0.f0 x.f0.f1 x.f1 x.f2) (fun k => ?_) hb, fun e => ?_⟩
          · simp only [zl.l1]
            rw [if_pos (zR hlt), if_pos (yu j), if_pos (zR hlt), qE hlt, if_neg e1, if_neg e2, ew, if_neg e3, yp j (by omega)]
          · obtain ⟨h2, h3⟩ := hP e
            refine ⟨h2, fun y hy => ?_⟩
            rw [hd] at hy
            rcases List.mem_cons.1 hy with rfl | hy
            · exact ⟨by omega, by omega⟩
            · exact h3 y hy
theorem few_l0P (m : Nat) (hm : m ≤ 1000) (rules : List S51) (hr : rules.length ≤ 1000) (p : ByteArray) (q : List S40) (d : Nat) : ∀ (i : Nat) (s : Int), i + d = rules.length → 0 ≤ s → s ≤ 60 →
    ∃ b, Ev (fun k => zl.l0 k (m : Int) s (rules.length : Int) (i : Int) rules p q) b ∧ (b = true → ∀ x ∈ rules.drop i, FineP m x) := by
  induction d with
  | zero =>
    intro i s hi h0 h1
    have hd : rules.drop i = [] := List.drop_eq_nil_of_le (by omega)
    refine ⟨true, Ev.step (f := fun _ => some true) (fun k => ?_) (Ev.now _), fun _ => by rw [hd]; simp⟩
    simp only [zl.l0]
    rw [if_neg (yU (by omega))]
  | succ d ih =>
    intro i s hi h0 h1
    have hlt : i < rules.length := by omega
    have hd : rules.drop i = rules[i] :: rules.drop (i + 1) := List.drop_eq_getElem_cons hlt
    by_cases e1 : (rules[i].f2.length : Int) > (m : Int)
    · refine ⟨false, Ev.step (f := fun k => zl.j2 k (m : Int) s (rules.length : Int) (i : Int) true rules p q rules[i].f0.f0 rules[i].f0.f1 rules[i].f1 rules[i].f2) (fun k => ?_) (Ev.step (f := fun _ => some false) (fun k => ?_) (Ev.now _)), fun e => by cases e⟩
      · simp only [zl.l0]
        rw [if_pos (zR hlt), if_pos (yu i), if_pos (zR hlt), rd51_nat hlt, if_pos e1]
      · simp only [zl.j2]
        first | rw [if_pos rfl] | simp
    · by_cases e2 : (rules[i].f0.f1.length : Int) > 10
      · refine ⟨false, Ev.step (f := fun k => zl.j2 k (m : Int) s (rules.length : Int) (i : Int) true rules p q rules[i].f0.f0 rules[i].f0.f1 rules[i].f1 rules[i].f2) (fun k => ?_) (Ev.step (f := fun _ => some false) (fun k => ?_) (Ev.now _)), fun e => by cases e⟩
        · simp only [zl.l0]
          rw [if_pos (zR hlt), if_pos (yu i), if_pos (zR hlt), rd51_nat hlt, if_neg e1, decide_eq_true e2]
        · simp only [zl.j2]
          first | rw [if_pos rfl] | simp
      · obtain ⟨b, hb, hP⟩ := few_l1P m rules p q i rules[i] (by omega) (∀ x ∈ rules.drop (i + 1), FineP m x) (fun s h0 h1 => by
          rw [yp i (by omega)]; exact ih (i + 1) s (by omega) h0 h1) rules[i].f2.length 0 s (by omega) h0 h1
        refine ⟨b, Ev.step (f := fun k => zl.j2 k (m : Int) s (rules.length : Int) (i : Int) false rules p q rules[i].f0.f0 rules[i].f0.f1 rules[i].f1 rules[i].f2) (fun k => ?_) (Ev.step (f := fun k => zl.l1 k (m : Int) s (rules.length : Int) (i : Int) (rules[i].f2.length : Int) ((0 : Nat) : Int) rules p q rules[i].f0.f0 rules[i].f0.f1 rules[i].f1 rules[i].f2) (fun k => ?_) hb), fun e => ?_⟩
        · simp only [zl.l0]
          rw [if_pos (zR hlt), if_pos (yu i), if_pos (zR hlt), rd51_nat hlt, if_neg e1, decide_eq_false e2]
        · simp only [zl.j2]
          rw [if_neg (by decide)]
          rfl
        · obtain ⟨h2, h3⟩ := hP e
          intro x hx
          rw [hd] at hx
          rcases List.mem_cons.1 hx with rfl | hx
          · exact ⟨by omega, by omega, by simpa using h3⟩
          · exact h2 x hx
theorem Few_evP (r m : Nat) (hr : r ≤ 1000) (hm : m ≤ 1000) (rules : List S51) (p : ByteArray) (q : List S40) :
    ∃ b, Ev (fun k => zl.f k rules p q (r : Int) (m : Int)) b ∧ (b = true → rules.length ≤ r ∧ q.length ≤ 10 ∧ ∀ x ∈ rules, FineP m x) := by
  by_cases e1 : (rules.length : Int) > (r : Int)
  · refine ⟨false, ?_, fun e => by cases e⟩
    refine Ev.congr (f := fun k => zl.j0 k (m : Int) true rules p q) (fun k => ?_) (Ev.step (f := fun _ => some false) (fun k => ?_) (Ev.now _))
    · unfold zl.f
      rw [if_pos e1]
    · simp only [zl.j0]
      first | rw [if_pos rfl] | simp
  · by_cases e2 : (q.length : Int) > 10
    · refine ⟨false, ?_, fun e => by cases e⟩
      refine Ev.congr (f := fun k => zl.j0 k (m : Int) true rules p q) (fun k => ?_) (Ev.step (f := fun _ => some false) (fun k => ?_) (Ev.now _))
      · unfold zl.f
        rw [if_neg e1, decide_eq_true e2]
      · simp only [zl.j0]
        first | rw [if_pos rfl] | simp
    · obtain ⟨b, hb, hP⟩ := few_l0P m hm rules (by omega) p q rules.length 0 0 (by omega) (by omega) (by omega)
      refine ⟨b, ?_, fun e => ⟨by omega, by omega, by simpa using hP e⟩⟩
      refine Ev.congr (f := fun k => zl.j0 k (m : Int) false rules p q) (fun k => ?_) (Ev.step (f := fun k => zl.l0 k (m : Int) 0 (rules.length : Int) ((0 : Nat) : Int) rules p q) (fun k => ?_) hb)
      · unfold zl.f
        rw [if_neg e1, decide_eq_false e2]
      · simp only [zl.j0]
        rw [if_neg (by decide)]
        rfl
theorem few_evP (body : List S43) (bound : List ByteArray) : ∃ b, Ev (fun k => antecedentlaw11_few.f k body bound) b ∧ (b = true → Small body ∧ (∀ x ∈ body, x.f6.length ≤ 30) ∧ bound.length ≤ 20) := by
  obtain ⟨b, hb, hP⟩ := Few_evP 1 13 (by omega) (by omega) [(⟨⟨⟨#[]⟩, []⟩, 0, body⟩ : S51)] ⟨#[]⟩ []
  refine ⟨if b = true then decide ((bound.length : Int) ≤ 20) else false, ?_, fun e => ?_⟩
  · refine Ev.congr (fun k => ?_) (Ev.bind (f := fun _ t => if t = true then some (decide ((bound.length : Int) ≤ 20)) else some false) hb ?_)
    · rfl
    · cases b with
      | true => simpa using Ev.now _
      | false => simpa using Ev.now _
  · cases b with
    | false => simp at e
    | true =>
      obtain ⟨_, _, h3⟩ := hP rfl
      obtain ⟨f1, _, f3⟩ := h3 _ (List.mem_singleton.2 rfl)
      exact ⟨⟨f1, fun y hy => (f3 y hy).1⟩, fun y hy => (f3 y hy).2, by simp at e; omega⟩
theorem eqv_self (s : ByteArray) (p q : Int) (z : ByteArray) : (!(s.toList == s.toList) || ((!(p == p) || (!(q == q) || (!(z.toList == z.toList)))))) = false := by simp
theorem sameAtom_loop (p : ByteArray) (a : List S40) (ha : a.length < 1000000) (d : Nat) : ∀ i : Nat, i + d = a.length → Ev (fun k => zx.l0 k (a.length : Int) (i : Int) p a p a) true := by
  induction d with
  | zero =>
    intro i hi
    refine Ev.step (f := fun _ => some true) (fun k => ?_) (Ev.now _)
    simp only [zx.l0]
    rw [if_neg (yU (by omega))]
  | succ d ih =>
    intro i hi
    have hlt : i < a.length := by omega
    refine Ev.step (f := fun k => zx.l0 k (a.length : Int) ((i + 1 : Nat) : Int) p a p a) (fun k => ?_) (ih (i + 1) (by omega))
    simp only [zx.l0]
    rw [if_pos (zR hlt), if_pos (yu i), if_pos (zR hlt), if_pos (zR hlt), eqv_self, if_neg (by decide), yp i (by omega)]
theorem sameAtom_self (p : ByteArray) (a : List S40) (ha : a.length < 1000000) : Ev (fun k => zx.f k p a p a) true := by
  refine Ev.congr (fun k => ?_) (Ev.step (f := fun k => zx.l0 k (a.length : Int) ((0 : Nat) : Int) p a p a) (g := fun k => zx.j0 k false p a p a) (fun k => ?_) (sameAtom_loop p a ha a.length 0 (by omega)))
  · unfold zx.f
    rw [if_pos rfl]
    have : ((a.length : Int) != (a.length : Int)) = false := by simp
    rw [this]
  · simp only [zx.j0]
    rw [if_neg (by decide)]
    rfl
theorem samePath_loop (a : List S82) (ha : a.length < 1000000) (d : Nat) : ∀ i : Nat, i + d = a.length → Ev (fun k => zH.l0 k a a (a.length : Int) (i : Int)) true := by
  induction d with
  | zero =>
    intro i hi
    refine Ev.step (f := fun _ => some true) (fun k => ?_) (Ev.now _)
    simp only [zH.l0]
    rw [if_neg (yU (by omega))]
  | succ d ih =>
    intro i hi
    have hlt : i < a.length := by omega
    refine Ev.step (f := fun k => zH.l0 k a a (a.length : Int) ((i + 1 : Nat) : Int)) (fun k => ?_) (ih (i + 1) (by omega))
    simp only [zH.l0]
    rw [if_pos (zR hlt), if_pos (yu i), if_pos (zR hlt), if_pos (zR hlt), if_neg (by simp), yp i (by omega)]
theorem samePath_self (a : List S82) (ha : a.length < 1000000) : Ev (fun k => zH.f k a a) true := by
  refine Ev.congr (fun k => ?_) (samePath_loop a ha a.length 0 (by omega))
  unfold zH.f
  rw [if_pos rfl]
  rfl
theorem sameRule_loop (p : ByteArray) (a : List S40) (f : Int) (b : List S43) (hb : b.length < 1000000) (hx : ∀ x ∈ b, x.f1.f1.length ≤ 10 ∧ x.f6.length ≤ 30) (d : Nat) : ∀ i : Nat, i + d = b.length → Ev (fun k => zj.l0 k (b.length : Int) (i : Int) p a f b p a f b) true := by
  induction d with
  | zero =>
    intro i hi
    refine Ev.step (f := fun _ => some true) (fun k => ?_) (Ev.now _)
    simp only [zj.l0]
    rw [if_neg (yU (by omega))]
  | succ d ih =>
    intro i hi
    have hlt : i < b.length := by omega
    have hxi := hx _ (List.getElem_mem hlt)
    obtain ⟨k1, h1⟩ := sameAtom_self b[i].f1.f0 b[i].f1.f1 (by omega)
    obtain ⟨k2, h2⟩ := samePath_self b[i].f6 (by omega)
    obtain ⟨k3, h3⟩ := ih (i + 1) (by omega)
    refine ⟨k1 + k2 + k3 + 1, fun k hk => ?_⟩
    obtain ⟨k, rfl⟩ : ∃ j, k = j + 1 := ⟨k - 1, by omega⟩
    simp only [zj.l0]
    rw [if_pos (zR hlt), if_pos (yu i), if_pos (zR hlt), if_pos (zR hlt), qE hlt, if_pos trivial, if_pos trivial, eqv_self, eqv_self, eqv_self, if_neg (by decide), if_neg (by decide), if_neg (by decide)]
    refine (congrArg (fun t => Option.bind t _) (h1 k (by omega))).trans ?_
    rw [Option.bind_some, if_pos rfl]
    refine (congrArg (fun t => Option.bind t _) (h2 k (by omega))).trans ?_
    rw [Option.bind_some, if_pos rfl, yp i (by omega)]
    exact h3 k (by omega)
theorem sameRule_self (p : ByteArray) (a : List S40) (f : Int) (b : List S43) (ha : a.length < 1000000) (hb : b.length < 1000000) (hx : ∀ x ∈ b, x.f1.f1.length ≤ 10 ∧ x.f6.length ≤ 30) :
    Ev (fun k => zj.f k p a f b p a f b) true := by
  obtain ⟨k1, h1⟩ := sameAtom_self p a ha
  obtain ⟨k2, h2⟩ := sameRule_loop p a f b hb hx b.length 0 (by omega)
  refine ⟨k1 + k2 + 1, fun k hk => ?_⟩
  obtain ⟨k, rfl⟩ : ∃ j, k = j + 1 := ⟨k - 1, by omega⟩
  show zj.f (k + 1) p a f b p a f b = some true
  unfold zj.f
  rw [if_pos rfl]
  refine (congrArg (fun t => Option.bind t _) (h1 (k + 1) (by omega))).trans ?_
  have : ((b.length : Int) != (b.length : Int)) = false := by simp
  rw [Option.bind_some, if_pos rfl, this]
  simp only [zj.j0]
  rw [if_neg (by decide)]
  exact h2 k (by omega)
def headsFree (a : List S40) (v : List ByteArray) : Bool := a.any fun t => !isB t.f0 v
def ruleS (p : ByteArray) (a : List S40) (f : Int) (b : List S43) : ByteArray × List S40 × Int × List S43 × Int :=
  match order b [] with
  | none => (⟨#[]⟩, [], 0, [], 7)
  | some (o, v) => if headsFree a v = true then (⟨#[]⟩, [], 0, [], 7) else (p, a, f, o.map (fun i => b.getD i z43), 0)
theorem rdN_ofNat {o : List Nat} {i : Nat} (h : i < o.length) : rd (o.map Int.ofNat) (i : Int) = (o[i] : Int) := by
  have e : (o.map Int.ofNat)[i]'(by simpa using h) = (o[i] : Int) := by simp
  rw [← e]
  unfold rd
  simp [List.getD, List.getElem?_eq_getElem h]
theorem rule_loop (p : ByteArray) (a : List S40) (f : Int) (b : List S43) (o : List Nat) (ho : o.length ≤ 1000) (hb : ∀ i ∈ o, i < b.length) (d : Nat) : ∀ i : Nat, i + d = o.length →
    Ev (fun k => zW.l0 k (o.map Int.ofNat) (o.length : Int) (i : Int) p a f b p a f ((o.take i).map (fun i => b.getD i z43))) (p, a, f, o.map (fun i => b.getD i z43), 0) := by
  induction d with
  | zero =>
    intro i hi
    refine Ev.step (f := fun _ => some (p, a, f, o.map (fun i => b.getD i z43), 0)) (fun k => ?_) (Ev.now _)
    simp only [zW.l0]
    rw [if_neg (yU (by omega)), List.take_of_length_le (by omega)]
  | succ d ih =>
    intro i hi
    have hlt : i < o.length := by omega
    have hbi := hb _ (List.getElem_mem hlt)
    have e : (o.take (i + 1)).map (fun i => b.getD i z43) = (o.take i).map (fun i => b.getD i z43) ++ [b[o[i]]] := by
      rw [List.take_succ_eq_append_getElem hlt, List.map_append, List.map_singleton]
      simp [List.getD, List.getElem?_eq_getElem hbi]
    have h := ih (i + 1) (by omega)
    rw [e] at h
    refine Ev.step (f := fun k => zW.l0 k (o.map Int.ofNat) (o.length : Int) ((i + 1 : Nat) : Int) p a f b p a f ((o.take i).map (fun i => b.getD i z43) ++ [b[o[i]]])) (fun k => ?_) h
    simp only [zW.l0]
    rw [rdN_ofNat hlt, if_pos (zR hlt), if_pos (yu i), if_pos (show (i : Int) < ((o.map Int.ofNat).length : Int) by rw [List.length_map]; omega), if_pos (yu _), if_pos (zR hbi), if_pos (by rw [List.length_map, List.length_take]; omega), qE hbi, yp i (by omega)]
theorem order_lt {b : List S43} {bound : List ByteArray} {o : List Nat} {v : List ByteArray} (h : order b bound = some (o, v)) : ∀ i ∈ o, i < b.length :=
  fun i hi => (chain_untaken (by simp) (qt h).2.1 i hi).1
theorem safe_Rule_ev (p : ByteArray) (a : List S40) (f : Int) (b : List S43) (hs : Small b) : Ev (fun k => zW.f k p a f b) (ruleS p a f b) := by
  have hb := hs.1
  obtain ⟨k1, h1⟩ := safe_Order_ev b hs [] (by simp)
  unfold ruleS
  cases ho : order b [] with
  | none =>
    rw [ho] at h1
    refine ⟨k1, fun k hk => ?_⟩
    show zW.f k p a f b = _
    unfold zW.f
    refine (congrArg (fun t => Option.bind t _) (h1 k hk)).trans ?_
    rw [Option.bind_some, if_neg (by decide)]
    rfl
  | some ov =>
    obtain ⟨o, v⟩ := ov
    rw [ho] at h1
    have hl := (qt ho).1
    obtain ⟨k2, h2⟩ := rule_loop p a f b o (by omega) (order_lt ho) o.length 0 (by omega)
    refine ⟨k1 + k2, fun k hk => ?_⟩
    show zW.f k p a f b = _
    unfold zW.f
    refine (congrArg (fun t => Option.bind t _) (h1 k (by omega))).trans ?_
    rw [Option.bind_some, if_pos (show (told (some (o, v))).2.2 = 0 from rfl)]
    have e : qj.f a (told (some (o, v))).2.1 = some (headsFree a v) := rfl
    rw [e, Option.bind_some]
    show (if headsFree a v = true then _ else _) = some (if headsFree a v = true then _ else _)
    cases hf : headsFree a v with
    | true => rw [if_pos rfl, if_pos rfl]
    | false =>
      rw [if_neg (by decide), if_neg (by decide)]
      have e2 : (told (some (o, v))).1 = o.map Int.ofNat := rfl
      rw [e2, List.length_map]
      exact h2 k (by omega)
theorem chain_map {b b' : List S43} (g : Nat → Nat) (hg : ∀ i, i < b.length → g i < b'.length ∧ b'.getD (g i) z43 = b.getD i z43) (hi : ∀ i j, i < b.length → j < b.length → g i = g j → i = j) :
    ∀ {r : List Nat} {tk tk' : List Bool} {l v : List ByteArray}, tk.length = b.length → tk'.length = b'.length → (∀ i, i < b.length → tk.getD i false = false → tk'.getD (g i) false = false) → Chain b tk l r v → Chain b' tk' l (r.map g) v
  | [], _, _, _, _, _, _, _, h => h
  | i :: r, tk, tk', l, v, hl, hl', ht, h => by
    obtain ⟨h1, h2, h3, h4⟩ := h
    obtain ⟨g1, g2⟩ := hg i h1
    refine ⟨g1, ht i h1 h2, by rw [g2]; exact h3, ?_⟩
    rw [g2]
    refine chain_map g hg hi (by simpa using hl) (by simpa using hl') (fun j hj hf => ?_) h4
    by_cases e : i = j
    · subst e
      rw [getD_set_self (by omega)] at hf
      cases hf
    · rw [getD_set_ne e] at hf
      have : g i ≠ g j := fun e2 => e (hi i j h1 hj e2)
      rw [getD_set_ne this]
      exact ht j hj hf
theorem order_turned {b b' : List S43} (_hl : b'.length = b.length) (g : Nat → Nat) (hg : ∀ i, i < b.length → g i < b'.length ∧ b'.getD (g i) z43 = b.getD i z43) (hi : ∀ i j, i < b.length → j < b.length → g i = g j → i = j)
    (hsur : ∀ j, j < b'.length → ∃ i, i < b.length ∧ g i = j) {bound : List ByteArray} {o : List Nat} {v : List ByteArray} (h : order b bound = some (o, v)) : ∃ o', order b' bound = some (o', v) := by
  obtain ⟨h1, h2, h3, h4⟩ := qt h
  have hc : Chain b' (List.replicate b'.length false) (names bound) (o.map g) v := chain_map g hg hi (by simp) (by simp) (fun i _ _ => qx _ _) h2
  have hall : ∀ j, j < b'.length → j ∈ o.map g := fun j hj => by
    obtain ⟨i, hi2, e⟩ := hsur j hj
    exact List.mem_map.2 ⟨i, h3 i hi2, e⟩
  obtain ⟨o', w, hr⟩ := run_goes hc hall b'.length (List.replicate b'.length false) (names bound) [] (by simp) (by rw [List.count_replicate_self]) (fun s hs => hs) (fun i _ ht => by rw [qx] at ht; cases ht)
  have ho : order b' bound = some (o', w) := hr
  obtain ⟨_, c2, c3, c4⟩ := qt ho
  refine ⟨o', ?_⟩
  rw [ho]
  have e : w = v := by
    rw [c4, h4]
    refine nset_congr slo fun s => ?_
    simp only [List.mem_append, List.mem_flatMap, List.mem_range]
    constructor
    · rintro (m | ⟨j, hj, m⟩)
      · exact .inl m
      · obtain ⟨i, hi2, rfl⟩ := hsur j hj
        refine .inr ⟨i, hi2, ?_⟩
        unfold lv at m ⊢
        rwa [(hg i hi2).2] at m
    · rintro (m | ⟨i, hi2, m⟩)
      · exact .inl m
      · refine .inr ⟨g i, (hg i hi2).1, ?_⟩
        unfold lv at m ⊢
        rwa [(hg i hi2).2]
  rw [e]
theorem run_straight {b : List S43} {v : List ByteArray} : ∀ {n i : Nat} {tk : List Bool} {l : List ByteArray} {out : List Nat}, i + n = b.length → tk.length = b.length → (∀ j, j < b.length → tk.getD j false = decide (j < i)) →
    Chain b tk l ((List.range n).map (· + i)) v → run b n tk l out = some (out ++ (List.range n).map (· + i), v)
  | 0, i, tk, l, out, _, _, _, h => by
    have : v = l := h
    subst this
    simp [run]
  | n + 1, i, tk, l, out, hi, ht, hk, h => by
    rw [List.range_succ_eq_map, List.map_cons] at h ⊢
    obtain ⟨h1, h2, h3, h4⟩ := h
    have e0 : 0 + i = i := Nat.zero_add i
    rw [e0] at h1 h2 h3 h4
    have hp : ∀ m d, i + m = b.length - d → ∀ q, q + m + 0 = i + m → True := fun _ _ _ _ _ => trivial
    have pk : ∀ (e s : Nat), s + e = i → ∀ d, d = b.length - s → pick b tk l d s = some i := by
      intro e
      induction e with
      | zero =>
        intro s hs d hd
        obtain rfl : s = i := by omega
        obtain ⟨d, rfl⟩ : ∃ j, d = j + 1 := ⟨d - 1, by omega⟩
        unfold pick
        rw [h2, if_neg (by decide), if_pos h3]
      | succ e ih =>
        intro s hs d hd
        obtain ⟨d, rfl⟩ : ∃ j, d = j + 1 := ⟨d - 1, by omega⟩
        unfold pick
        rw [hk s (by omega), decide_eq_true (by omega), if_pos rfl]
        exact ih (s + 1) (by omega) d (by omega)
    have hpk := pk i 0 (by omega) b.length (by omega)
    unfold run
    rw [hpk]
    show run b n (tk.set i true) (next (b.getD i z43) l) (out ++ [i]) = _
    have e1 : (List.range n).map ((· + i) ∘ Nat.succ) = (List.range n).map (· + (i + 1)) := by
      apply List.map_congr_left
      intro j _
      show j + 1 + i = j + (i + 1)
      omega
    rw [List.map_map, e1] at h4
    rw [run_straight (i := i + 1) (by omega) (by simpa using ht) (fun j hj => ?_) h4, List.map_map, e1, e0]
    · simp
    · by_cases e : i = j
      · subst e
        rw [getD_set_self (by omega), decide_eq_true (by omega)]
      · rw [getD_set_ne e, hk j hj]
        by_cases e2 : j < i
        · rw [decide_eq_true e2, decide_eq_true (by omega)]
        · rw [decide_eq_false e2, decide_eq_false (by omega)]
theorem chain_straight {b : List S43} {o : List Nat} : ∀ {r : List Nat} {s : Nat} {tk tk' : List Bool} {l v : List ByteArray}, o.drop s = r → tk'.length = o.length → (∀ j, j < o.length → tk'.getD j false = decide (j < s)) → Chain b tk l r v →
    Chain (o.map fun i => b.getD i z43) tk' l ((List.range r.length).map (· + s)) v
  | [], _, _, _, _, _, _, _, _, h => h
  | i :: r, s, tk, tk', l, v, hd, ht, hk, h => by
    obtain ⟨h1, h2, h3, h4⟩ := h
    have hlt : s < o.length := by
      rcases Nat.lt_or_ge s o.length with h | h
      · exact h
      · rw [List.drop_eq_nil_of_le h] at hd; cases hd
    rw [List.drop_eq_getElem_cons hlt] at hd
    injection hd with hd1 hd2
    have eg : (o.map fun i => b.getD i z43).getD s z43 = b.getD i z43 := by
      simp [List.getD, List.getElem?_eq_getElem hlt, hd1]
    rw [List.length_cons, List.range_succ_eq_map, List.map_cons]
    refine ⟨by simpa using hlt, by rw [Nat.zero_add, hk s hlt]; simp, by rw [Nat.zero_add, eg]; exact h3, ?_⟩
    rw [Nat.zero_add, eg, List.map_map]
    have e1 : (List.range r.length).map ((· + s) ∘ Nat.succ) = (List.range r.length).map (· + (s + 1)) := by
      apply List.map_congr_left
      intro j _
      show j + 1 + s = j + (s + 1)
      omega
    rw [e1]
    refine chain_straight hd2 (by simpa using ht) (fun j hj => ?_) h4
    by_cases e : s = j
    · subst e
      rw [getD_set_self (by omega), decide_eq_true (by omega)]
    · rw [getD_set_ne e, hk j hj]
      by_cases e2 : j < s
      · rw [decide_eq_true e2, decide_eq_true (by omega)]
      · rw [decide_eq_false e2, decide_eq_false (by omega)]
theorem order_again {b : List S43} {bound : List ByteArray} {o : List Nat} {v : List ByteArray} (h : order b bound = some (o, v)) : order (o.map fun i => b.getD i z43) bound = some (List.range o.length, v) := by
  obtain ⟨h1, h2, h3, h4⟩ := qt h
  have hc := chain_straight (b := b) (o := o) (s := 0) (tk' := List.replicate o.length false) rfl (by simp) (fun j hj => by rw [qx]; simp) h2
  rw [List.drop_zero] at hc
  have e : (List.range o.length).map (· + 0) = List.range o.length := by simp
  have := run_straight (b := o.map fun i => b.getD i z43) (n := o.length) (i := 0) (tk := List.replicate o.length false) (out := []) (by simp) (by simp) (fun j hj => by rw [qx]; simp) hc
  unfold order
  rw [List.length_map, this, List.nil_append, e]
end Go.Proofs.Ytmgbfgloegcloaa.Pu
