/- WHAT THE FUNCTIONS ON LITERALS ANSWER: terms, Vars, Binds, ready, the document's and the program's. No program's memory in sight. -/
import Derived.Test.YtmgbfgloegcloaaPu2
namespace Go.Proofs.Ytmgbfgloegcloaa.Pu
open Go.RowKit Go.Proofs.YtmgbfgloegcloaaW.PrintWords Go.Proofs.YtmgbfgloegcloaaW.PrintLast Go.Proofs.Ytmgbfgloegcloaa.Ps AnteSet

/-- a literal's terms -/
def terms (x : S43) : List S40 := x.f1.f1 ++ [x.f3, x.f4, x.f5]
theorem terms_length (x : S43) : (terms x).length = x.f1.f1.length + 3 := by simp [terms]

/-! ### Concat of two -/
theorem rdL5_0 (a b : List S40) : rd_L5 [a, b] 0 = a := rfl
theorem rdL5_1 (a b : List S40) : rd_L5 [a, b] 1 = b := rfl
theorem concat_ev (a b : List S40) (ha : a.length < 1000000000000) (hb : b.length < 1000000000000) : Ev (fun k => api_Term_44.f k [a, b]) (a ++ b) := by
  have w1 : wrap64 ((0 : Int) + (a.length : Int)) = (a.length : Int) := by unfold wrap64; omega
  have w2 : wrap64 ((a.length : Int) + (b.length : Int)) = ((a.length + b.length : Nat) : Int) := by unfold wrap64; omega
  have w3 : wrap64 ((0 : Int) + 1) = 1 := by unfold wrap64; omega
  have w4 : wrap64 ((1 : Int) + 1) = 2 := by unfold wrap64; omega
  have l2 : (([a, b] : List (List S40)).length : Int) = 2 := rfl
  unfold api_Term_44.f
  rw [l2]
  refine Ev.step (f := fun k => api_Term_44.l0 k [a, b] (a.length : Int) [a, b] 2 1) (fun k => ?_) ?_
  · simp only [api_Term_44.l0]
    rw [if_pos (by decide), if_pos (by decide), if_pos (by simp), rdL5_0, w1, w3, if_neg (by omega)]
  refine Ev.step (f := fun k => api_Term_44.l0 k [a, b] ((a.length + b.length : Nat) : Int) [a, b] 2 2) (fun k => ?_) ?_
  · simp only [api_Term_44.l0]
    rw [if_pos (by decide), if_pos (by decide), if_pos (by simp), rdL5_1, w2, w4, if_neg (by omega)]
  refine Ev.step (f := fun k => api_Term_44.l1 k [] [a, b] 2 0) (fun k => ?_) ?_
  · simp only [api_Term_44.l0]
    rw [if_neg (by decide)]
    unfold api_Term_49.f
    rw [if_pos ⟨rfl, by omega, by omega⟩, Option.bind_some]
    rfl
  refine Ev.step (f := fun k => api_Term_44.l1 k a [a, b] 2 1) (fun k => ?_) ?_
  · simp only [api_Term_44.l1]
    rw [if_pos (by decide), if_pos (by decide), if_pos (by simp), rdL5_0, if_pos (by simp; omega), w3, List.nil_append]
  refine Ev.step (f := fun k => api_Term_44.l1 k (a ++ b) [a, b] 2 2) (fun k => ?_) ?_
  · simp only [api_Term_44.l1]
    rw [if_pos (by decide), if_pos (by decide), if_pos (by simp), rdL5_1, if_pos (by omega), w4]
  refine Ev.step (f := fun _ => some (a ++ b)) (fun k => ?_) (Ev.now _)
  simp only [api_Term_44.l1]
  rw [if_neg (by decide)]

theorem safe_terms_ev (x : S43) (h : x.f1.f1.length < 274877906944) : Ev (fun k => safe_terms.f k (x.f0) (x.f1.f0) (x.f1.f1) (x.f2) (x.f3.f0) (x.f3.f1.f0) (x.f3.f1.f1) (x.f3.f1.f2) (x.f4.f0) (x.f4.f1.f0) (x.f4.f1.f1) (x.f4.f1.f2) (x.f5.f0) (x.f5.f1.f0) (x.f5.f1.f1) (x.f5.f1.f2) (x.f6)) (terms x) := by
  refine Ev.congr (fun k => ?_) (concat_ev x.f1.f1 [x.f3, x.f4, x.f5] (by omega) (by simp))
  unfold safe_terms.f
  cases api_Term_44.f k [x.f1.f1, [x.f3, x.f4, x.f5]] <;> rfl
theorem safe_Binds_ev (x : S43) (l : List ByteArray) (h : x.f1.f1.length < 274877906944) (hl : l.length < 549755813888) : Ev (fun k => safe_Binds.f k (x.f0) (x.f1.f0) (x.f1.f1) (x.f2) (x.f3.f0) (x.f3.f1.f0) (x.f3.f1.f1) (x.f3.f1.f2) (x.f4.f0) (x.f4.f1.f0) (x.f4.f1.f1) (x.f4.f1.f2) (x.f5.f0) (x.f5.f1.f0) (x.f5.f1.f1) (x.f5.f1.f2) (x.f6) l) (names (l ++ vars (terms x))) := by
  refine Ev.congr (fun k => ?_) (Ev.bind (f := fun k t => safe_names.f k t l) (safe_terms_ev x h) (safe_names_ev (terms x) l (by rw [terms_length]; omega) hl))
  unfold safe_Binds.f
  congr 1
  funext t
  cases safe_names.f k t l <;> rfl
theorem safe_Vars_ev (x : S43) (h : x.f1.f1.length < 274877906944) : Ev (fun k => safe_Vars.f k (x.f0) (x.f1.f0) (x.f1.f1) (x.f2) (x.f3.f0) (x.f3.f1.f0) (x.f3.f1.f1) (x.f3.f1.f2) (x.f4.f0) (x.f4.f1.f0) (x.f4.f1.f1) (x.f4.f1.f2) (x.f5.f0) (x.f5.f1.f0) (x.f5.f1.f1) (x.f5.f1.f2) (x.f6)) (names (vars (terms x))) := by
  refine Ev.congr (fun k => ?_) (Ev.bind (f := fun k t => safe_names.f k t []) (safe_terms_ev x h) (safe_names_ev (terms x) [] (by rw [terms_length]; omega) (by simp)))
  unfold safe_Vars.f
  congr 1
  funext t
  cases safe_names.f k t [] <;> rfl
theorem ref_terms (x : S43) (h : x.f1.f1.length < 274877906944) : antecedentref11_terms.f (x.f0) (x.f1.f0) (x.f1.f1) (x.f2) (x.f3.f0) (x.f3.f1.f0) (x.f3.f1.f1) (x.f3.f1.f2) (x.f4.f0) (x.f4.f1.f0) (x.f4.f1.f1) (x.f4.f1.f2) (x.f5.f0) (x.f5.f1.f0) (x.f5.f1.f1) (x.f5.f1.f2) (x.f6) = some (terms x) := by
  unfold antecedentref11_terms.f
  simp only [Option.bind_some, List.length_nil, List.nil_append, Nat.zero_add]
  rw [if_pos (by omega), if_pos (by simp; omega)]
  rfl
theorem ref_Binds_ev (x : S43) (l : List ByteArray) (h : x.f1.f1.length < 274877906944) (hl : l.length < 549755813888) : Ev (fun k => antecedentref11_Binds.f k (x.f0) (x.f1.f0) (x.f1.f1) (x.f2) (x.f3.f0) (x.f3.f1.f0) (x.f3.f1.f1) (x.f3.f1.f2) (x.f4.f0) (x.f4.f1.f0) (x.f4.f1.f1) (x.f4.f1.f2) (x.f5.f0) (x.f5.f1.f0) (x.f5.f1.f1) (x.f5.f1.f2) (x.f6) l) (names (l ++ vars (terms x))) := by
  refine Ev.congr (fun k => ?_) (names_ev (terms x) l (by rw [terms_length]; omega) hl)
  unfold antecedentref11_Binds.f
  rw [ref_terms x h, Option.bind_some]
  cases antecedentref11_Names.f k (terms x) l <;> rfl
theorem ref_Vars_ev (x : S43) (h : x.f1.f1.length < 274877906944) : Ev (fun k => antecedentref11_Vars.f k (x.f0) (x.f1.f0) (x.f1.f1) (x.f2) (x.f3.f0) (x.f3.f1.f0) (x.f3.f1.f1) (x.f3.f1.f2) (x.f4.f0) (x.f4.f1.f0) (x.f4.f1.f1) (x.f4.f1.f2) (x.f5.f0) (x.f5.f1.f0) (x.f5.f1.f1) (x.f5.f1.f2) (x.f6)) (names (vars (terms x))) := by
  refine Ev.congr (fun k => ?_) (names_ev (terms x) [] (by rw [terms_length]; omega) (by simp))
  unfold antecedentref11_Vars.f
  rw [ref_terms x h, Option.bind_some]
  cases antecedentref11_Names.f k (terms x) [] <;> rfl

/-! ### ready -/
theorem containsS_inB (l : List ByteArray) (v : ByteArray) : Lib.containsS l v = inB l v := by
  cases h : inB l v with
  | true => exact (Lib.containsS_iff l v).2 (inB_iff.1 h)
  | false =>
    cases h2 : Lib.containsS l v with
    | false => rfl
    | true => rw [inB_iff.2 ((Lib.containsS_iff l v).1 h2)] at h; cases h
theorem isB_iff {v : ByteArray} {l : List ByteArray} : isB v l = true ↔ v.toList = [] ∨ v ∈ l := by
  unfold isB
  rw [Bool.or_eq_true, beq_iff_eq, containsS_inB, inB_iff]
theorem mem_vars {s : ByteArray} {l : List S40} : s ∈ vars l ↔ s.toList ≠ [] ∧ ∃ t ∈ l, t.f0 = s := by
  unfold vars
  rw [List.mem_filter, List.mem_map]
  constructor
  · rintro ⟨⟨t, ht, rfl⟩, h⟩
    exact ⟨by simpa using h, t, ht, rfl⟩
  · rintro ⟨h, t, ht, rfl⟩
    exact ⟨⟨t, ht, rfl⟩, by simpa using h⟩
/-- Is a literal ready, where l is bound? -/
def ready (x : S43) (l : List ByteArray) : Bool := Ps.readyB x.f0 x.f2 x.f3.f0 x.f4.f0 x.f5.f0 x.f1.f1 l
theorem ready_two {x : S43} {l : List ByteArray} (h : x.f0 = 2) : ready x l = (names (vars (terms x))).all fun v => inB l v := by
  unfold ready Ps.readyB
  rw [if_pos h]
  rw [Bool.eq_iff_iff, List.all_eq_true]
  simp only [Bool.and_eq_true, Bool.not_eq_true', isB_iff, inB_iff, mem_nset slo, mem_vars, terms, List.mem_append, List.mem_cons, List.not_mem_nil, or_false]
  constructor
  · rintro ⟨⟨⟨h1, h2⟩, h3⟩, h4⟩ v ⟨hv, t, ht, rfl⟩
    rcases ht with ht | rfl | rfl | rfl
    · have := List.any_eq_false.1 h1 t ht
      rw [Bool.not_eq_true, Bool.not_eq_false'] at this
      rcases isB_iff.1 this with e | e
      · exact absurd e hv
      · exact e
    · exact h2.elim (fun e => absurd e hv) id
    · exact h3.elim (fun e => absurd e hv) id
    · exact h4.elim (fun e => absurd e hv) id
  · intro H
    have key : ∀ t : S40, (t ∈ x.f1.f1 ∨ t = x.f3 ∨ t = x.f4 ∨ t = x.f5) → t.f0.toList = [] ∨ t.f0 ∈ l := by
      intro t ht
      by_cases e : t.f0.toList = []
      · exact .inl e
      · exact .inr (H t.f0 ⟨e, t, ht, rfl⟩)
    refine ⟨⟨⟨?_, key _ (.inr (.inl rfl))⟩, key _ (.inr (.inr (.inl rfl)))⟩, key _ (.inr (.inr (.inr rfl)))⟩
    rw [List.any_eq_false]
    intro t ht
    rw [Bool.not_eq_true, Bool.not_eq_false', isB_iff]
    exact key t (.inl ht)
theorem ready_loop (l v : List ByteArray) (hl : l.length < 4611686018427387904) (hv : v.length < 4611686018427387904) (d : Nat) : ∀ i : Nat, i + d = v.length →
    Ev (fun k => antecedentref11_Ready.l0 k l v (v.length : Int) (i : Int)) ((v.drop i).all fun s => inB l s) := by
  induction d with
  | zero =>
    intro i hi
    have hd : v.drop i = [] := List.drop_eq_nil_of_le (by omega)
    rw [hd]
    refine Ev.step (f := fun _ => some true) (fun k => ?_) (Ev.now _)
    simp only [antecedentref11_Ready.l0]
    rw [if_neg (nlt_cast (by omega))]
  | succ d ih =>
    intro i hi
    have hlt : i < v.length := by omega
    have hd : v.drop i = v[i] :: v.drop (i + 1) := List.drop_eq_getElem_cons hlt
    rw [hd, List.all_cons]
    refine Ev.step (f := fun k => (antecedentref11_In.f k l v[i]).bind fun t => if t = true then antecedentref11_Ready.l0 k l v (v.length : Int) ((i + 1 : Nat) : Int) else some false) (fun k => ?_)
      (Ev.bind (f := fun k t => if t = true then antecedentref11_Ready.l0 k l v (v.length : Int) ((i + 1 : Nat) : Int) else some false) (in_ev l v[i] hl) ?_)
    · simp only [antecedentref11_Ready.l0]
      rw [if_pos (lt_cast hlt), if_pos (nn_cast i), if_pos (lt_cast hlt), rdOf_nat _ _ _ hlt, wrap_succ i (by omega)]
    · cases h : inB l v[i] with
      | true => simpa using ih (i + 1) (by omega)
      | false => simpa using Ev.now false
theorem is_ev (s : ByteArray) (p q : Int) (z : ByteArray) (l : List ByteArray) (hl : l.length < 4611686018427387904) : Ev (fun k => antecedentref11_is.f k s p q z l) (isB s l) := by
  unfold isB
  rw [containsS_inB]
  by_cases h : s.toList = []
  · rw [beq_iff_eq.2 h, Bool.true_or]
    refine Ev.congr (fun k => ?_) (Ev.now true)
    unfold antecedentref11_is.f
    rw [if_pos h]
  · rw [beq_eq_false_iff_ne.2 h, Bool.false_or]
    refine Ev.congr (fun k => ?_) (in_ev l s hl)
    unfold antecedentref11_is.f
    rw [if_neg h]
    cases antecedentref11_In.f k l s <;> rfl
theorem ref_Ready_ev (x : S43) (l : List ByteArray) (h : x.f1.f1.length < 274877906944) (hl : l.length < 549755813888) : Ev (fun k => antecedentref11_Ready.f k (x.f0) (x.f1.f0) (x.f1.f1) (x.f2) (x.f3.f0) (x.f3.f1.f0) (x.f3.f1.f1) (x.f3.f1.f2) (x.f4.f0) (x.f4.f1.f0) (x.f4.f1.f1) (x.f4.f1.f2) (x.f5.f0) (x.f5.f1.f0) (x.f5.f1.f1) (x.f5.f1.f2) (x.f6) l) (ready x l) := by
  by_cases k2 : x.f0 = 2
  · rw [ready_two k2]
    have hn : (names (vars (terms x))).length < 4611686018427387904 := by
      have h1 := length_nset slo (vars (terms x))
      have h2 := vars_length (terms x)
      rw [terms_length] at h2
      show (nset blt (vars (terms x))).length < _
      omega
    have := ready_loop l (names (vars (terms x))) (by omega) hn (names (vars (terms x))).length 0 (by omega)
    rw [List.drop_zero] at this
    refine Ev.congr (fun k => ?_) (Ev.bind (f := fun k v => antecedentref11_Ready.l0 k l v (v.length : Int) 0) (ref_Vars_ev x h) this)
    unfold antecedentref11_Ready.f
    rw [if_pos k2]
  · by_cases k3 : x.f0 = 3
    · have e : ready x l = (if isB x.f3.f0 l = true then (if isB x.f4.f0 l = true then true else x.f2.toList == ([61] : List UInt8)) else (if x.f2.toList = ([61] : List UInt8) then isB x.f4.f0 l else false)) := by
        unfold ready Ps.readyB
        rw [if_neg k2, if_pos k3]
        by_cases eo : x.f2.toList = ([61] : List UInt8)
        · rw [beq_iff_eq.2 eo, if_pos eo]
          cases isB x.f3.f0 l <;> cases isB x.f4.f0 l <;> rfl
        · rw [beq_eq_false_iff_ne.2 eo, if_neg eo]
          cases isB x.f3.f0 l <;> cases isB x.f4.f0 l <;> rfl
      rw [e]
      refine Ev.congr (fun k => ?_) (Ev.bind (f := fun k a => (antecedentref11_is.f k x.f4.f0 x.f4.f1.f0 x.f4.f1.f1 x.f4.f1.f2 l).bind fun b => if a = true then (if b = true then some true else (if x.f2.toList = ([61] : List UInt8) then some true else some false)) else (if x.f2.toList = ([61] : List UInt8) then some b else some false)) (is_ev x.f3.f0 x.f3.f1.f0 x.f3.f1.f1 x.f3.f1.f2 l (by omega))
        (Ev.bind (f := fun _ b => if isB x.f3.f0 l = true then (if b = true then some true else (if x.f2.toList = ([61] : List UInt8) then some true else some false)) else (if x.f2.toList = ([61] : List UInt8) then some b else some false)) (is_ev x.f4.f0 x.f4.f1.f0 x.f4.f1.f1 x.f4.f1.f2 l (by omega)) ?_))
      · unfold antecedentref11_Ready.f
        rw [if_neg k2, if_pos k3]
      · by_cases eo : x.f2.toList = ([61] : List UInt8)
        · rw [beq_iff_eq.2 eo]
          simp only [if_pos eo]
          cases isB x.f3.f0 l <;> cases isB x.f4.f0 l <;> simpa using Ev.now _
        · rw [beq_eq_false_iff_ne.2 eo]
          simp only [if_neg eo]
          cases isB x.f3.f0 l <;> cases isB x.f4.f0 l <;> simpa using Ev.now _
    · by_cases k4 : x.f0 = 4
      · have e : ready x l = (isB x.f4.f0 l && isB x.f5.f0 l) := by
          unfold ready Ps.readyB
          rw [if_neg k2, if_neg k3, if_pos k4]
        rw [e]
        refine Ev.congr (fun k => ?_) (Ev.bind (f := fun k a => if a = true then (antecedentref11_is.f k x.f5.f0 x.f5.f1.f0 x.f5.f1.f1 x.f5.f1.f2 l).bind fun b => some b else some false) (is_ev x.f4.f0 x.f4.f1.f0 x.f4.f1.f1 x.f4.f1.f2 l (by omega)) ?_)
        · unfold antecedentref11_Ready.f
          rw [if_neg k2, if_neg k3, if_pos k4]
        · cases isB x.f4.f0 l with
          | false => simpa using Ev.now false
          | true =>
            simp only [if_true, Bool.true_and]
            exact Ev.bind (f := fun _ b => some b) (is_ev x.f5.f0 x.f5.f1.f0 x.f5.f1.f1 x.f5.f1.f2 l (by omega)) (Ev.now _)
      · have e : ready x l = true := by
          unfold ready Ps.readyB
          rw [if_neg k2, if_neg k3, if_neg k4]
        rw [e]
        refine Ev.congr (fun k => ?_) (Ev.now true)
        unfold antecedentref11_Ready.f
        rw [if_neg k2, if_neg k3, if_neg k4]
theorem safe_ready_eq (x : S43) (l : List ByteArray) : safe_ready.f (x.f0) (x.f1.f0) (x.f1.f1) (x.f2) (x.f3.f0) (x.f3.f1.f0) (x.f3.f1.f1) (x.f3.f1.f2) (x.f4.f0) (x.f4.f1.f0) (x.f4.f1.f1) (x.f4.f1.f2) (x.f5.f0) (x.f5.f1.f0) (x.f5.f1.f1) (x.f5.f1.f2) (x.f6) l = some (ready x l) := rfl
end Go.Proofs.Ytmgbfgloegcloaa.Pu
