/- WHAT add AND Names ANSWER, the document's and the program's: the names, in order, each once. No program's memory in sight. -/
import Derived.Test.YtmgbfgloegcloaaPu1
namespace Go.Proofs.Ytmgbfgloegcloaa.Pu
open Go.RowKit Go.Proofs.YtmgbfgloegcloaaW.PrintWords Go.Proofs.YtmgbfgloegcloaaW.PrintLast Go.Proofs.Ytmgbfgloegcloaa.Ps AnteSet
def ble (s a : ByteArray) : Bool := Op.bytesLess s.toList a.toList || (s.toList == a.toList)
def addL (s : ByteArray) : Bool → List ByteArray → List ByteArray
  | true, [] => []
  | false, [] => [s]
  | true, a :: l => if a.toList = s.toList then addL s true l else a :: addL s true l
  | false, a :: l => if ble s a then (if a.toList = s.toList then s :: addL s true l else s :: a :: addL s true l) else (if a.toList = s.toList then addL s false l else a :: addL s false l)
theorem addL_true {s : ByteArray} {l : List ByteArray} (h : ∀ x ∈ l, blt s x = true) : addL s true l = l := by
  induction l with
  | nil => rfl
  | cons a l ih =>
    unfold addL
    rw [if_neg (fun e => slo.ne (h a (by simp)) (toList_inj e).symm), ih (fun x hx => h x (by simp [hx]))]
theorem addL_ins {s : ByteArray} {l : List ByteArray} (h : Ord l) : addL s false l = ins blt s l := by
  unfold Ord Sorted at h
  induction l with
  | nil => rfl
  | cons a l ih =>
    obtain ⟨h1, h2⟩ := List.pairwise_cons.1 h
    unfold addL ins
    by_cases hsa : blt s a = true
    · have hle : ble s a = true := by unfold ble; unfold blt at hsa; rw [hsa]; rfl
      rw [if_pos hle, if_pos hsa, if_neg (fun e => slo.ne hsa (toList_inj e).symm), addL_true (fun x hx => slo.trans _ _ _ hsa (h1 x hx))]
    · by_cases he : s = a
      · subst he
        have hle : ble s s = true := by unfold ble; simp
        rw [if_pos hle, if_neg hsa, if_pos rfl, if_pos rfl, addL_true h1]
      · have hne : ¬ a.toList = s.toList := fun e => he (toList_inj e).symm
        have hle : ¬ ble s a = true := by
          unfold ble
          intro h3
          rcases Bool.or_eq_true_iff.1 h3 with h4 | h4
          · exact hsa h4
          · exact hne (beq_iff_eq.1 h4).symm
        rw [if_neg hle, if_neg hne, if_neg hsa, if_neg he, ih h2]
theorem add_loop (l : List ByteArray) (s : ByteArray) (hl : l.length < 1099511627776) (d : Nat) : ∀ (i : Nat) (out : List ByteArray) (done : Bool), i + d = l.length → out.length ≤ i + 1 → (done = false → out.length ≤ i) →
    Ev (fun k => zr.l0 k l s out done (l.length : Int) (i : Int)) (out ++ addL s done (l.drop i)) := by
  induction d with
  | zero =>
    intro i out done hi ho hf
    have hd : l.drop i = [] := List.drop_eq_nil_of_le (by omega)
    rw [hd]
    refine Ev.step (f := fun _ => some (out ++ addL s done [])) (fun k => ?_) (Ev.now _)
    simp only [zr.l0]
    rw [if_neg (yU (by omega))]
    cases done with
    | true => rw [if_pos rfl]; simp [addL]
    | false => rw [if_neg (by decide), if_pos (by omega)]; simp [addL]
  | succ d ih =>
    intro i out done hi ho hf
    have hlt : i < l.length := by omega
    have hd : l.drop i = l[i] :: l.drop (i + 1) := List.drop_eq_getElem_cons hlt
    have tail : ∀ (out : List ByteArray) (done : Bool), out.length ≤ i + 1 → (done = false → out.length ≤ i) → Ev (fun k => zr.j1 k l s out done (i : Int) (l.length : Int) (i : Int) false) (out ++ (if l[i].toList = s.toList then addL s done (l.drop (i + 1)) else l[i] :: addL s done (l.drop (i + 1)))) := by
      intro out done ho hf
      by_cases he : l[i].toList = s.toList
      · rw [if_pos he]
        refine Ev.step (f := fun k => zr.l0 k l s out done (l.length : Int) ((i + 1 : Nat) : Int)) (fun k => ?_) (ih (i + 1) out done (by omega) (by omega) (fun e => by have := hf e; omega))
        simp only [zr.j1]
        rw [if_neg (by decide), if_pos (yu i), if_pos (zR hlt), qg _ _ _ hlt, if_pos he, yp i (by omega)]
      · rw [if_neg he]
        have := ih (i + 1) (out ++ [l[i]]) done (by omega) (by simp; omega) (fun e => by have := hf e; simp; omega)
        rw [List.append_assoc] at this
        refine Ev.step (f := fun k => zr.l0 k l s (out ++ [l[i]]) done (l.length : Int) ((i + 1 : Nat) : Int)) (fun k => ?_) this
        simp only [zr.j1]
        rw [if_neg (by decide), if_pos (yu i), if_pos (zR hlt), qg _ _ _ hlt, if_neg he, if_pos (by omega), yp i (by omega)]
    have put : out.length ≤ i → Ev (fun k => zr.j1 k l s out done (i : Int) (l.length : Int) (i : Int) true) (out ++ (if l[i].toList = s.toList then s :: addL s true (l.drop (i + 1)) else s :: l[i] :: addL s true (l.drop (i + 1)))) := by
      intro ho
      by_cases he : l[i].toList = s.toList
      · rw [if_pos he]
        have := ih (i + 1) (out ++ [s]) true (by omega) (by simp; omega) (fun e => by cases e)
        rw [List.append_assoc] at this
        refine Ev.step (f := fun k => zr.l0 k l s (out ++ [s]) true (l.length : Int) ((i + 1 : Nat) : Int)) (fun k => ?_) this
        simp only [zr.j1, Option.bind_some]
        rw [if_pos trivial, if_pos (by omega), if_pos (yu i), if_pos (zR hlt), qg _ _ _ hlt, if_pos he, yp i (by omega)]
      · rw [if_neg he]
        have := ih (i + 1) (out ++ [s] ++ [l[i]]) true (by omega) (by simp; omega) (fun e => by cases e)
        rw [show out ++ [s] ++ [l[i]] ++ addL s true (l.drop (i + 1)) = out ++ s :: l[i] :: addL s true (l.drop (i + 1)) by simp] at this
        refine Ev.step (f := fun k => zr.l0 k l s (out ++ [s] ++ [l[i]]) true (l.length : Int) ((i + 1 : Nat) : Int)) (fun k => ?_) this
        simp only [zr.j1, Option.bind_some]
        rw [if_pos trivial, if_pos (by omega), if_pos (yu i), if_pos (zR hlt), qg _ _ _ hlt, if_neg he, if_pos (by simp; omega), yp i (by omega)]
    rw [hd]
    cases done with
    | true =>
      refine Ev.step (f := fun k => zr.j1 k l s out true (i : Int) (l.length : Int) (i : Int) false) (fun k => ?_) (tail out true ho (fun e => by cases e))
      simp only [zr.l0]
      rw [if_pos (zR hlt), if_pos trivial]
    | false =>
      by_cases hle : ble s l[i] = true
      · have e : addL s false (l[i] :: l.drop (i + 1)) = if l[i].toList = s.toList then s :: addL s true (l.drop (i + 1)) else s :: l[i] :: addL s true (l.drop (i + 1)) := by
          conv => lhs; unfold addL
          rw [if_pos hle]
        rw [e]
        refine Ev.step (f := fun k => zr.j1 k l s out false (i : Int) (l.length : Int) (i : Int) true) (fun k => ?_) (put (hf rfl))
        simp only [zr.l0]
        have hle' : (Op.bytesLess s.toList l[i].toList || (s.toList == l[i].toList)) = true := hle
        rw [if_pos (zR hlt), if_neg (by decide), if_pos (yu i), if_pos (zR hlt), qg _ _ _ hlt, hle']
      · have e : addL s false (l[i] :: l.drop (i + 1)) = if l[i].toList = s.toList then addL s false (l.drop (i + 1)) else l[i] :: addL s false (l.drop (i + 1)) := by
          conv => lhs; unfold addL
          rw [if_neg hle]
        rw [e]
        refine Ev.step (f := fun k => zr.j1 k l s out false (i : Int) (l.length : Int) (i : Int) false) (fun k => ?_) (tail out false ho hf)
        simp only [zr.l0]
        have hle' : (Op.bytesLess s.toList l[i].toList || (s.toList == l[i].toList)) = false := by simpa [ble] using hle
        rw [if_pos (zR hlt), if_neg (by decide), if_pos (yu i), if_pos (zR hlt), qg _ _ _ hlt, hle']
theorem add_ev (l : List ByteArray) (s : ByteArray) (hl : l.length < 1099511627776) (ho : Ord l) : Ev (fun k => zr.f k l s) (ins blt s l) := by
  have := add_loop l s hl l.length 0 [] false (by omega) (by simp) (fun _ => by simp)
  rw [List.drop_zero, addL_ins ho, List.nil_append] at this
  exact this
def vars (l : List S40) : List ByteArray := (l.map (·.f0)).filter fun s => !(s.toList == ([] : List UInt8))
theorem vars_cons (t : S40) (l : List S40) : vars (t :: l) = if t.f0.toList = [] then vars l else t.f0 :: vars l := by
  unfold vars
  rw [List.map_cons, List.filter_cons]
  by_cases h : t.f0.toList = []
  · rw [if_pos h, beq_iff_eq.2 h]; rfl
  · rw [if_neg h, beq_eq_false_iff_ne.2 h]; rfl
theorem vars_length (l : List S40) : (vars l).length ≤ l.length := by
  unfold vars
  exact Nat.le_trans (List.length_filter_le _ _) (by simp)
theorem rd40_nat {l : List S40} {i : Nat} (h : i < l.length) : yf l (i : Int) = l[i] := by
  unfold yf; simp [List.getD, List.getElem?_eq_getElem h]
theorem names_l1 (l : List S40) (hl : l.length < 1099511627776) (d : Nat) : ∀ (i : Nat) (acc : List ByteArray), i + d = l.length → Ord acc → acc.length + d < 1099511627776 →
    Ev (fun k => zp.l1 k l acc (l.length : Int) (i : Int)) ((vars (l.drop i)).foldl (fun a s => ins blt s a) acc) := by
  induction d with
  | zero =>
    intro i acc hi ha hb
    have hd : l.drop i = [] := List.drop_eq_nil_of_le (by omega)
    rw [hd]
    refine Ev.step (f := fun _ => some acc) (fun k => ?_) (Ev.now _)
    simp only [zp.l1]
    rw [if_neg (yU (by omega))]
  | succ d ih =>
    intro i acc hi ha hb
    have hlt : i < l.length := by omega
    have hd : l.drop i = l[i] :: l.drop (i + 1) := List.drop_eq_getElem_cons hlt
    rw [hd, vars_cons]
    by_cases he : l[i].f0.toList = []
    · rw [if_pos he]
      refine Ev.step (f := fun k => zp.l1 k l acc (l.length : Int) ((i + 1 : Nat) : Int)) (fun k => ?_) (ih (i + 1) acc (by omega) ha (by omega))
      simp only [zp.l1]
      rw [if_pos (zR hlt), if_pos (yu i), if_pos (zR hlt), rd40_nat hlt, if_pos he, yp i (by omega)]
    · rw [if_neg he, List.foldl_cons]
      have hlen := length_ins (lt := blt) (s := l[i].f0) (l := acc)
      refine Ev.step (f := fun k => (zr.f k acc l[i].f0).bind fun t => zp.l1 k l t (l.length : Int) ((i + 1 : Nat) : Int)) (fun k => ?_)
        (Ev.bind (f := fun k t => zp.l1 k l t (l.length : Int) ((i + 1 : Nat) : Int)) (add_ev acc l[i].f0 (by omega) ha) (ih (i + 1) _ (by omega) (sorted_ins slo ha) (by omega)))
      simp only [zp.l1]
      rw [if_pos (zR hlt), if_pos (yu i), if_pos (zR hlt), rd40_nat hlt, if_neg he, yp i (by omega)]
theorem names_l0 (l : List S40) (m : List ByteArray) (hl : l.length < 549755813888) (hm : m.length < 549755813888) (d : Nat) : ∀ (i : Nat) (acc : List ByteArray), i + d = m.length → Ord acc → acc.length + d < 549755813888 →
    Ev (fun k => zp.l0 k l m acc (m.length : Int) (i : Int)) ((m.drop i ++ vars l).foldl (fun a s => ins blt s a) acc) := by
  induction d with
  | zero =>
    intro i acc hi ha hb
    have hd : m.drop i = [] := List.drop_eq_nil_of_le (by omega)
    rw [hd, List.nil_append]
    refine Ev.step (f := fun k => zp.l1 k l acc (l.length : Int) 0) (fun k => ?_) ?_
    · simp only [zp.l0]
      rw [if_neg (yU (by omega))]
    · have := names_l1 l (by omega) l.length 0 acc (by omega) ha (by omega)
      rwa [List.drop_zero] at this
  | succ d ih =>
    intro i acc hi ha hb
    have hlt : i < m.length := by omega
    have hd : m.drop i = m[i] :: m.drop (i + 1) := List.drop_eq_getElem_cons hlt
    rw [hd, List.cons_append, List.foldl_cons]
    have hlen := length_ins (lt := blt) (s := m[i]) (l := acc)
    refine Ev.step (f := fun k => (zr.f k acc m[i]).bind fun t => zp.l0 k l m t (m.length : Int) ((i + 1 : Nat) : Int)) (fun k => ?_)
      (Ev.bind (f := fun k t => zp.l0 k l m t (m.length : Int) ((i + 1 : Nat) : Int)) (add_ev acc m[i] (by omega) ha) (ih (i + 1) _ (by omega) (sorted_ins slo ha) (by omega)))
    simp only [zp.l0]
    rw [if_pos (zR hlt), if_pos (yu i), if_pos (zR hlt), qg _ _ _ hlt, yp i (by omega)]
theorem names_ev (l : List S40) (m : List ByteArray) (hl : l.length < 549755813888) (hm : m.length < 549755813888) : Ev (fun k => zp.f k l m) (names (m ++ vars l)) := by
  have := names_l0 l m hl hm m.length 0 [] (by omega) List.Pairwise.nil (by simp; omega)
  rw [List.drop_zero] at this
  exact this
theorem comp_sort (l : List ByteArray) : compStr (sortStr l) = names l := by
  have hs : ∀ z : List (List UInt8), ((z.map bytesUp).map (·.data.toList)) = z := by
    intro z
    rw [List.map_map]
    conv => rhs; rw [← List.map_id z]
    apply List.map_congr_left
    intro a _
    simp [bytesUp]
  unfold compStr sortStr
  rw [hs]
  let lt8 : List UInt8 → List UInt8 → Bool := fun a b => decide (a < b)
  have hslo : Slo lt8 := ⟨fun a => decide_eq_false (List.lt_irrefl _), fun a b c h1 h2 => decide_eq_true (List.lt_trans (of_decide_eq_true h1) (of_decide_eq_true h2)), fun a b => by
    rcases Std.lt_trichotomy a b with h | h | h
    · exact .inl (decide_eq_true h)
    · exact .inr (.inl h)
    · exact .inr (.inr (decide_eq_true h))⟩
  have hsorted : ((l.map (·.data.toList)).mergeSort fun x y => decide (x ≤ y)).Pairwise (fun a b => lt8 b a = false) := by
    have := List.pairwise_mergeSort (le := fun (x y : List UInt8) => decide (x ≤ y)) (fun a b c h1 h2 => decide_eq_true (List.le_trans (of_decide_eq_true h1) (of_decide_eq_true h2)))
      (fun a b => by
        rcases List.le_total a b with h | h
        · simp [h]
        · simp [h]) (l.map (·.data.toList))
    refine this.imp fun {a b} h => ?_
    exact decide_eq_false (List.not_lt.2 (of_decide_eq_true h))
  rw [compact_nset hslo _ hsorted]
  refine uniq slo ?_ (qr slo l) (fun x => ?_)
  · unfold Sorted
    refine List.pairwise_map.2 ((qr hslo _).imp fun {a b} h => ?_)
    rw [blt_iff]
    have e : ∀ z : List UInt8, (bytesUp z).toList = z := fun z => by rw [ByteArray.toList_eq]; simp [bytesUp]
    rw [e, e]
    exact of_decide_eq_true h
  · rw [List.mem_map, qy slo]
    constructor
    · rintro ⟨z, hz, rfl⟩
      rw [qy hslo, List.mem_mergeSort, List.mem_map] at hz
      obtain ⟨a, ha, rfl⟩ := hz
      have : bytesUp a.data.toList = a := ByteArray.ext rfl
      rw [this]; exact ha
    · intro hx
      exact ⟨x.data.toList, by rw [qy hslo, List.mem_mergeSort]; exact List.mem_map.2 ⟨x, hx, rfl⟩, ByteArray.ext rfl⟩
theorem safe_names_l0 (l : List S40) (hl : l.length < 549755813888) (d : Nat) : ∀ (i : Nat) (acc : List ByteArray), i + d = l.length → acc.length + d < 1099511627776 →
    Ev (fun k => zZ.l0 k acc l (l.length : Int) (i : Int)) (names (acc ++ vars (l.drop i))) := by
  induction d with
  | zero =>
    intro i acc hi hb
    have hd : l.drop i = [] := List.drop_eq_nil_of_le (by omega)
    rw [hd]
    have e : acc ++ vars [] = acc := by simp [vars]
    rw [e]
    refine Ev.step (f := fun _ => some (names acc)) (fun k => ?_) (Ev.now _)
    simp only [zZ.l0]
    rw [if_neg (yU (by omega))]
    have hs : (sortStr acc).length = acc.length := by simp [sortStr]
    unfold yE.f yi.f
    rw [if_pos (by omega), Option.bind_some, if_pos (by omega), Option.bind_some, comp_sort]
  | succ d ih =>
    intro i acc hi hb
    have hlt : i < l.length := by omega
    have hd : l.drop i = l[i] :: l.drop (i + 1) := List.drop_eq_getElem_cons hlt
    rw [hd, vars_cons]
    by_cases he : l[i].f0.toList = []
    · rw [if_pos he]
      refine Ev.step (f := fun k => zZ.l0 k acc l (l.length : Int) ((i + 1 : Nat) : Int)) (fun k => ?_) (ih (i + 1) acc (by omega) (by omega))
      simp only [zZ.l0]
      rw [if_pos (zR hlt), if_pos (yu i), if_pos (zR hlt), rd40_nat hlt, if_pos he, yp i (by omega)]
    · rw [if_neg he]
      have := ih (i + 1) (acc ++ [l[i].f0]) (by omega) (by simp; omega)
      rw [List.append_assoc] at this
      refine Ev.step (f := fun k => zZ.l0 k (acc ++ [l[i].f0]) l (l.length : Int) ((i + 1 : Nat) : Int)) (fun k => ?_) this
      simp only [zZ.l0]
      rw [if_pos (zR hlt), if_pos (yu i), if_pos (zR hlt), rd40_nat hlt, if_neg he, if_pos (by omega), yp i (by omega)]
theorem safe_names_ev (l : List S40) (m : List ByteArray) (hl : l.length < 549755813888) (hm : m.length < 549755813888) : Ev (fun k => zZ.f k l m) (names (m ++ vars l)) := by
  have := safe_names_l0 l hl l.length 0 m (by omega) (by omega)
  rw [List.drop_zero] at this
  refine Ev.congr (fun k => ?_) this
  unfold zZ.f yo.f
  rw [if_pos (by omega), Option.bind_some]
  rfl
end Go.Proofs.Ytmgbfgloegcloaa.Pu
namespace Go.Proofs.Ytmgbfgloegcloaa.Pu
open Go.RowKit Go.Proofs.YtmgbfgloegcloaaW.PrintWords Go.Proofs.YtmgbfgloegcloaaW.PrintLast Go.Proofs.Ytmgbfgloegcloaa.Ps AnteSet
def terms (x : S43) : List S40 := x.f1.f1 ++ [x.f3, x.f4, x.f5]
theorem qp (x : S43) : (terms x).length = x.f1.f1.length + 3 := by simp [terms]
theorem rdL5_0 (a b : List S40) : rd_L5 [a, b] 0 = a := rfl
theorem rdL5_1 (a b : List S40) : rd_L5 [a, b] 1 = b := rfl
theorem concat_ev (a b : List S40) (ha : a.length < 1000000000000) (hb : b.length < 1000000000000) : Ev (fun k => zV.f k [a, b]) (a ++ b) := by
  have w1 : wrap64 ((0 : Int) + (a.length : Int)) = (a.length : Int) := by unfold wrap64; omega
  have w2 : wrap64 ((a.length : Int) + (b.length : Int)) = ((a.length + b.length : Nat) : Int) := by unfold wrap64; omega
  have w3 : wrap64 ((0 : Int) + 1) = 1 := by unfold wrap64; omega
  have w4 : wrap64 ((1 : Int) + 1) = 2 := by unfold wrap64; omega
  have l2 : (([a, b] : List (List S40)).length : Int) = 2 := rfl
  unfold zV.f
  rw [l2]
  refine Ev.step (f := fun k => zV.l0 k [a, b] (a.length : Int) [a, b] 2 1) (fun k => ?_) ?_
  · simp only [zV.l0]
    rw [if_pos (by decide), if_pos (by decide), if_pos (by simp), rdL5_0, w1, w3, if_neg (by omega)]
  refine Ev.step (f := fun k => zV.l0 k [a, b] ((a.length + b.length : Nat) : Int) [a, b] 2 2) (fun k => ?_) ?_
  · simp only [zV.l0]
    rw [if_pos (by decide), if_pos (by decide), if_pos (by simp), rdL5_1, w2, w4, if_neg (by omega)]
  refine Ev.step (f := fun k => zV.l1 k [] [a, b] 2 0) (fun k => ?_) ?_
  · simp only [zV.l0]
    rw [if_neg (by decide)]
    unfold api_Term_49.f
    rw [if_pos ⟨rfl, by omega, by omega⟩, Option.bind_some]
    rfl
  refine Ev.step (f := fun k => zV.l1 k a [a, b] 2 1) (fun k => ?_) ?_
  · simp only [zV.l1]
    rw [if_pos (by decide), if_pos (by decide), if_pos (by simp), rdL5_0, if_pos (by simp; omega), w3, List.nil_append]
  refine Ev.step (f := fun k => zV.l1 k (a ++ b) [a, b] 2 2) (fun k => ?_) ?_
  · simp only [zV.l1]
    rw [if_pos (by decide), if_pos (by decide), if_pos (by simp), rdL5_1, if_pos (by omega), w4]
  refine Ev.step (f := fun _ => some (a ++ b)) (fun k => ?_) (Ev.now _)
  simp only [zV.l1]
  rw [if_neg (by decide)]
theorem safe_terms_ev (x : S43) (h : x.f1.f1.length < 274877906944) : Ev (fun k => qm.f k (x.f0) (x.f1.f0) (x.f1.f1) (x.f2) (x.f3.f0) (x.f3.f1.f0) (x.f3.f1.f1) (x.f3.f1.f2) (x.f4.f0) (x.f4.f1.f0) (x.f4.f1.f1) (x.f4.f1.f2) (x.f5.f0) (x.f5.f1.f0) (x.f5.f1.f1) (x.f5.f1.f2) (x.f6)) (terms x) := by
  refine Ev.congr (fun k => ?_) (concat_ev x.f1.f1 [x.f3, x.f4, x.f5] (by omega) (by simp))
  unfold qm.f
  cases zV.f k [x.f1.f1, [x.f3, x.f4, x.f5]] <;> rfl
theorem safe_Binds_ev (x : S43) (l : List ByteArray) (h : x.f1.f1.length < 274877906944) (hl : l.length < 549755813888) : Ev (fun k => qb.f k (x.f0) (x.f1.f0) (x.f1.f1) (x.f2) (x.f3.f0) (x.f3.f1.f0) (x.f3.f1.f1) (x.f3.f1.f2) (x.f4.f0) (x.f4.f1.f0) (x.f4.f1.f1) (x.f4.f1.f2) (x.f5.f0) (x.f5.f1.f0) (x.f5.f1.f1) (x.f5.f1.f2) (x.f6) l) (names (l ++ vars (terms x))) := by
  refine Ev.congr (fun k => ?_) (Ev.bind (f := fun k t => zZ.f k t l) (safe_terms_ev x h) (safe_names_ev (terms x) l (by rw [qp]; omega) hl))
  unfold qb.f
  congr 1
  funext t
  cases zZ.f k t l <;> rfl
theorem safe_Vars_ev (x : S43) (h : x.f1.f1.length < 274877906944) : Ev (fun k => qc.f k (x.f0) (x.f1.f0) (x.f1.f1) (x.f2) (x.f3.f0) (x.f3.f1.f0) (x.f3.f1.f1) (x.f3.f1.f2) (x.f4.f0) (x.f4.f1.f0) (x.f4.f1.f1) (x.f4.f1.f2) (x.f5.f0) (x.f5.f1.f0) (x.f5.f1.f1) (x.f5.f1.f2) (x.f6)) (names (vars (terms x))) := by
  refine Ev.congr (fun k => ?_) (Ev.bind (f := fun k t => zZ.f k t []) (safe_terms_ev x h) (safe_names_ev (terms x) [] (by rw [qp]; omega) (by simp)))
  unfold qc.f
  congr 1
  funext t
  cases zZ.f k t [] <;> rfl
theorem ref_terms (x : S43) (h : x.f1.f1.length < 274877906944) : zS.f (x.f0) (x.f1.f0) (x.f1.f1) (x.f2) (x.f3.f0) (x.f3.f1.f0) (x.f3.f1.f1) (x.f3.f1.f2) (x.f4.f0) (x.f4.f1.f0) (x.f4.f1.f1) (x.f4.f1.f2) (x.f5.f0) (x.f5.f1.f0) (x.f5.f1.f1) (x.f5.f1.f2) (x.f6) = some (terms x) := by
  unfold zS.f
  simp only [Option.bind_some, List.length_nil, List.nil_append, Nat.zero_add]
  rw [if_pos (by omega), if_pos (by simp; omega)]
  rfl
theorem ref_Binds_ev (x : S43) (l : List ByteArray) (h : x.f1.f1.length < 274877906944) (hl : l.length < 549755813888) : Ev (fun k => yq.f k (x.f0) (x.f1.f0) (x.f1.f1) (x.f2) (x.f3.f0) (x.f3.f1.f0) (x.f3.f1.f1) (x.f3.f1.f2) (x.f4.f0) (x.f4.f1.f0) (x.f4.f1.f1) (x.f4.f1.f2) (x.f5.f0) (x.f5.f1.f0) (x.f5.f1.f1) (x.f5.f1.f2) (x.f6) l) (names (l ++ vars (terms x))) := by
  refine Ev.congr (fun k => ?_) (names_ev (terms x) l (by rw [qp]; omega) hl)
  unfold yq.f
  rw [ref_terms x h, Option.bind_some]
  cases zp.f k (terms x) l <;> rfl
theorem ref_Vars_ev (x : S43) (h : x.f1.f1.length < 274877906944) : Ev (fun k => yN.f k (x.f0) (x.f1.f0) (x.f1.f1) (x.f2) (x.f3.f0) (x.f3.f1.f0) (x.f3.f1.f1) (x.f3.f1.f2) (x.f4.f0) (x.f4.f1.f0) (x.f4.f1.f1) (x.f4.f1.f2) (x.f5.f0) (x.f5.f1.f0) (x.f5.f1.f1) (x.f5.f1.f2) (x.f6)) (names (vars (terms x))) := by
  refine Ev.congr (fun k => ?_) (names_ev (terms x) [] (by rw [qp]; omega) (by simp))
  unfold yN.f
  rw [ref_terms x h, Option.bind_some]
  cases zp.f k (terms x) [] <;> rfl
theorem containsS_inB (l : List ByteArray) (v : ByteArray) : Lib.containsS l v = inB l v := by
  cases h : inB l v with
  | true => exact (Lib.containsS_iff l v).2 (inB_iff.1 h)
  | false =>
    cases h2 : Lib.containsS l v with
    | false => rfl
    | true => rw [inB_iff.2 ((Lib.containsS_iff l v).1 h2)] at h; cases h
theorem isB_iff {v : ByteArray} {l : List ByteArray} : isB v l = true ↔ v.toList = [] ∨ v ∈ l := by
  unfold isB
  rw [Bool.or_eq_true, beq_iff_eq, containsS_inB, inB_iff]
theorem mem_vars {s : ByteArray} {l : List S40} : s ∈ vars l ↔ s.toList ≠ [] ∧ ∃ t ∈ l, t.f0 = s := by
  unfold vars
  rw [List.mem_filter, List.mem_map]
  constructor
  · rintro ⟨⟨t, ht, rfl⟩, h⟩
    exact ⟨by simpa using h, t, ht, rfl⟩
  · rintro ⟨h, t, ht, rfl⟩
    exact ⟨⟨t, ht, rfl⟩, by simpa using h⟩
def ready (x : S43) (l : List ByteArray) : Bool := Ps.readyB x.f0 x.f2 x.f3.f0 x.f4.f0 x.f5.f0 x.f1.f1 l
theorem ready_two {x : S43} {l : List ByteArray} (h : x.f0 = 2) : ready x l = (names (vars (terms x))).all fun v => inB l v := by
  unfold ready Ps.readyB
  rw [if_pos h]
  rw [Bool.eq_iff_iff, List.all_eq_true]
  simp only [Bool.and_eq_true, Bool.not_eq_true', isB_iff, inB_iff, qy slo, mem_vars, terms, List.mem_append, List.mem_cons, List.not_mem_nil, or_false]
  constructor
  · rintro ⟨⟨⟨h1, h2⟩, h3⟩, h4⟩ v ⟨hv, t, ht, rfl⟩
    rcases ht with ht | rfl | rfl | rfl
    · have := List.any_eq_false.1 h1 t ht
      rw [Bool.not_eq_true, Bool.not_eq_false'] at this
      rcases isB_iff.1 this with e | e
      · exact absurd e hv
      · exact e
    · exact h2.elim (fun e => absurd e hv) id
    · exact h3.elim (fun e => absurd e hv) id
    · exact h4.elim (fun e => absurd e hv) id
  · intro H
    have key : ∀ t : S40, (t ∈ x.f1.f1 ∨ t = x.f3 ∨ t = x.f4 ∨ t = x.f5) → t.f0.toList = [] ∨ t.f0 ∈ l := by
      intro t ht
      by_cases e : t.f0.toList = []
      · exact .inl e
      · exact .inr (H t.f0 ⟨e, t, ht, rfl⟩)
    refine ⟨⟨⟨?_, key _ (.inr (.inl rfl))⟩, key _ (.inr (.inr (.inl rfl)))⟩, key _ (.inr (.inr (.inr rfl)))⟩
    rw [List.any_eq_false]
    intro t ht
    rw [Bool.not_eq_true, Bool.not_eq_false', isB_iff]
    exact key t (.inl ht)
theorem ready_loop (l v : List ByteArray) (hl : l.length < 4611686018427387904) (hv : v.length < 4611686018427387904) (d : Nat) : ∀ i : Nat, i + d = v.length →
    Ev (fun k => zu.l0 k l v (v.length : Int) (i : Int)) ((v.drop i).all fun s => inB l s) := by
  induction d with
  | zero =>
    intro i hi
    have hd : v.drop i = [] := List.drop_eq_nil_of_le (by omega)
    rw [hd]
    refine Ev.step (f := fun _ => some true) (fun k => ?_) (Ev.now _)
    simp only [zu.l0]
    rw [if_neg (yU (by omega))]
  | succ d ih =>
    intro i hi
    have hlt : i < v.length := by omega
    have hd : v.drop i = v[i] :: v.drop (i + 1) := List.drop_eq_getElem_cons hlt
    rw [hd, List.all_cons]
    refine Ev.step (f := fun k => (zK.f k l v[i]).bind fun t => if t = true then zu.l0 k l v (v.length : Int) ((i + 1 : Nat) : Int) else some false) (fun k => ?_)
      (Ev.bind (f := fun k t => if t = true then zu.l0 k l v (v.length : Int) ((i + 1 : Nat) : Int) else some false) (in_ev l v[i] hl) ?_)
    · simp only [zu.l0]
      rw [if_pos (zR hlt), if_pos (yu i), if_pos (zR hlt), qg _ _ _ hlt, yp i (by omega)]
    · cases h : inB l v[i] with
      | true => simpa using ih (i + 1) (by omega)
      | false => simpa using Ev.now false
theorem is_ev (s : ByteArray) (p q : Int) (z : ByteArray) (l : List ByteArray) (hl : l.length < 4611686018427387904) : Ev (fun k => zF.f k s p q z l) (isB s l) := by
  unfold isB
  rw [containsS_inB]
  by_cases h : s.toList = []
  · rw [beq_iff_eq.2 h, Bool.true_or]
    refine Ev.congr (fun k => ?_) (Ev.now true)
    unfold zF.f
    rw [if_pos h]
  · rw [beq_eq_false_iff_ne.2 h, Bool.false_or]
    refine Ev.congr (fun k => ?_) (in_ev l s hl)
    unfold zF.f
    rw [if_neg h]
    cases zK.f k l s <;> rfl
theorem ref_Ready_ev (x : S43) (l : List ByteArray) (h : x.f1.f1.length < 274877906944) (hl : l.length < 549755813888) : Ev (fun k => zu.f k (x.f0) (x.f1.f0) (x.f1.f1) (x.f2) (x.f3.f0) (x.f3.f1.f0) (x.f3.f1.f1) (x.f3.f1.f2) (x.f4.f0) (x.f4.f1.f0) (x.f4.f1.f1) (x.f4.f1.f2) (x.f5.f0) (x.f5.f1.f0) (x.f5.f1.f1) (x.f5.f1.f2) (x.f6) l) (ready x l) := by
  by_cases k2 : x.f0 = 2
  · rw [ready_two k2]
    have hn : (names (vars (terms x))).length < 4611686018427387904 := by
      have h1 := length_nset slo (vars (terms x))
      have h2 := vars_length (terms x)
      rw [qp] at h2
      show (nset blt (vars (terms x))).length < _
      omega
    have := ready_loop l (names (vars (terms x))) (by omega) hn (names (vars (terms x))).length 0 (by omega)
    rw [List.drop_zero] at this
    refine Ev.congr (fun k => ?_) (Ev.bind (f := fun k v => zu.l0 k l v (v.length : Int) 0) (ref_Vars_ev x h) this)
    unfold zu.f
    rw [if_pos k2]
  · by_cases k3 : x.f0 = 3
    · have e : ready x l = (if isB x.f3.f0 l = true then (if isB x.f4.f0 l = true then true else x.f2.toList == ([61] : List UInt8)) else (if x.f2.toList = ([61] : List UInt8) then isB x.f4.f0 l else false)) := by
        unfold ready Ps.readyB
        rw [if_neg k2, if_pos k3]
        by_cases eo : x.f2.toList = ([61] : List UInt8)
        · rw [beq_iff_eq.2 eo, if_pos eo]
          cases isB x.f3.f0 l <;> cases isB x.f4.f0 l <;> rfl
        · rw [beq_eq_false_iff_ne.2 eo, if_neg eo]
          cases isB x.f3.f0 l <;> cases isB x.f4.f0 l <;> rfl
      rw [e]
      refine Ev.congr (fun k => ?_) (Ev.bind (f := fun k a => (zF.f k x.f4.f0 x.f4.f1.f0 x.f4.f1.f1 x.f4.f1.f2 l).bind fun b => if a = true then (if b = true then some true else (if x.f2.toList = ([61] : List UInt8) then some true else some false)) else (if x.f2.toList = ([61] : List UInt8) then some b else some false)) (is_ev x.f3.f0 x.f3.f1.f0 x.f3.f1.f1 x.f3.f1.f2 l (by omega))
        (Ev.bind (f := fun _ b => if isB x.f3.f0 l = true then (if b = true then some true else (if x.f2.toList = ([61] : List UInt8) then some true else some false)) else (if x.f2.toList = ([61] : List UInt8) then some b else some false)) (is_ev x.f4.f0 x.f4.f1.f0 x.f4.f1.f1 x.f4.f1.f2 l (by omega)) ?_))
      · unfold zu.f
        rw [if_neg k2, if_pos k3]
      · by_cases eo : x.f2.toList = ([61] : List UInt8)
        · rw [beq_iff_eq.2 eo]
          simp only [if_pos eo]
          cases isB x.f3.f0 l <;> cases isB x.f4.f0 l <;> simpa using Ev.now _
        · rw [beq_eq_false_iff_ne.2 eo]
          simp only [if_neg eo]
          cases isB x.f3.f0 l <;> cases isB x.f4.f0 l <;> simpa using Ev.now _
    · by_cases k4 : x.f0 = 4
      · have e : ready x l = (isB x.f4.f0 l && isB x.f5.f0 l) := by
          unfold ready Ps.readyB
          rw [if_neg k2, if_neg k3, if_pos k4]
        rw [e]
        refine Ev.congr (fun k => ?_) (Ev.bind (f := fun k a => if a = true then (zF.f k x.f5.f0 x.f5.f1.f0 x.f5.f1.f1 x.f5.f1.f2 l).bind fun b => some b else some false) (is_ev x.f4.f0 x.f4.f1.f0 x.f4.f1.f1 x.f4.f1.f2 l (by omega)) ?_)
        · unfold zu.f
          rw [if_neg k2, if_neg k3, if_pos k4]
        · cases isB x.f4.f0 l with
          | false => simpa using Ev.now false
          | true =>
            simp only [if_true, Bool.true_and]
            exact Ev.bind (f := fun _ b => some b) (is_ev x.f5.f0 x.f5.f1.f0 x.f5.f1.f1 x.f5.f1.f2 l (by omega)) (Ev.now _)
      · have e : ready x l = true := by
          unfold ready Ps.readyB
          rw [if_neg k2, if_neg k3, if_neg k4]
        rw [e]
        refine Ev.congr (fun k => ?_) (Ev.now true)
        unfold zu.f
        rw [if_neg k2, if_neg k3, if_neg k4]
theorem safe_ready_eq (x : S43) (l : List ByteArray) : qu.f (x.f0) (x.f1.f0) (x.f1.f1) (x.f2) (x.f3.f0) (x.f3.f1.f0) (x.f3.f1.f1) (x.f3.f1.f2) (x.f4.f0) (x.f4.f1.f0) (x.f4.f1.f1) (x.f4.f1.f2) (x.f5.f0) (x.f5.f1.f0) (x.f5.f1.f1) (x.f5.f1.f2) (x.f6) l = some (ready x l) := rfl
end Go.Proofs.Ytmgbfgloegcloaa.Pu
namespace Go.Proofs.Ytmgbfgloegcloaa.Pu
open Go.RowKit Go.Proofs.YtmgbfgloegcloaaW.PrintWords Go.Proofs.YtmgbfgloegcloaaW.PrintLast Go.Proofs.Ytmgbfgloegcloaa.Ps AnteSet
def Small (body : List S43) : Prop := body.length ≤ 13 ∧ ∀ x ∈ body, x.f1.f1.length ≤ 10
theorem qE {l : List S43} {i : Nat} (h : i < l.length) : za l (i : Int) = l[i] := by
  unfold za; simp [List.getD, List.getElem?_eq_getElem h]
theorem rdOf_bool {l : List Bool} {i : Nat} (h : i < l.length) : rdOf false l (i : Int) = l[i] := qg _ _ _ h
def next (x : S43) (l : List ByteArray) : List ByteArray := names (l ++ vars (terms x))
theorem next_length (x : S43) (l : List ByteArray) (h : x.f1.f1.length ≤ 10) : (next x l).length ≤ l.length + 13 := by
  have h1 := length_nset slo (l ++ vars (terms x))
  have h2 := vars_length (terms x)
  rw [qp] at h2
  unfold next
  show (nset blt (l ++ vars (terms x))).length ≤ _
  rw [List.length_append] at h1
  omega
def pick (body : List S43) (taken : List Bool) (l : List ByteArray) : Nat → Nat → Option Nat
  | 0, _ => none
  | d + 1, i => if taken.getD i false = true then pick body taken l d (i + 1) else if ready (body.getD i z43) l = true then some i else pick body taken l d (i + 1)
theorem pick_spec {body : List S43} {taken : List Bool} {l : List ByteArray} : ∀ {d i j : Nat}, pick body taken l d i = some j → i ≤ j ∧ j < i + d ∧ taken.getD j false = false ∧ ready (body.getD j z43) l = true ∧ ∀ m, i ≤ m → m < j → taken.getD m false = true ∨ ready (body.getD m z43) l = false
  | 0, i, j, h => by simp [pick] at h
  | d + 1, i, j, h => by
    unfold pick at h
    split at h
    · rename_i ht
      obtain ⟨h1, h2, h3, h4, h5⟩ := pick_spec h
      refine ⟨by omega, by omega, h3, h4, fun m hm hj => ?_⟩
      rcases Nat.eq_or_lt_of_le hm with rfl | hm
      · exact .inl ht
      · exact h5 m hm hj
    · rename_i ht
      split at h
      · rename_i hr
        obtain rfl := Option.some.inj h
        exact ⟨Nat.le_refl _, by omega, by simpa using ht, hr, fun m h1 h2 => by omega⟩
      · rename_i hr
        obtain ⟨h1, h2, h3, h4, h5⟩ := pick_spec h
        refine ⟨by omega, by omega, h3, h4, fun m hm hj => ?_⟩
        rcases Nat.eq_or_lt_of_le hm with rfl | hm
        · exact .inr (by simpa using hr)
        · exact h5 m hm hj
theorem pick_none {body : List S43} {taken : List Bool} {l : List ByteArray} : ∀ {d i : Nat}, pick body taken l d i = none → ∀ m, i ≤ m → m < i + d → taken.getD m false = true ∨ ready (body.getD m z43) l = false
  | 0, i, _, m, h1, h2 => by omega
  | d + 1, i, h, m, h1, h2 => by
    unfold pick at h
    split at h
    · rename_i ht
      rcases Nat.eq_or_lt_of_le h1 with rfl | h1
      · exact .inl ht
      · exact pick_none h m h1 (by omega)
    · split at h
      · cases h
      · rename_i hr
        rcases Nat.eq_or_lt_of_le h1 with rfl | h1
        · exact .inr (by simpa using hr)
        · exact pick_none h m h1 (by omega)
def run (body : List S43) : Nat → List Bool → List ByteArray → List Nat → Option (List Nat × List ByteArray)
  | 0, _, l, out => some (out, l)
  | n + 1, taken, l, out =>
    match pick body taken l body.length 0 with
    | none => none
    | some i => run body n (taken.set i true) (next (body.getD i z43) l) (out ++ [i])
def order (body : List S43) (bound : List ByteArray) : Option (List Nat × List ByteArray) := run body body.length (List.replicate body.length false) (names bound) []
def told : Option (List Nat × List ByteArray) → List Int × List ByteArray × Int
  | none => ([], [], 7)
  | some (o, l) => (o.map Int.ofNat, l, 0)
theorem safe_l1 (body : List S43) (hs : Small body) (l : List ByteArray) (taken : List Bool) (out : List Nat) (ht : taken.length = body.length) (hl : l.length < 100000) (ho : out.length < 1000) (R : Option (List Nat × List ByteArray)) (d : Nat) :
    ∀ i : Nat, i + d = body.length → (pick body taken l d i = none → R = none) →
    (∀ j, pick body taken l d i = some j → Ev (fun k => zJ.l0 k body (next (body.getD j z43) l) (taken.set j true) (out.map Int.ofNat ++ [(j : Int)])) (told R)) →
    Ev (fun k => zJ.l1 k body l taken (out.map Int.ofNat) body (body.length : Int) (i : Int)) (told R) := by
  have hb := hs.1
  induction d with
  | zero =>
    intro i hi hn _
    rw [hn rfl]
    refine Ev.step (f := fun _ => some ([], [], 7)) (fun k => ?_) (Ev.now _)
    simp only [zJ.l1]
    rw [if_neg (yU (by omega))]
  | succ d ih =>
    intro i hi hn hj
    have hlt : i < body.length := by omega
    have hlt2 : i < taken.length := by omega
    have eb : body.getD i z43 = body[i] := by simp [List.getD, List.getElem?_eq_getElem hlt]
    have et : taken.getD i false = taken[i] := by simp [List.getD, List.getElem?_eq_getElem hlt2]
    unfold pick at hn hj
    rw [et, eb] at hn hj
    have step : (pick body taken l d (i + 1) = none → R = none) → (∀ j, pick body taken l d (i + 1) = some j → Ev (fun k => zJ.l0 k body (next (body.getD j z43) l) (taken.set j true) (out.map Int.ofNat ++ [(j : Int)])) (told R)) →
        Ev (fun k => zJ.l1 k body l taken (out.map Int.ofNat) body (body.length : Int) ((i + 1 : Nat) : Int)) (told R) := ih (i + 1) (by omega)
    cases htk : taken[i] with
    | true =>
      rw [htk] at hn hj
      refine Ev.step (f := fun k => zJ.l1 k body l taken (out.map Int.ofNat) body (body.length : Int) ((i + 1 : Nat) : Int)) (fun k => ?_) (step (by simpa using hn) (by simpa using hj))
      simp only [zJ.l1]
      rw [if_pos (zR hlt), if_pos (yu i), if_pos (zR hlt), if_pos (zR hlt2), rdOf_bool hlt2, htk, if_pos rfl, yp i (by omega)]
    | false =>
      rw [htk] at hn hj
      simp only [Bool.false_eq_true, if_false] at hn hj
      cases hr : ready body[i] l with
      | false =>
        rw [hr] at hn hj
        refine Ev.step (f := fun k => zJ.l1 k body l taken (out.map Int.ofNat) body (body.length : Int) ((i + 1 : Nat) : Int)) (fun k => ?_) (step (by simpa using hn) (by simpa using hj))
        simp only [zJ.l1]
        rw [if_pos (zR hlt), if_pos (yu i), if_pos (zR hlt), if_pos (zR hlt2), rdOf_bool hlt2, htk, if_neg (by decide), qE hlt, safe_ready_eq, hr, Option.bind_some, if_neg (by decide), yp i (by omega)]
      | true =>
        rw [hr] at hn hj
        have h1 := hj i (by simp)
        rw [eb] at h1
        refine Ev.step (f := fun k => (qb.f k (body[i].f0) (body[i].f1.f0) (body[i].f1.f1) (body[i].f2) (body[i].f3.f0) (body[i].f3.f1.f0) (body[i].f3.f1.f1) (body[i].f3.f1.f2) (body[i].f4.f0) (body[i].f4.f1.f0) (body[i].f4.f1.f1) (body[i].f4.f1.f2) (body[i].f5.f0) (body[i].f5.f1.f0) (body[i].f5.f1.f1) (body[i].f5.f1.f2) (body[i].f6) l).bind fun t => zJ.l0 k body t (taken.set i true) (out.map Int.ofNat ++ [(i : Int)])) (fun k => ?_)
          (Ev.bind (f := fun k t => zJ.l0 k body t (taken.set i true) (out.map Int.ofNat ++ [(i : Int)])) (safe_Binds_ev body[i] l (by have := hs.2 body[i] (List.getElem_mem hlt); omega) (by omega)) h1)
        simp only [zJ.l1]
        rw [if_pos (zR hlt), if_pos (yu i), if_pos (zR hlt), if_pos (zR hlt2), rdOf_bool hlt2, htk, if_neg (by decide), qE hlt, safe_ready_eq, hr, Option.bind_some, if_pos rfl, if_pos (by simp; omega)]
        rfl
theorem safe_l0 (body : List S43) (hs : Small body) (n : Nat) : ∀ (l : List ByteArray) (taken : List Bool) (out : List Nat), out.length + n = body.length → taken.length = body.length → l.length + 13 * n < 100000 →
    Ev (fun k => zJ.l0 k body l taken (out.map Int.ofNat)) (told (run body n taken l out)) := by
  have hb := hs.1
  induction n with
  | zero =>
    intro l taken out ho ht hl
    refine Ev.step (f := fun _ => some (out.map Int.ofNat, l, 0)) (fun k => ?_) (Ev.now _)
    simp only [zJ.l0]
    rw [if_neg (by simp; omega)]
  | succ n ih =>
    intro l taken out ho ht hl
    refine Ev.step (f := fun k => zJ.l1 k body l taken (out.map Int.ofNat) body (body.length : Int) 0) (fun k => ?_) ?_
    · simp only [zJ.l0]
      rw [if_pos (by simp; omega)]
    · refine safe_l1 body hs l taken out ht (by omega) (by omega) _ body.length 0 (by omega) (fun h => ?_) (fun j h => ?_)
      · unfold run; rw [h]
      · unfold run
        rw [h]
        obtain ⟨_, h2, _⟩ := pick_spec h
        have hj : j < body.length := by omega
        have eb : body.getD j z43 = body[j] := by simp [List.getD, List.getElem?_eq_getElem hj]
        have hlen := next_length (body.getD j z43) l (by rw [eb]; exact hs.2 _ (List.getElem_mem hj))
        have := ih (next (body.getD j z43) l) (taken.set j true) (out ++ [j]) (by simp; omega) (by simpa using ht) (by omega)
        simpa using this
theorem safe_Order_ev (body : List S43) (hs : Small body) (bound : List ByteArray) (hl : bound.length < 90000) : Ev (fun k => zJ.f k body bound) (told (order body bound)) := by
  have hb := hs.1
  have hn : (names bound).length ≤ bound.length := length_nset slo bound
  have h1 := safe_names_ev [] bound (by simp) (by omega)
  have e : bound ++ vars [] = bound := by simp [vars]
  rw [e] at h1
  refine Ev.congr (fun k => ?_) (Ev.bind (f := fun k t => zJ.l0 k body t (List.replicate body.length false) []) h1 (safe_l0 body hs body.length (names bound) (List.replicate body.length false) [] (by simp) (by simp) (by omega)))
  unfold zJ.f
  congr 1
  funext t
  rw [if_pos (by omega), if_pos (by simp; omega)]
  simp
theorem ref_l1b (body : List S43) (hs : Small body) (l : List ByteArray) (taken : List Bool) (outI : List Int) (ht : taken.length = body.length) (hl : l.length < 100000) (ho : outI.length < 1000) (j : Nat) (hjb : j < body.length) (R : List Int × List ByteArray × Int)
    (h : Ev (fun k => zk.l0 k body (next (body.getD j z43) l) (outI ++ [(j : Int)]) (taken.set j true)) R) (d : Nat) :
    ∀ i : Nat, i + d = body.length → Ev (fun k => zk.l1 k body l outI taken (j : Int) (body.length : Int) (i : Int)) R := by
  have hb := hs.1
  have eb : body.getD j z43 = body[j] := by simp [List.getD, List.getElem?_eq_getElem hjb]
  rw [eb] at h
  induction d with
  | zero =>
    intro i hi
    refine Ev.step (f := fun k => (yq.f k (body[j].f0) (body[j].f1.f0) (body[j].f1.f1) (body[j].f2) (body[j].f3.f0) (body[j].f3.f1.f0) (body[j].f3.f1.f1) (body[j].f3.f1.f2) (body[j].f4.f0) (body[j].f4.f1.f0) (body[j].f4.f1.f1) (body[j].f4.f1.f2) (body[j].f5.f0) (body[j].f5.f1.f0) (body[j].f5.f1.f1) (body[j].f5.f1.f2) (body[j].f6) l).bind fun t => zk.l0 k body t (outI ++ [(j : Int)]) (taken.set j true)) (fun k => ?_)
      (Ev.bind (f := fun k t => zk.l0 k body t (outI ++ [(j : Int)]) (taken.set j true)) (ref_Binds_ev body[j] l (by have := hs.2 body[j] (List.getElem_mem hjb); omega) (by omega)) h)
    simp only [zk.l1]
    rw [if_neg (yU (by omega)), if_neg (by omega), if_pos (yu j), if_pos (by omega), if_pos (by omega), if_pos (zR hjb), qE hjb]
    rfl
  | succ d ih =>
    intro i hi
    have hlt : i < body.length := by omega
    refine Ev.step (f := fun k => zk.l1 k body l outI taken (j : Int) (body.length : Int) ((i + 1 : Nat) : Int)) (fun k => ?_) (ih (i + 1) (by omega))
    simp only [zk.l1]
    rw [if_pos (zR hlt), if_neg (by omega), yp i (by omega)]
theorem ref_l1 (body : List S43) (hs : Small body) (l : List ByteArray) (taken : List Bool) (out : List Nat) (ht : taken.length = body.length) (hl : l.length < 100000) (ho : out.length < 1000) (R : Option (List Nat × List ByteArray)) (d : Nat) :
    ∀ i : Nat, i + d = body.length → (pick body taken l d i = none → R = none) →
    (∀ j, pick body taken l d i = some j → Ev (fun k => zk.l0 k body (next (body.getD j z43) l) (out.map Int.ofNat ++ [(j : Int)]) (taken.set j true)) (told R)) →
    Ev (fun k => zk.l1 k body l (out.map Int.ofNat) taken (-1) (body.length : Int) (i : Int)) (told R) := by
  have hb := hs.1
  induction d with
  | zero =>
    intro i hi hn _
    rw [hn rfl]
    refine Ev.step (f := fun _ => some ([], [], 7)) (fun k => ?_) (Ev.now _)
    simp only [zk.l1]
    rw [if_neg (yU (by omega)), if_pos (by decide)]
  | succ d ih =>
    intro i hi hn hj
    have hlt : i < body.length := by omega
    have hlt2 : i < taken.length := by omega
    have eb : body.getD i z43 = body[i] := by simp [List.getD, List.getElem?_eq_getElem hlt]
    have et : taken.getD i false = taken[i] := by simp [List.getD, List.getElem?_eq_getElem hlt2]
    unfold pick at hn hj
    rw [et, eb] at hn hj
    have step : (pick body taken l d (i + 1) = none → R = none) → (∀ j, pick body taken l d (i + 1) = some j → Ev (fun k => zk.l0 k body (next (body.getD j z43) l) (out.map Int.ofNat ++ [(j : Int)]) (taken.set j true)) (told R)) →
        Ev (fun k => zk.l1 k body l (out.map Int.ofNat) taken (-1) (body.length : Int) ((i + 1 : Nat) : Int)) (told R) := ih (i + 1) (by omega)
    cases htk : taken[i] with
    | true =>
      rw [htk] at hn hj
      refine Ev.step (f := fun k => zk.l1 k body l (out.map Int.ofNat) taken (-1) (body.length : Int) ((i + 1 : Nat) : Int)) (fun k => ?_) (step (by simpa using hn) (by simpa using hj))
      simp only [zk.l1]
      rw [if_pos (zR hlt), if_pos (by decide), if_pos (yu i), if_pos (zR hlt2), rdOf_bool hlt2, htk, if_pos rfl, yp i (by omega)]
    | false =>
      rw [htk] at hn hj
      simp only [Bool.false_eq_true, if_false] at hn hj
      have hargs := hs.2 body[i] (List.getElem_mem hlt)
      refine Ev.step (f := fun k => (zu.f k (body[i].f0) (body[i].f1.f0) (body[i].f1.f1) (body[i].f2) (body[i].f3.f0) (body[i].f3.f1.f0) (body[i].f3.f1.f1) (body[i].f3.f1.f2) (body[i].f4.f0) (body[i].f4.f1.f0) (body[i].f4.f1.f1) (body[i].f4.f1.f2) (body[i].f5.f0) (body[i].f5.f1.f0) (body[i].f5.f1.f1) (body[i].f5.f1.f2) (body[i].f6) l).bind fun t => if t = true then zk.l1 k body l (out.map Int.ofNat) taken (i : Int) (body.length : Int) ((i + 1 : Nat) : Int) else zk.l1 k body l (out.map Int.ofNat) taken (-1) (body.length : Int) ((i + 1 : Nat) : Int)) (fun k => ?_)
        (Ev.bind (f := fun k t => if t = true then zk.l1 k body l (out.map Int.ofNat) taken (i : Int) (body.length : Int) ((i + 1 : Nat) : Int) else zk.l1 k body l (out.map Int.ofNat) taken (-1) (body.length : Int) ((i + 1 : Nat) : Int)) (ref_Ready_ev body[i] l (by omega) (by omega)) ?_)
      · simp only [zk.l1]
        rw [if_pos (zR hlt), if_pos (by decide), if_pos (yu i), if_pos (zR hlt2), rdOf_bool hlt2, htk, if_neg (by decide), if_pos (zR hlt), qE hlt, yp i (by omega)]
      · cases hr : ready body[i] l with
        | false =>
          rw [hr] at hn hj
          simpa using step (by simpa using hn) (by simpa using hj)
        | true =>
          rw [hr] at hn hj
          have h1 := hj i (by simp)
          simpa using ref_l1b body hs l taken (out.map Int.ofNat) ht hl (by simpa using ho) i hlt _ h1 d (i + 1) (by omega)
theorem ref_l0 (body : List S43) (hs : Small body) (n : Nat) : ∀ (l : List ByteArray) (taken : List Bool) (out : List Nat), out.length + n = body.length → taken.length = body.length → l.length + 13 * n < 100000 →
    Ev (fun k => zk.l0 k body l (out.map Int.ofNat) taken) (told (run body n taken l out)) := by
  have hb := hs.1
  induction n with
  | zero =>
    intro l taken out ho ht hl
    refine Ev.step (f := fun _ => some (out.map Int.ofNat, l, 0)) (fun k => ?_) (Ev.now _)
    simp only [zk.l0]
    rw [if_neg (by simp; omega)]
  | succ n ih =>
    intro l taken out ho ht hl
    refine Ev.step (f := fun k => zk.l1 k body l (out.map Int.ofNat) taken (-1) (body.length : Int) 0) (fun k => ?_) ?_
    · simp only [zk.l0]
      rw [if_pos (by simp; omega)]
    · refine ref_l1 body hs l taken out ht (by omega) (by omega) _ body.length 0 (by omega) (fun h => ?_) (fun j h => ?_)
      · unfold run; rw [h]
      · unfold run
        rw [h]
        obtain ⟨_, h2, _⟩ := pick_spec h
        have hj : j < body.length := by omega
        have eb : body.getD j z43 = body[j] := by simp [List.getD, List.getElem?_eq_getElem hj]
        have hlen := next_length (body.getD j z43) l (by rw [eb]; exact hs.2 _ (List.getElem_mem hj))
        have := ih (next (body.getD j z43) l) (taken.set j true) (out ++ [j]) (by simp; omega) (by simpa using ht) (by omega)
        simpa using this
theorem ref_Order_ev (body : List S43) (hs : Small body) (bound : List ByteArray) (hl : bound.length < 90000) : Ev (fun k => zk.f k body bound) (told (order body bound)) := by
  have hb := hs.1
  have hn : (names bound).length ≤ bound.length := length_nset slo bound
  have h1 := names_ev [] bound (by simp) (by omega)
  have e : bound ++ vars [] = bound := by simp [vars]
  rw [e] at h1
  refine Ev.congr (fun k => ?_) (Ev.bind (f := fun k t => zk.l0 k body t [] (List.replicate body.length false)) h1 (ref_l0 body hs body.length (names bound) (List.replicate body.length false) [] (by simp) (by simp) (by omega)))
  unfold zk.f
  congr 1
  funext t
  rw [if_pos (by omega), if_pos (by simp; omega)]
  simp
end Go.Proofs.Ytmgbfgloegcloaa.Pu
