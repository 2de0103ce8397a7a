/- WHAT add AND Names ANSWER, the document's and the program's: the names, in order, each once. No program's memory in sight. -/
import Derived.Test.YtmgbfgloegcloaaPu1
namespace Go.Proofs.Ytmgbfgloegcloaa.Pu
open Go.RowKit Go.Proofs.YtmgbfgloegcloaaW.PrintWords Go.Proofs.YtmgbfgloegcloaaW.PrintLast Go.Proofs.Ytmgbfgloegcloaa.Ps AnteSet

/-! ### add -/
def ble (s a : ByteArray) : Bool := Op.bytesLess s.toList a.toList || (s.toList == a.toList)
def addL (s : ByteArray) : Bool → List ByteArray → List ByteArray
  | true, [] => []
  | false, [] => [s]
  | true, a :: l => if a.toList = s.toList then addL s true l else a :: addL s true l
  | false, a :: l => if ble s a then (if a.toList = s.toList then s :: addL s true l else s :: a :: addL s true l) else (if a.toList = s.toList then addL s false l else a :: addL s false l)
theorem addL_length (s : ByteArray) : ∀ (b : Bool) (l : List ByteArray), (addL s b l).length ≤ l.length + 1
  | true, [] => by simp [addL]
  | false, [] => by simp [addL]
  | true, a :: l => by
    have := addL_length s true l
    unfold addL; split <;> simp <;> omega
  | false, a :: l => by
    have h1 := addL_length s true l
    have h2 := addL_length s false l
    have h3 : ∀ l, (addL s true l).length ≤ l.length := by
      intro l
      induction l with
      | nil => simp [addL]
      | cons a l ih => unfold addL; split <;> simp <;> omega
    have h4 := h3 l
    unfold addL
    split
    · split <;> simp <;> omega
    · split <;> simp <;> omega
theorem addL_true {s : ByteArray} {l : List ByteArray} (h : ∀ x ∈ l, blt s x = true) : addL s true l = l := by
  induction l with
  | nil => rfl
  | cons a l ih =>
    unfold addL
    rw [if_neg (fun e => slo.ne (h a (by simp)) (toList_inj e).symm), ih (fun x hx => h x (by simp [hx]))]
theorem addL_ins {s : ByteArray} {l : List ByteArray} (h : Ord l) : addL s false l = ins blt s l := by
  unfold Ord Sorted at h
  induction l with
  | nil => rfl
  | cons a l ih =>
    obtain ⟨h1, h2⟩ := List.pairwise_cons.1 h
    unfold addL ins
    by_cases hsa : blt s a = true
    · have hle : ble s a = true := by unfold ble; unfold blt at hsa; rw [hsa]; rfl
      rw [if_pos hle, if_pos hsa, if_neg (fun e => slo.ne hsa (toList_inj e).symm), addL_true (fun x hx => slo.trans _ _ _ hsa (h1 x hx))]
    · by_cases he : s = a
      · subst he
        have hle : ble s s = true := by unfold ble; simp
        rw [if_pos hle, if_neg hsa, if_pos rfl, if_pos rfl, addL_true h1]
      · have hne : ¬ a.toList = s.toList := fun e => he (toList_inj e).symm
        have hle : ¬ ble s a = true := by
          unfold ble
          intro h3
          rcases Bool.or_eq_true_iff.1 h3 with h4 | h4
          · exact hsa h4
          · exact hne (beq_iff_eq.1 h4).symm
        rw [if_neg hle, if_neg hne, if_neg hsa, if_neg he, ih h2]

theorem add_loop (l : List ByteArray) (s : ByteArray) (hl : l.length < 1099511627776) (d : Nat) : ∀ (i : Nat) (out : List ByteArray) (done : Bool), i + d = l.length → out.length ≤ i + 1 → (done = false → out.length ≤ i) →
    Ev (fun k => antecedentref11_add.l0 k l s out done (l.length : Int) (i : Int)) (out ++ addL s done (l.drop i)) := by
  induction d with
  | zero =>
    intro i out done hi ho hf
    have hd : l.drop i = [] := List.drop_eq_nil_of_le (by omega)
    rw [hd]
    refine Ev.step (f := fun _ => some (out ++ addL s done [])) (fun k => ?_) (Ev.now _)
    simp only [antecedentref11_add.l0]
    rw [if_neg (nlt_cast (by omega))]
    cases done with
    | true => rw [if_pos rfl]; simp [addL]
    | false => rw [if_neg (by decide), if_pos (by omega)]; simp [addL]
  | succ d ih =>
    intro i out done hi ho hf
    have hlt : i < l.length := by omega
    have hd : l.drop i = l[i] :: l.drop (i + 1) := List.drop_eq_getElem_cons hlt
    -- what stands behind the test
    have tail : ∀ (out : List ByteArray) (done : Bool), out.length ≤ i + 1 → (done = false → out.length ≤ i) → Ev (fun k => antecedentref11_add.j1 k l s out done (i : Int) (l.length : Int) (i : Int) false) (out ++ (if l[i].toList = s.toList then addL s done (l.drop (i + 1)) else l[i] :: addL s done (l.drop (i + 1)))) := by
      intro out done ho hf
      by_cases he : l[i].toList = s.toList
      · rw [if_pos he]
        refine Ev.step (f := fun k => antecedentref11_add.l0 k l s out done (l.length : Int) ((i + 1 : Nat) : Int)) (fun k => ?_) (ih (i + 1) out done (by omega) (by omega) (fun e => by have := hf e; omega))
        simp only [antecedentref11_add.j1]
        rw [if_neg (by decide), if_pos (nn_cast i), if_pos (lt_cast hlt), rdOf_nat _ _ _ hlt, if_pos he, wrap_succ i (by omega)]
      · rw [if_neg he]
        have := ih (i + 1) (out ++ [l[i]]) done (by omega) (by simp; omega) (fun e => by have := hf e; simp; omega)
        rw [List.append_assoc] at this
        refine Ev.step (f := fun k => antecedentref11_add.l0 k l s (out ++ [l[i]]) done (l.length : Int) ((i + 1 : Nat) : Int)) (fun k => ?_) this
        simp only [antecedentref11_add.j1]
        rw [if_neg (by decide), if_pos (nn_cast i), if_pos (lt_cast hlt), rdOf_nat _ _ _ hlt, if_neg he, if_pos (by omega), wrap_succ i (by omega)]
    have put : out.length ≤ i → Ev (fun k => antecedentref11_add.j1 k l s out done (i : Int) (l.length : Int) (i : Int) true) (out ++ (if l[i].toList = s.toList then s :: addL s true (l.drop (i + 1)) else s :: l[i] :: addL s true (l.drop (i + 1)))) := by
      intro ho
      by_cases he : l[i].toList = s.toList
      · rw [if_pos he]
        have := ih (i + 1) (out ++ [s]) true (by omega) (by simp; omega) (fun e => by cases e)
        rw [List.append_assoc] at this
        refine Ev.step (f := fun k => antecedentref11_add.l0 k l s (out ++ [s]) true (l.length : Int) ((i + 1 : Nat) : Int)) (fun k => ?_) this
        simp only [antecedentref11_add.j1, Option.bind_some]
        rw [if_pos trivial, if_pos (by omega), if_pos (nn_cast i), if_pos (lt_cast hlt), rdOf_nat _ _ _ hlt, if_pos he, wrap_succ i (by omega)]
      · rw [if_neg he]
        have := ih (i + 1) (out ++ [s] ++ [l[i]]) true (by omega) (by simp; omega) (fun e => by cases e)
        rw [show out ++ [s] ++ [l[i]] ++ addL s true (l.drop (i + 1)) = out ++ s :: l[i] :: addL s true (l.drop (i + 1)) by simp] at this
        refine Ev.step (f := fun k => antecedentref11_add.l0 k l s (out ++ [s] ++ [l[i]]) true (l.length : Int) ((i + 1 : Nat) : Int)) (fun k => ?_) this
        simp only [antecedentref11_add.j1, Option.bind_some]
        rw [if_pos trivial, if_pos (by omega), if_pos (nn_cast i), if_pos (lt_cast hlt), rdOf_nat _ _ _ hlt, if_neg he, if_pos (by simp; omega), wrap_succ i (by omega)]
    rw [hd]
    cases done with
    | true =>
      refine Ev.step (f := fun k => antecedentref11_add.j1 k l s out true (i : Int) (l.length : Int) (i : Int) false) (fun k => ?_) (tail out true ho (fun e => by cases e))
      simp only [antecedentref11_add.l0]
      rw [if_pos (lt_cast hlt), if_pos trivial]
    | false =>
      by_cases hle : ble s l[i] = true
      · have e : addL s false (l[i] :: l.drop (i + 1)) = if l[i].toList = s.toList then s :: addL s true (l.drop (i + 1)) else s :: l[i] :: addL s true (l.drop (i + 1)) := by
          conv => lhs; unfold addL
          rw [if_pos hle]
        rw [e]
        refine Ev.step (f := fun k => antecedentref11_add.j1 k l s out false (i : Int) (l.length : Int) (i : Int) true) (fun k => ?_) (put (hf rfl))
        simp only [antecedentref11_add.l0]
        have hle' : (Op.bytesLess s.toList l[i].toList || (s.toList == l[i].toList)) = true := hle
        rw [if_pos (lt_cast hlt), if_neg (by decide), if_pos (nn_cast i), if_pos (lt_cast hlt), rdOf_nat _ _ _ hlt, hle']
      · have e : addL s false (l[i] :: l.drop (i + 1)) = if l[i].toList = s.toList then addL s false (l.drop (i + 1)) else l[i] :: addL s false (l.drop (i + 1)) := by
          conv => lhs; unfold addL
          rw [if_neg hle]
        rw [e]
        refine Ev.step (f := fun k => antecedentref11_add.j1 k l s out false (i : Int) (l.length : Int) (i : Int) false) (fun k => ?_) (tail out false ho hf)
        simp only [antecedentref11_add.l0]
        have hle' : (Op.bytesLess s.toList l[i].toList || (s.toList == l[i].toList)) = false := by simpa [ble] using hle
        rw [if_pos (lt_cast hlt), if_neg (by decide), if_pos (nn_cast i), if_pos (lt_cast hlt), rdOf_nat _ _ _ hlt, hle']
theorem add_ev (l : List ByteArray) (s : ByteArray) (hl : l.length < 1099511627776) (ho : Ord l) : Ev (fun k => antecedentref11_add.f k l s) (ins blt s l) := by
  have := add_loop l s hl l.length 0 [] false (by omega) (by simp) (fun _ => by simp)
  rw [List.drop_zero, addL_ins ho, List.nil_append] at this
  exact this

/-! ### Names: the document's -/
/-- the variables of terms -/
def vars (l : List S40) : List ByteArray := (l.map (·.f0)).filter fun s => !(s.toList == ([] : List UInt8))
theorem vars_cons (t : S40) (l : List S40) : vars (t :: l) = if t.f0.toList = [] then vars l else t.f0 :: vars l := by
  unfold vars
  rw [List.map_cons, List.filter_cons]
  by_cases h : t.f0.toList = []
  · rw [if_pos h, beq_iff_eq.2 h]; rfl
  · rw [if_neg h, beq_eq_false_iff_ne.2 h]; rfl
theorem vars_length (l : List S40) : (vars l).length ≤ l.length := by
  unfold vars
  exact Nat.le_trans (List.length_filter_le _ _) (by simp)
theorem rd40_nat {l : List S40} {i : Nat} (h : i < l.length) : rd_T40 l (i : Int) = l[i] := by
  unfold rd_T40; simp [List.getD, List.getElem?_eq_getElem h]
theorem fold_length (l acc : List ByteArray) (ha : Ord acc) : (l.foldl (fun a s => ins blt s a) acc).length ≤ acc.length + l.length := (fold_spec slo l acc ha).2.2

theorem names_l1 (l : List S40) (hl : l.length < 1099511627776) (d : Nat) : ∀ (i : Nat) (acc : List ByteArray), i + d = l.length → Ord acc → acc.length + d < 1099511627776 →
    Ev (fun k => antecedentref11_Names.l1 k l acc (l.length : Int) (i : Int)) ((vars (l.drop i)).foldl (fun a s => ins blt s a) acc) := by
  induction d with
  | zero =>
    intro i acc hi ha hb
    have hd : l.drop i = [] := List.drop_eq_nil_of_le (by omega)
    rw [hd]
    refine Ev.step (f := fun _ => some acc) (fun k => ?_) (Ev.now _)
    simp only [antecedentref11_Names.l1]
    rw [if_neg (nlt_cast (by omega))]
  | succ d ih =>
    intro i acc hi ha hb
    have hlt : i < l.length := by omega
    have hd : l.drop i = l[i] :: l.drop (i + 1) := List.drop_eq_getElem_cons hlt
    rw [hd, vars_cons]
    by_cases he : l[i].f0.toList = []
    · rw [if_pos he]
      refine Ev.step (f := fun k => antecedentref11_Names.l1 k l acc (l.length : Int) ((i + 1 : Nat) : Int)) (fun k => ?_) (ih (i + 1) acc (by omega) ha (by omega))
      simp only [antecedentref11_Names.l1]
      rw [if_pos (lt_cast hlt), if_pos (nn_cast i), if_pos (lt_cast hlt), rd40_nat hlt, if_pos he, wrap_succ i (by omega)]
    · rw [if_neg he, List.foldl_cons]
      have hlen := length_ins (lt := blt) (s := l[i].f0) (l := acc)
      refine Ev.step (f := fun k => (antecedentref11_add.f k acc l[i].f0).bind fun t => antecedentref11_Names.l1 k l t (l.length : Int) ((i + 1 : Nat) : Int)) (fun k => ?_)
        (Ev.bind (f := fun k t => antecedentref11_Names.l1 k l t (l.length : Int) ((i + 1 : Nat) : Int)) (add_ev acc l[i].f0 (by omega) ha) (ih (i + 1) _ (by omega) (sorted_ins slo ha) (by omega)))
      simp only [antecedentref11_Names.l1]
      rw [if_pos (lt_cast hlt), if_pos (nn_cast i), if_pos (lt_cast hlt), rd40_nat hlt, if_neg he, wrap_succ i (by omega)]
theorem names_l0 (l : List S40) (m : List ByteArray) (hl : l.length < 549755813888) (hm : m.length < 549755813888) (d : Nat) : ∀ (i : Nat) (acc : List ByteArray), i + d = m.length → Ord acc → acc.length + d < 549755813888 →
    Ev (fun k => antecedentref11_Names.l0 k l m acc (m.length : Int) (i : Int)) ((m.drop i ++ vars l).foldl (fun a s => ins blt s a) acc) := by
  induction d with
  | zero =>
    intro i acc hi ha hb
    have hd : m.drop i = [] := List.drop_eq_nil_of_le (by omega)
    rw [hd, List.nil_append]
    refine Ev.step (f := fun k => antecedentref11_Names.l1 k l acc (l.length : Int) 0) (fun k => ?_) ?_
    · simp only [antecedentref11_Names.l0]
      rw [if_neg (nlt_cast (by omega))]
    · have := names_l1 l (by omega) l.length 0 acc (by omega) ha (by omega)
      rwa [List.drop_zero] at this
  | succ d ih =>
    intro i acc hi ha hb
    have hlt : i < m.length := by omega
    have hd : m.drop i = m[i] :: m.drop (i + 1) := List.drop_eq_getElem_cons hlt
    rw [hd, List.cons_append, List.foldl_cons]
    have hlen := length_ins (lt := blt) (s := m[i]) (l := acc)
    refine Ev.step (f := fun k => (antecedentref11_add.f k acc m[i]).bind fun t => antecedentref11_Names.l0 k l m t (m.length : Int) ((i + 1 : Nat) : Int)) (fun k => ?_)
      (Ev.bind (f := fun k t => antecedentref11_Names.l0 k l m t (m.length : Int) ((i + 1 : Nat) : Int)) (add_ev acc m[i] (by omega) ha) (ih (i + 1) _ (by omega) (sorted_ins slo ha) (by omega)))
    simp only [antecedentref11_Names.l0]
    rw [if_pos (lt_cast hlt), if_pos (nn_cast i), if_pos (lt_cast hlt), rdOf_nat _ _ _ hlt, wrap_succ i (by omega)]
theorem names_ev (l : List S40) (m : List ByteArray) (hl : l.length < 549755813888) (hm : m.length < 549755813888) : Ev (fun k => antecedentref11_Names.f k l m) (names (m ++ vars l)) := by
  have := names_l0 l m hl hm m.length 0 [] (by omega) List.Pairwise.nil (by simp; omega)
  rw [List.drop_zero] at this
  exact this

/-! ### names: the program's -/
theorem up_down (l : List ByteArray) : (l.map (·.data.toList)).map bytesUp = l := by
  rw [List.map_map]
  conv => rhs; rw [← List.map_id l]
  apply List.map_congr_left
  intro a _
  exact ByteArray.ext rfl
theorem comp_sort (l : List ByteArray) : compStr (sortStr l) = names l := by
  have hs : ∀ z : List (List UInt8), ((z.map bytesUp).map (·.data.toList)) = z := by
    intro z
    rw [List.map_map]
    conv => rhs; rw [← List.map_id z]
    apply List.map_congr_left
    intro a _
    simp [bytesUp]
  unfold compStr sortStr
  rw [hs]
  let lt8 : List UInt8 → List UInt8 → Bool := fun a b => decide (a < b)
  have hslo : Slo lt8 := ⟨fun a => decide_eq_false (List.lt_irrefl _), fun a b c h1 h2 => decide_eq_true (List.lt_trans (of_decide_eq_true h1) (of_decide_eq_true h2)), fun a b => by
    rcases Std.lt_trichotomy a b with h | h | h
    · exact .inl (decide_eq_true h)
    · exact .inr (.inl h)
    · exact .inr (.inr (decide_eq_true h))⟩
  have hsorted : ((l.map (·.data.toList)).mergeSort fun x y => decide (x ≤ y)).Pairwise (fun a b => lt8 b a = false) := by
    have := List.pairwise_mergeSort (le := fun (x y : List UInt8) => decide (x ≤ y)) (fun a b c h1 h2 => decide_eq_true (List.le_trans (of_decide_eq_true h1) (of_decide_eq_true h2)))
      (fun a b => by
        rcases List.le_total a b with h | h
        · simp [h]
        · simp [h]) (l.map (·.data.toList))
    refine this.imp fun {a b} h => ?_
    exact decide_eq_false (List.not_lt.2 (of_decide_eq_true h))
  rw [compact_nset hslo _ hsorted]
  refine uniq slo ?_ (sorted_nset slo l) (fun x => ?_)
  · unfold Sorted
    refine List.pairwise_map.2 ((sorted_nset hslo _).imp fun {a b} h => ?_)
    rw [blt_iff]
    have e : ∀ z : List UInt8, (bytesUp z).toList = z := fun z => by rw [ByteArray.toList_eq]; simp [bytesUp]
    rw [e, e]
    exact of_decide_eq_true h
  · rw [List.mem_map, mem_nset slo]
    constructor
    · rintro ⟨z, hz, rfl⟩
      rw [mem_nset hslo, List.mem_mergeSort, List.mem_map] at hz
      obtain ⟨a, ha, rfl⟩ := hz
      have : bytesUp a.data.toList = a := ByteArray.ext rfl
      rw [this]; exact ha
    · intro hx
      exact ⟨x.data.toList, by rw [mem_nset hslo, List.mem_mergeSort]; exact List.mem_map.2 ⟨x, hx, rfl⟩, ByteArray.ext rfl⟩
theorem safe_names_l0 (l : List S40) (hl : l.length < 549755813888) (d : Nat) : ∀ (i : Nat) (acc : List ByteArray), i + d = l.length → acc.length + d < 1099511627776 →
    Ev (fun k => safe_names.l0 k acc l (l.length : Int) (i : Int)) (names (acc ++ vars (l.drop i))) := by
  induction d with
  | zero =>
    intro i acc hi hb
    have hd : l.drop i = [] := List.drop_eq_nil_of_le (by omega)
    rw [hd]
    have e : acc ++ vars [] = acc := by simp [vars]
    rw [e]
    refine Ev.step (f := fun _ => some (names acc)) (fun k => ?_) (Ev.now _)
    simp only [safe_names.l0]
    rw [if_neg (nlt_cast (by omega))]
    have hs : (sortStr acc).length = acc.length := by simp [sortStr]
    unfold slices_Sort_string_string.f slices_Compact_string_string.f
    rw [if_pos (by omega), Option.bind_some, if_pos (by omega), Option.bind_some, comp_sort]
  | succ d ih =>
    intro i acc hi hb
    have hlt : i < l.length := by omega
    have hd : l.drop i = l[i] :: l.drop (i + 1) := List.drop_eq_getElem_cons hlt
    rw [hd, vars_cons]
    by_cases he : l[i].f0.toList = []
    · rw [if_pos he]
      refine Ev.step (f := fun k => safe_names.l0 k acc l (l.length : Int) ((i + 1 : Nat) : Int)) (fun k => ?_) (ih (i + 1) acc (by omega) (by omega))
      simp only [safe_names.l0]
      rw [if_pos (lt_cast hlt), if_pos (nn_cast i), if_pos (lt_cast hlt), rd40_nat hlt, if_pos he, wrap_succ i (by omega)]
    · rw [if_neg he]
      have := ih (i + 1) (acc ++ [l[i].f0]) (by omega) (by simp; omega)
      rw [List.append_assoc] at this
      refine Ev.step (f := fun k => safe_names.l0 k (acc ++ [l[i].f0]) l (l.length : Int) ((i + 1 : Nat) : Int)) (fun k => ?_) this
      simp only [safe_names.l0]
      rw [if_pos (lt_cast hlt), if_pos (nn_cast i), if_pos (lt_cast hlt), rd40_nat hlt, if_neg he, if_pos (by omega), wrap_succ i (by omega)]
theorem safe_names_ev (l : List S40) (m : List ByteArray) (hl : l.length < 549755813888) (hm : m.length < 549755813888) : Ev (fun k => safe_names.f k l m) (names (m ++ vars l)) := by
  have := safe_names_l0 l hl l.length 0 m (by omega) (by omega)
  rw [List.drop_zero] at this
  refine Ev.congr (fun k => ?_) this
  unfold safe_names.f slices_Clone_string_string.f
  rw [if_pos (by omega), Option.bind_some]
  rfl
end Go.Proofs.Ytmgbfgloegcloaa.Pu
