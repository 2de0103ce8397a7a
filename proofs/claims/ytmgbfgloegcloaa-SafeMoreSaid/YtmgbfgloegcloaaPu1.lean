/- WHAT THE FUNCTIONS ON NAMES ANSWER: In, Same, add, Names, and the program's names. No program's memory in sight. -/
import Derived.Test.YtmgbfgloegcloaaPsD
import Derived.Test.YtmgbfgloegcloaaTh
import Derived.Sort.Walk0
namespace Go.Proofs.Ytmgbfgloegcloaa.Pu
open Go.RowKit Go.Proofs.YtmgbfgloegcloaaW.PrintWords Go.Proofs.YtmgbfgloegcloaaW.PrintLast Go.Proofs.Ytmgbfgloegcloaa.Ps AnteSet

/-! ### numbers and lists -/
theorem wrap_succ (i : Nat) (h : i < 4611686018427387904) : wrap64 ((i : Int) + 1) = ((i + 1 : Nat) : Int) := by
  unfold wrap64; omega
theorem rdOf_nat {α : Type} (d : α) (xs : List α) (i : Nat) (h : i < xs.length) : rdOf d xs (i : Int) = xs[i] := by
  unfold rdOf; simp [List.getD, List.getElem?_eq_getElem h]
theorem lt_cast {i n : Nat} (h : i < n) : (i : Int) < (n : Int) := by omega
theorem nlt_cast {i n : Nat} (h : n ≤ i) : ¬ (i : Int) < (n : Int) := by omega
theorem nn_cast (i : Nat) : (0 : Int) ≤ (i : Int) := by omega

/-! ### the order of strings -/
def blt (a b : ByteArray) : Bool := Op.bytesLess a.toList b.toList
theorem toList_inj {a b : ByteArray} (h : a.toList = b.toList) : a = b := by
  rw [ByteArray.toList_eq, ByteArray.toList_eq] at h
  exact ByteArray.ext (Array.toList_inj.1 h)
theorem blt_iff {a b : ByteArray} : blt a b = true ↔ a.toList < b.toList := by
  unfold blt; rw [bytesLess_eq]; simp
theorem slo : Slo blt where
  irr a := by
    cases h : blt a a with
    | false => rfl
    | true => exact absurd (blt_iff.1 h) (List.lt_irrefl _)
  trans a b c h1 h2 := blt_iff.2 (List.lt_trans (blt_iff.1 h1) (blt_iff.1 h2))
  tri a b := by
    rcases Std.lt_trichotomy a.toList b.toList with h | h | h
    · exact .inl (blt_iff.2 h)
    · exact .inr (.inl (toList_inj h))
    · exact .inr (.inr (blt_iff.2 h))
abbrev names (l : List ByteArray) : List ByteArray := nset blt l
abbrev Ord (l : List ByteArray) : Prop := Sorted blt l

/-! ### In -/
def inB (l : List ByteArray) (a : ByteArray) : Bool := l.any fun x => x.toList == a.toList
theorem inB_iff {l : List ByteArray} {a : ByteArray} : inB l a = true ↔ a ∈ l := by
  unfold inB
  rw [List.any_eq_true]
  constructor
  · rintro ⟨x, hx, h⟩
    rw [← toList_inj (beq_iff_eq.1 h)]; exact hx
  · intro h
    exact ⟨a, h, beq_iff_eq.2 rfl⟩
theorem in_loop (l : List ByteArray) (a : ByteArray) (hl : l.length < 4611686018427387904) (d : Nat) : ∀ i : Nat, i + d = l.length →
    Ev (fun k => antecedentref11_In.l0 k l a (l.length : Int) (i : Int)) (inB (l.drop i) a) := by
  induction d with
  | zero =>
    intro i hi
    have hd : l.drop i = [] := List.drop_eq_nil_of_le (by omega)
    rw [hd]
    refine Ev.step (f := fun _ => some false) (fun k => ?_) (Ev.now _)
    simp only [antecedentref11_In.l0]
    rw [if_neg (nlt_cast (by omega))]
  | succ d ih =>
    intro i hi
    have hlt : i < l.length := by omega
    have hd : l.drop i = l[i] :: l.drop (i + 1) := List.drop_eq_getElem_cons hlt
    by_cases he : l[i].toList = a.toList
    · have e1 : inB (l.drop i) a = true := by rw [hd]; unfold inB; rw [List.any_cons, beq_iff_eq.2 he]; rfl
      rw [e1]
      refine Ev.step (f := fun _ => some true) (fun k => ?_) (Ev.now _)
      simp only [antecedentref11_In.l0]
      rw [if_pos (lt_cast hlt), if_pos (nn_cast i), if_pos (lt_cast hlt), rdOf_nat _ _ _ hlt, if_pos he]
    · have e1 : inB (l.drop i) a = inB (l.drop (i + 1)) a := by rw [hd]; unfold inB; rw [List.any_cons, beq_eq_false_iff_ne.2 he]; rfl
      rw [e1]
      refine Ev.step (f := fun k => antecedentref11_In.l0 k l a (l.length : Int) ((i + 1 : Nat) : Int)) (fun k => ?_) (ih (i + 1) (by omega))
      simp only [antecedentref11_In.l0]
      rw [if_pos (lt_cast hlt), if_pos (nn_cast i), if_pos (lt_cast hlt), rdOf_nat _ _ _ hlt, if_neg he, wrap_succ i (by omega)]
theorem in_ev (l : List ByteArray) (a : ByteArray) (hl : l.length < 4611686018427387904) : Ev (fun k => antecedentref11_In.f k l a) (inB l a) := by
  have := in_loop l a hl l.length 0 (by omega)
  simpa [antecedentref11_In.f] using this

/-! ### Same -/
theorem same_loop (a b : List ByteArray) (hab : a.length = b.length) (hl : a.length < 4611686018427387904) (d : Nat) : ∀ i : Nat, i + d = a.length →
    Ev (fun k => antecedentref11_Same.l0 k a b (a.length : Int) (i : Int)) (decide (a.drop i = b.drop i)) := by
  induction d with
  | zero =>
    intro i hi
    have hd : a.drop i = [] := List.drop_eq_nil_of_le (by omega)
    have hd2 : b.drop i = [] := List.drop_eq_nil_of_le (by omega)
    rw [hd, hd2, decide_eq_true rfl]
    refine Ev.step (f := fun _ => some true) (fun k => ?_) (Ev.now _)
    simp only [antecedentref11_Same.l0]
    rw [if_neg (nlt_cast (by omega))]
  | succ d ih =>
    intro i hi
    have hlt : i < a.length := by omega
    have hlt2 : i < b.length := by omega
    have hd : a.drop i = a[i] :: a.drop (i + 1) := List.drop_eq_getElem_cons hlt
    have hd2 : b.drop i = b[i] :: b.drop (i + 1) := List.drop_eq_getElem_cons hlt2
    by_cases he : a[i].toList = b[i].toList
    · have e : a[i] = b[i] := toList_inj he
      have : decide (a.drop i = b.drop i) = decide (a.drop (i + 1) = b.drop (i + 1)) := by
        rw [hd, hd2, e]
        exact decide_eq_decide.2 ⟨fun h => (List.cons.inj h).2, fun h => by rw [h]⟩
      rw [this]
      refine Ev.step (f := fun k => antecedentref11_Same.l0 k a b (a.length : Int) ((i + 1 : Nat) : Int)) (fun k => ?_) (ih (i + 1) (by omega))
      simp only [antecedentref11_Same.l0]
      rw [if_pos (lt_cast hlt), if_pos (nn_cast i), if_pos (lt_cast hlt), if_pos (lt_cast hlt2), rdOf_nat _ _ _ hlt, rdOf_nat _ _ _ hlt2, if_pos he, wrap_succ i (by omega)]
    · have : decide (a.drop i = b.drop i) = false := by
        rw [hd, hd2]
        refine decide_eq_false fun e => he ?_
        injection e with e _
        rw [e]
      rw [this]
      refine Ev.step (f := fun _ => some false) (fun k => ?_) (Ev.now _)
      simp only [antecedentref11_Same.l0]
      rw [if_pos (lt_cast hlt), if_pos (nn_cast i), if_pos (lt_cast hlt), if_pos (lt_cast hlt2), rdOf_nat _ _ _ hlt, rdOf_nat _ _ _ hlt2, if_neg he]
theorem same_ev (a b : List ByteArray) (hl : a.length < 4611686018427387904) : Ev (fun k => antecedentref11_Same.f k a b) (decide (a = b)) := by
  by_cases hab : a.length = b.length
  · have := same_loop a b hab hl a.length 0 (by omega)
    simp only [List.drop_zero] at this
    refine Ev.congr (fun k => ?_) this
    simp only [antecedentref11_Same.f]
    rw [if_pos (by omega)]
    rfl
  · rw [decide_eq_false (fun e => hab (by rw [e]))]
    refine Ev.congr (fun k => ?_) (Ev.now false)
    simp only [antecedentref11_Same.f]
    rw [if_neg (by omega)]
end Go.Proofs.Ytmgbfgloegcloaa.Pu
