/- LISTS IN ORDER, EACH ONCE: what is put in, what is there, and that there is one such list alone. No program in sight. -/
import Derived.Lib.SlicesCompact
import Derived.Test.YtmgbfgloegcloaaPsD
import Derived.Sort.Walk0
namespace AnteSet
open Go
structure Slo {α : Type} (lt : α → α → Bool) : Prop where
  irr : ∀ a, lt a a = false
  trans : ∀ a b c, lt a b = true → lt b c = true → lt a c = true
  tri : ∀ a b, lt a b = true ∨ a = b ∨ lt b a = true
section
variable {α : Type} {lt : α → α → Bool}
theorem Slo.asym (h : Slo lt) {a b : α} (hab : lt a b = true) : lt b a = false := by
  cases hb : lt b a with
  | false => rfl
  | true =>
    have h1 := h.trans a b a hab hb
    rw [h.irr a] at h1
    cases h1
theorem Slo.ne (h : Slo lt) {a b : α} (hab : lt a b = true) : a ≠ b := by
  rintro rfl
  rw [h.irr a] at hab
  cases hab
def Sorted (lt : α → α → Bool) (l : List α) : Prop := l.Pairwise (fun a b => lt a b = true)
theorem uniq (h : Slo lt) : ∀ {a b : List α}, Sorted lt a → Sorted lt b → (∀ x, x ∈ a ↔ x ∈ b) → a = b
  | [], [], _, _, _ => rfl
  | [], y :: b, _, _, hm => by have := (hm y).2 (by simp); simp at this
  | x :: a, [], _, _, hm => by have := (hm x).1 (by simp); simp at this
  | x :: a, y :: b, ha, hb, hm => by
    obtain ⟨a1, a2⟩ := List.pairwise_cons.1 ha
    obtain ⟨b1, b2⟩ := List.pairwise_cons.1 hb
    have hxy : x = y := by
      rcases List.mem_cons.1 ((hm x).1 (by simp)) with e | e
      · exact e
      · rcases List.mem_cons.1 ((hm y).2 (by simp)) with e' | e'
        · exact e'.symm
        · have h1 := a1 y e'
          have h2 := b1 x e
          rw [h.asym h1] at h2
          cases h2
    subst hxy
    have : a = b := uniq h a2 b2 (fun z => by
      constructor
      · intro hz
        rcases List.mem_cons.1 ((hm z).1 (by simp [hz])) with e | e
        · subst e
          have := a1 z hz
          rw [h.irr] at this
          cases this
        · exact e
      · intro hz
        rcases List.mem_cons.1 ((hm z).2 (by simp [hz])) with e | e
        · subst e
          have := b1 z hz
          rw [h.irr] at this
          cases this
        · exact e)
    rw [this]
section
variable [DecidableEq α]
def ins (lt : α → α → Bool) (s : α) : List α → List α
  | [] => [s]
  | a :: l => if lt s a then s :: a :: l else if s = a then a :: l else a :: ins lt s l
def nset (lt : α → α → Bool) (l : List α) : List α := l.foldl (fun acc s => ins lt s acc) []
theorem mem_ins {s x : α} {l : List α} : x ∈ ins lt s l ↔ x = s ∨ x ∈ l := by
  induction l with
  | nil => simp [ins]
  | cons a l ih =>
    unfold ins
    split
    · simp
    · split
      · rename_i h1 h2
        subst h2
        simp
      · simp only [List.mem_cons, ih]
        constructor
        · rintro (h | h | h)
          · exact .inr (.inl h)
          · exact .inl h
          · exact .inr (.inr h)
        · rintro (h | h | h)
          · exact .inr (.inl h)
          · exact .inl h
          · exact .inr (.inr h)
theorem sorted_ins (h : Slo lt) {s : α} {l : List α} (hs : Sorted lt l) : Sorted lt (ins lt s l) := by
  unfold Sorted at *
  induction l with
  | nil => simp [ins]
  | cons a l ih =>
    obtain ⟨h1, h2⟩ := List.pairwise_cons.1 hs
    unfold ins
    split
    · rename_i hsa
      refine List.pairwise_cons.2 ⟨fun b hb => ?_, hs⟩
      rcases List.mem_cons.1 hb with rfl | hb
      · exact hsa
      · exact h.trans s a b hsa (h1 b hb)
    · split
      · exact hs
      · rename_i hsa hne
        refine List.pairwise_cons.2 ⟨fun b hb => ?_, ih h2⟩
        rcases mem_ins.1 hb with rfl | hb
        · rcases h.tri b a with h3 | h3 | h3
          · exact absurd h3 hsa
          · exact absurd h3 hne
          · exact h3
        · exact h1 b hb
theorem length_ins {s : α} {l : List α} : (ins lt s l).length ≤ l.length + 1 := by
  induction l with
  | nil => simp [ins]
  | cons a l ih =>
    unfold ins
    split
    · simp
    · split
      · simp
      · simp only [List.length_cons]; omega
theorem fold_spec (h : Slo lt) (l : List α) : ∀ acc, Sorted lt acc → Sorted lt (l.foldl (fun acc s => ins lt s acc) acc) ∧ (∀ x, x ∈ l.foldl (fun acc s => ins lt s acc) acc ↔ x ∈ acc ∨ x ∈ l) ∧ (l.foldl (fun acc s => ins lt s acc) acc).length ≤ acc.length + l.length := by
  induction l with
  | nil => intro acc hs; exact ⟨hs, by simp, by simp⟩
  | cons a l ih =>
    intro acc hs
    obtain ⟨h1, h2, h3⟩ := ih (ins lt a acc) (sorted_ins h hs)
    refine ⟨h1, fun x => ?_, ?_⟩
    · rw [List.foldl_cons, h2, mem_ins, List.mem_cons]
      constructor
      · rintro ((e | e) | e)
        · exact .inr (.inl e)
        · exact .inl e
        · exact .inr (.inr e)
      · rintro (e | e | e)
        · exact .inl (.inr e)
        · exact .inl (.inl e)
        · exact .inr e
    · have := length_ins (lt := lt) (s := a) (l := acc)
      simp only [List.foldl_cons, List.length_cons]
      omega
theorem qr (h : Slo lt) (l : List α) : Sorted lt (nset lt l) := (fold_spec h l [] List.Pairwise.nil).1
theorem qy (h : Slo lt) {l : List α} {x : α} : x ∈ nset lt l ↔ x ∈ l := by
  have := (fold_spec h l [] List.Pairwise.nil).2.1 x
  unfold nset
  rw [this]
  simp
theorem length_nset (h : Slo lt) (l : List α) : (nset lt l).length ≤ l.length := by
  have := (fold_spec h l [] List.Pairwise.nil).2.2
  simpa [nset] using this
theorem nset_congr (h : Slo lt) {a b : List α} (hm : ∀ x, x ∈ a ↔ x ∈ b) : nset lt a = nset lt b :=
  uniq h (qr h a) (qr h b) (fun _ => by rw [qy h, qy h, hm])
theorem compact_nset [Inhabited α] (h : Slo lt) (zs : List α) (hs : zs.Pairwise (fun a b => lt b a = false)) : Lib.compact zs = nset lt zs := by
  have hle : ∀ i j, i ≤ j → j < zs.length → lt (zs.toArray[j]!) (zs.toArray[i]!) = false := by
    intro i j hij hj
    rcases Nat.lt_or_eq_of_le hij with hlt | rfl
    · have := List.pairwise_iff_getElem.1 hs i j (by omega) hj hlt
      simpa [getElem!_pos, hj, show i < zs.length by omega] using this
    · exact h.irr _
  have key : ∀ m, m ≤ zs.length → Sorted lt (Lib.compactUpTo zs.toArray m) ∧ (∀ x, x ∈ Lib.compactUpTo zs.toArray m ↔ ∃ j, j < m ∧ zs.toArray[j]! = x) := by
    intro m
    induction m with
    | zero => exact fun _ => ⟨by simp [Lib.compactUpTo, Sorted], by simp [Lib.compactUpTo]⟩
    | succ m ih =>
      intro hm
      obtain ⟨h1, h2⟩ := ih (by omega)
      rw [Lib.compactUpTo_succ]
      by_cases hk : Lib.keeps zs.toArray m = true
      · rw [if_pos hk]
        refine ⟨List.pairwise_append.2 ⟨h1, by simp, fun a ha b hb => ?_⟩, fun x => ?_⟩
        · rw [List.mem_singleton.1 hb]
          obtain ⟨j, hj, rfl⟩ := (h2 a).1 ha
          rcases h.tri (zs.toArray[j]!) (zs.toArray[m]!) with e | e | e
          · exact e
          · exfalso
            have hm0 : m ≠ 0 := by omega
            have hne : zs.toArray[m]! ≠ zs.toArray[m - 1]! := by
              have := hk
              simp only [Lib.keeps, decide_eq_true_eq] at this
              rcases this with e0 | e0
              · exact absurd e0 hm0
              · exact e0
            have l1 := hle j (m - 1) (by omega) (by omega)
            have l2 := hle (m - 1) m (by omega) (by omega)
            rcases h.tri (zs.toArray[m]!) (zs.toArray[m - 1]!) with e1 | e1 | e1
            · rw [l2] at e1; cases e1
            · exact hne e1
            · rw [← e, l1] at e1; cases e1
          · rw [hle j m (by omega) (by omega)] at e; cases e
        · rw [List.mem_append, h2, List.mem_singleton]
          constructor
          · rintro (⟨j, hj, e⟩ | e)
            · exact ⟨j, by omega, e⟩
            · exact ⟨m, by omega, e.symm⟩
          · rintro ⟨j, hj, e⟩
            rcases Nat.lt_or_eq_of_le (Nat.le_of_lt_succ hj) with hlt | rfl
            · exact .inl ⟨j, hlt, e⟩
            · exact .inr e.symm
      · have hk' : Lib.keeps zs.toArray m = false := by simpa using hk
        rw [if_neg (by simp [hk'])]
        rw [List.append_nil]
        refine ⟨h1, fun x => ?_⟩
        rw [h2]
        constructor
        · rintro ⟨j, hj, e⟩; exact ⟨j, by omega, e⟩
        · rintro ⟨j, hj, e⟩
          rcases Nat.lt_or_eq_of_le (Nat.le_of_lt_succ hj) with hlt | rfl
          · exact ⟨j, hlt, e⟩
          · have : ¬ (j = 0 ∨ zs.toArray[j]! ≠ zs.toArray[j - 1]!) := by simpa [Lib.keeps] using hk'
            have h0 : j ≠ 0 := fun e0 => this (.inl e0)
            have he : zs.toArray[j]! = zs.toArray[j - 1]! := Classical.byContradiction fun e0 => this (.inr e0)
            exact ⟨j - 1, by omega, he.symm.trans e⟩
  obtain ⟨h1, h2⟩ := key zs.length (Nat.le_refl _)
  refine uniq h h1 (qr h zs) (fun x => ?_)
  rw [qy h]
  show x ∈ Lib.compactUpTo zs.toArray zs.length ↔ _
  rw [h2]
  constructor
  · rintro ⟨j, hj, rfl⟩
    have : zs.toArray[j]! = zs[j] := by simp [getElem!_pos, hj]
    rw [this]
    exact List.getElem_mem hj
  · intro hx
    obtain ⟨j, hj, e⟩ := List.getElem_of_mem hx
    exact ⟨j, hj, by simp [getElem!_pos, hj, e]⟩
end
end
end AnteSet
namespace Go.Proofs.Ytmgbfgloegcloaa.Pu
open Go.RowKit Go.Proofs.YtmgbfgloegcloaaW.PrintWords Go.Proofs.YtmgbfgloegcloaaW.PrintLast Go.Proofs.Ytmgbfgloegcloaa.Ps AnteSet
theorem yp (i : Nat) (h : i < 4611686018427387904) : wrap64 ((i : Int) + 1) = ((i + 1 : Nat) : Int) := by
  unfold wrap64; omega
theorem qg {α : Type} (d : α) (xs : List α) (i : Nat) (h : i < xs.length) : rdOf d xs (i : Int) = xs[i] := by
  unfold rdOf; simp [List.getD, List.getElem?_eq_getElem h]
theorem zR {i n : Nat} (h : i < n) : (i : Int) < (n : Int) := by omega
theorem yU {i n : Nat} (h : n ≤ i) : ¬ (i : Int) < (n : Int) := by omega
theorem yu (i : Nat) : (0 : Int) ≤ (i : Int) := by omega
def blt (a b : ByteArray) : Bool := Op.bytesLess a.toList b.toList
theorem toList_inj {a b : ByteArray} (h : a.toList = b.toList) : a = b := by
  rw [ByteArray.toList_eq, ByteArray.toList_eq] at h
  exact ByteArray.ext (Array.toList_inj.1 h)
theorem blt_iff {a b : ByteArray} : blt a b = true ↔ a.toList < b.toList := by
  unfold blt; rw [bytesLess_eq]; simp
theorem slo : Slo blt where
  irr a := by
    cases h : blt a a with
    | false => rfl
    | true => exact absurd (blt_iff.1 h) (List.lt_irrefl _)
  trans a b c h1 h2 := blt_iff.2 (List.lt_trans (blt_iff.1 h1) (blt_iff.1 h2))
  tri a b := by
    rcases Std.lt_trichotomy a.toList b.toList with h | h | h
    · exact .inl (blt_iff.2 h)
    · exact .inr (.inl (toList_inj h))
    · exact .inr (.inr (blt_iff.2 h))
abbrev names (l : List ByteArray) : List ByteArray := nset blt l
abbrev Ord (l : List ByteArray) : Prop := Sorted blt l
def inB (l : List ByteArray) (a : ByteArray) : Bool := l.any fun x => x.toList == a.toList
theorem inB_iff {l : List ByteArray} {a : ByteArray} : inB l a = true ↔ a ∈ l := by
  unfold inB
  rw [List.any_eq_true]
  constructor
  · rintro ⟨x, hx, h⟩
    rw [← toList_inj (beq_iff_eq.1 h)]; exact hx
  · intro h
    exact ⟨a, h, beq_iff_eq.2 rfl⟩
theorem in_loop (l : List ByteArray) (a : ByteArray) (hl : l.length < 4611686018427387904) (d : Nat) : ∀ i : Nat, i + d = l.length →
    Ev (fun k => zK.l0 k l a (l.length : Int) (i : Int)) (inB (l.drop i) a) := by
  induction d with
  | zero =>
    intro i hi
    have hd : l.drop i = [] := List.drop_eq_nil_of_le (by omega)
    rw [hd]
    refine Ev.step (f := fun _ => some false) (fun k => ?_) (Ev.now _)
    simp only [zK.l0]
    rw [if_neg (yU (by omega))]
  | succ d ih =>
    intro i hi
    have hlt : i < l.length := by omega
    have hd : l.drop i = l[i] :: l.drop (i + 1) := List.drop_eq_getElem_cons hlt
    by_cases he : l[i].toList = a.toList
    · have e1 : inB (l.drop i) a = true := by rw [hd]; unfold inB; rw [List.any_cons, beq_iff_eq.2 he]; rfl
      rw [e1]
      refine Ev.step (f := fun _ => some true) (fun k => ?_) (Ev.now _)
      simp only [zK.l0]
      rw [if_pos (zR hlt), if_pos (yu i), if_pos (zR hlt), qg _ _ _ hlt, if_pos he]
    · have e1 : inB (l.drop i) a = inB (l.drop (i + 1)) a := by rw [hd]; unfold inB; rw [List.any_cons, beq_eq_false_iff_ne.2 he]; rfl
      rw [e1]
      refine Ev.step (f := fun k => zK.l0 k l a (l.length : Int) ((i + 1 : Nat) : Int)) (fun k => ?_) (ih (i + 1) (by omega))
      simp only [zK.l0]
      rw [if_pos (zR hlt), if_pos (yu i), if_pos (zR hlt), qg _ _ _ hlt, if_neg he, yp i (by omega)]
theorem in_ev (l : List ByteArray) (a : ByteArray) (hl : l.length < 4611686018427387904) : Ev (fun k => zK.f k l a) (inB l a) := by
  have := in_loop l a hl l.length 0 (by omega)
  simpa [zK.f] using this
theorem same_loop (a b : List ByteArray) (hab : a.length = b.length) (hl : a.length < 4611686018427387904) (d : Nat) : ∀ i : Nat, i + d = a.length →
    Ev (fun k => zE.l0 k a b (a.length : Int) (i : Int)) (decide (a.drop i = b.drop i)) := by
  induction d with
  | zero =>
    intro i hi
    have hd : a.drop i = [] := List.drop_eq_nil_of_le (by omega)
    have hd2 : b.drop i = [] := List.drop_eq_nil_of_le (by omega)
    rw [hd, hd2, decide_eq_true rfl]
    refine Ev.step (f := fun _ => some true) (fun k => ?_) (Ev.now _)
    simp only [zE.l0]
    rw [if_neg (yU (by omega))]
  | succ d ih =>
    intro i hi
    have hlt : i < a.length := by omega
    have hlt2 : i < b.length := by omega
    have hd : a.drop i = a[i] :: a.drop (i + 1) := List.drop_eq_getElem_cons hlt
    have hd2 : b.drop i = b[i] :: b.drop (i + 1) := List.drop_eq_getElem_cons hlt2
    by_cases he : a[i].toList = b[i].toList
    · have e : a[i] = b[i] := toList_inj he
      have : decide (a.drop i = b.drop i) = decide (a.drop (i + 1) = b.drop (i + 1)) := by
        rw [hd, hd2, e]
        exact decide_eq_decide.2 ⟨fun h => (List.cons.inj h).2, fun h => by rw [h]⟩
      rw [this]
      refine Ev.step (f := fun k => zE.l0 k a b (a.length : Int) ((i + 1 : Nat) : Int)) (fun k => ?_) (ih (i + 1) (by omega))
      simp only [zE.l0]
      rw [if_pos (zR hlt), if_pos (yu i), if_pos (zR hlt), if_pos (zR hlt2), qg _ _ _ hlt, qg _ _ _ hlt2, if_pos he, yp i (by omega)]
    · have : decide (a.drop i = b.drop i) = false := by
        rw [hd, hd2]
        refine decide_eq_false fun e => he ?_
        injection e with e _
        rw [e]
      rw [this]
      refine Ev.step (f := fun _ => some false) (fun k => ?_) (Ev.now _)
      simp only [zE.l0]
      rw [if_pos (zR hlt), if_pos (yu i), if_pos (zR hlt), if_pos (zR hlt2), qg _ _ _ hlt, qg _ _ _ hlt2, if_neg he]
theorem same_ev (a b : List ByteArray) (hl : a.length < 4611686018427387904) : Ev (fun k => zE.f k a b) (decide (a = b)) := by
  by_cases hab : a.length = b.length
  · have := same_loop a b hab hl a.length 0 (by omega)
    simp only [List.drop_zero] at this
    refine Ev.congr (fun k => ?_) this
    simp only [zE.f]
    rw [if_pos (by omega)]
    rfl
  · rw [decide_eq_false (fun e => hab (by rw [e]))]
    refine Ev.congr (fun k => ?_) (Ev.now false)
    simp only [zE.f]
    rw [if_neg (by omega)]
end Go.Proofs.Ytmgbfgloegcloaa.Pu
