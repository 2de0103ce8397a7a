/- SafeBinds: what the law computes is true. No program's memory in sight. -/
import Derived.Test.YtmgbfgloegcloaaPu6
namespace Go.Proofs.Ytmgbfgloegcloaa.Pu
open Go.RowKit Go.Proofs.YtmgbfgloegcloaaW.PrintWords Go.Proofs.YtmgbfgloegcloaaW.PrintLast Go.Proofs.Ytmgbfgloegcloaa.Ps AnteSet

theorem wrap_pred (i : Nat) (h0 : 0 < i) (h : i < 4611686018427387904) : wrap64 ((i : Int) - 1) = ((i - 1 : Nat) : Int) := by
  unfold wrap64; omega
theorem ord_step {b : List ByteArray} (h : Ord b) {i : Nat} (h0 : 0 < i) (hi : i < b.length) : (Op.bytesLess b[i].toList b[i - 1].toList || (b[i].toList == b[i - 1].toList)) = false := by
  have hp := List.pairwise_iff_getElem.1 h (i - 1) i (by omega) hi (by omega)
  have h1 : blt b[i] b[i - 1] = false := slo.asym hp
  have h2 : b[i] ≠ b[i - 1] := fun e => slo.ne hp e.symm
  rw [Bool.or_eq_false_iff]
  refine ⟨h1, ?_⟩
  rw [beq_eq_false_iff_ne]
  exact fun e => h2 (toList_inj e)
theorem binds_l1 (x : S43) (hx : x.f1.f1.length ≤ 10) (b v all : List ByteArray) (hb : b.length ≤ 1000) (hv : v.length ≤ 1000) (hl : all.length ≤ 10000) (hall : ∀ s ∈ all, inB b s = true)
    (e1 : names (b ++ vars (terms x)) = b) (e2 : names (vars (terms x)) = v) (d : Nat) :
    ∀ i : Nat, i + d = all.length → Ev (fun k => antecedentlaw11_SafeBinds.l1 k b v all (all.length : Int) (i : Int) (x.f0) (x.f1.f0) (x.f1.f1) (x.f2) (x.f3.f0) (x.f3.f1.f0) (x.f3.f1.f1) (x.f3.f1.f2) (x.f4.f0) (x.f4.f1.f0) (x.f4.f1.f1) (x.f4.f1.f2) (x.f5.f0) (x.f5.f1.f0) (x.f5.f1.f1) (x.f5.f1.f2) (x.f6)) true := by
  induction d with
  | zero =>
    intro i hi
    have s1 := same_ev b b (by omega)
    have s2 := same_ev v v (by omega)
    rw [decide_eq_true rfl] at s1 s2
    have b1 := safe_Binds_ev x b (by omega) (by omega)
    rw [e1] at b1
    have b2 := safe_Binds_ev x [] (by omega) (by simp)
    rw [List.nil_append, e2] at b2
    obtain ⟨k1, b1⟩ := b1
    obtain ⟨k2, b2⟩ := b2
    obtain ⟨k3, s1⟩ := s1
    obtain ⟨k4, s2⟩ := s2
    refine ⟨k1 + k2 + k3 + k4 + 1, fun k hk => ?_⟩
    obtain ⟨k, rfl⟩ : ∃ j, k = j + 1 := ⟨k - 1, by omega⟩
    simp only [antecedentlaw11_SafeBinds.l1]
    rw [if_neg (nlt_cast (by omega))]
    refine (congrArg (fun t => Option.bind t _) (b1 k (by omega))).trans ?_
    refine (congrArg (fun t => Option.bind t _) (s1 k (by omega))).trans ?_
    rw [Option.bind_some, if_pos rfl]
    refine (congrArg (fun t => Option.bind t _) (b2 k (by omega))).trans ?_
    refine (congrArg (fun t => Option.bind t _) (s2 k (by omega))).trans ?_
    rfl
  | succ d ih =>
    intro i hi
    have hlt : i < all.length := by omega
    have hin := in_ev b all[i] (by omega)
    rw [hall _ (List.getElem_mem hlt)] at hin
    obtain ⟨k1, h1⟩ := hin
    obtain ⟨k2, h2⟩ := ih (i + 1) (by omega)
    refine ⟨k1 + k2 + 1, fun k hk => ?_⟩
    obtain ⟨k, rfl⟩ : ∃ j, k = j + 1 := ⟨k - 1, by omega⟩
    simp only [antecedentlaw11_SafeBinds.l1]
    rw [if_pos (lt_cast hlt), if_pos (nn_cast i), if_pos (lt_cast hlt), rdOf_nat _ _ _ hlt]
    refine (congrArg (fun t => Option.bind t _) (h1 k (by omega))).trans ?_
    rw [Option.bind_some, if_pos rfl, wrap_succ i (by omega)]
    exact h2 k (by omega)
theorem binds_l0 (x : S43) (hx : x.f1.f1.length ≤ 10) (l b v : List ByteArray) (hl : l.length ≤ 20) (hb : b.length ≤ 1000) (hv : v.length ≤ 1000) (ho : Ord b) (hm : ∀ s ∈ b, s ∈ v ∨ s ∈ l)
    (hall : ∀ s ∈ v ++ l, inB b s = true) (e1 : names (b ++ vars (terms x)) = b) (e2 : names (vars (terms x)) = v) (d : Nat) :
    ∀ i : Nat, i + d = b.length → Ev (fun k => antecedentlaw11_SafeBinds.l0 k l b v (b.length : Int) (i : Int) (x.f0) (x.f1.f0) (x.f1.f1) (x.f2) (x.f3.f0) (x.f3.f1.f0) (x.f3.f1.f1) (x.f3.f1.f2) (x.f4.f0) (x.f4.f1.f0) (x.f4.f1.f1) (x.f4.f1.f2) (x.f5.f0) (x.f5.f1.f0) (x.f5.f1.f1) (x.f5.f1.f2) (x.f6)) true := by
  induction d with
  | zero =>
    intro i hi
    obtain ⟨k1, h1⟩ := binds_l1 x hx b v (v ++ l) hb hv (by simp; omega) hall e1 e2 (v ++ l).length 0 (by omega)
    refine ⟨k1 + 1, fun k hk => ?_⟩
    obtain ⟨k, rfl⟩ : ∃ j, k = j + 1 := ⟨k - 1, by omega⟩
    simp only [antecedentlaw11_SafeBinds.l0]
    rw [if_neg (nlt_cast (by omega)), Option.bind_some, List.nil_append, if_pos (by simp; omega), Option.bind_some, if_pos (by omega), Option.bind_some]
    exact h1 k (by omega)
  | succ d ih =>
    intro i hi
    have hlt : i < b.length := by omega
    have i1 := in_ev v b[i] (by omega)
    have i2 := in_ev l b[i] (by omega)
    obtain ⟨k2, h2⟩ := ih (i + 1) (by omega)
    obtain ⟨k3, i1⟩ := i1
    obtain ⟨k4, i2⟩ := i2
    refine ⟨k2 + k3 + k4 + 1, fun k hk => ?_⟩
    obtain ⟨k, rfl⟩ : ∃ j, k = j + 1 := ⟨k - 1, by omega⟩
    have fin : ((antecedentref11_In.f k v b[i]).bind fun t477 => (if t477 = true then (antecedentlaw11_SafeBinds.l0 k l b v (b.length : Int) ((i + 1 : Nat) : Int) (x.f0) (x.f1.f0) (x.f1.f1) (x.f2) (x.f3.f0) (x.f3.f1.f0) (x.f3.f1.f1) (x.f3.f1.f2) (x.f4.f0) (x.f4.f1.f0) (x.f4.f1.f1) (x.f4.f1.f2) (x.f5.f0) (x.f5.f1.f0) (x.f5.f1.f1) (x.f5.f1.f2) (x.f6)) else ((antecedentref11_In.f k l b[i]).bind fun t479 => (if t479 = true then (antecedentlaw11_SafeBinds.l0 k l b v (b.length : Int) ((i + 1 : Nat) : Int) (x.f0) (x.f1.f0) (x.f1.f1) (x.f2) (x.f3.f0) (x.f3.f1.f0) (x.f3.f1.f1) (x.f3.f1.f2) (x.f4.f0) (x.f4.f1.f0) (x.f4.f1.f1) (x.f4.f1.f2) (x.f5.f0) (x.f5.f1.f0) (x.f5.f1.f1) (x.f5.f1.f2) (x.f6)) else (none))))) = some true := by
      refine (congrArg (fun t => Option.bind t _) (i1 k (by omega))).trans ?_
      rw [Option.bind_some]
      cases h : inB v b[i] with
      | true => rw [if_pos rfl]; exact h2 k (by omega)
      | false =>
        rw [if_neg (by decide)]
        refine (congrArg (fun t => Option.bind t _) (i2 k (by omega))).trans ?_
        have : inB l b[i] = true := by
          rcases hm _ (List.getElem_mem hlt) with m | m
          · rw [inB_iff.2 m] at h; cases h
          · exact inB_iff.2 m
        rw [Option.bind_some, this, if_pos rfl]
        exact h2 k (by omega)
    simp only [antecedentlaw11_SafeBinds.l0]
    rw [if_pos (lt_cast hlt)]
    rcases Nat.eq_zero_or_pos i with h0 | h0
    · rw [if_neg (by omega), if_pos (nn_cast i), if_pos (lt_cast hlt), rdOf_nat _ _ _ hlt, wrap_succ i (by omega)]
      exact fin
    · rw [if_pos (by omega), if_pos (nn_cast i), if_pos (lt_cast hlt), wrap_pred i h0 (by omega), if_pos (nn_cast (i - 1)), if_pos (lt_cast (by omega)), rdOf_nat _ _ _ hlt, rdOf_nat _ _ _ (show i - 1 < b.length by omega), ord_step ho h0 hlt,
        if_neg (by decide), wrap_succ i (by omega)]
      exact fin
theorem SafeBinds_plain (x : S43) (l : List ByteArray) : ∃ k, antecedentlaw11_SafeBinds.f k (x.f0) (x.f1.f0) (x.f1.f1) (x.f2) (x.f3.f0) (x.f3.f1.f0) (x.f3.f1.f1) (x.f3.f1.f2) (x.f4.f0) (x.f4.f1.f0) (x.f4.f1.f1) (x.f4.f1.f2) (x.f5.f0) (x.f5.f1.f0) (x.f5.f1.f1) (x.f5.f1.f2) (x.f6) l = some true := by
  obtain ⟨t, hb, hP⟩ := few_ev [x] l
  obtain ⟨k1, h1⟩ := awake_ev
  obtain ⟨k2, h2⟩ := hb
  cases t with
  | false =>
    refine ⟨k1 + k2, ?_⟩
    unfold antecedentlaw11_SafeBinds.f
    refine (congrArg (fun t => Option.bind t _) (h1 (k1 + k2) (by omega))).trans ?_
    rw [Option.bind_some, if_pos rfl]
    refine (congrArg (fun t => Option.bind t _) (h2 (k1 + k2) (by omega))).trans ?_
    rw [Option.bind_some, if_neg (by decide)]
    refine (congrArg (fun t => Option.bind t _) (h1 (k1 + k2) (by omega))).trans ?_
    rfl
  | true =>
    obtain ⟨hs, hl⟩ := hP rfl
    have hx : x.f1.f1.length ≤ 10 := hs.2 x (by simp)
    have hv : (names (vars (terms x))).length ≤ (vars (terms x)).length := length_nset slo _
    have hv2 := vars_length (terms x)
    rw [terms_length] at hv2
    have hw : (names (l ++ vars (terms x))).length ≤ (l ++ vars (terms x)).length := length_nset slo _
    rw [List.length_append] at hw
    have ho : Ord (names (l ++ vars (terms x))) := sorted_nset slo _
    have e1 : names (names (l ++ vars (terms x)) ++ vars (terms x)) = names (l ++ vars (terms x)) := by
      refine nset_congr slo fun s => ?_
      simp only [List.mem_append, mem_nset slo]
      constructor
      · rintro (h | h)
        · exact h
        · exact .inr h
      · exact .inl
    obtain ⟨k3, h3⟩ := safe_Binds_ev x l (by omega) (by omega)
    obtain ⟨k4, h4⟩ := safe_Vars_ev x (by omega)
    obtain ⟨k5, h5⟩ := binds_l0 x hx l (names (l ++ vars (terms x))) (names (vars (terms x))) hl (by omega) (by omega) ho
      (fun s hs => by
        rw [mem_nset slo, List.mem_append] at hs
        rcases hs with h | h
        · exact .inr h
        · exact .inl ((mem_nset slo).2 h))
      (fun s hs => by
        rw [inB_iff, mem_nset slo, List.mem_append]
        rw [List.mem_append, mem_nset slo] at hs
        exact hs.symm) e1 rfl (names (l ++ vars (terms x))).length 0 (by omega)
    refine ⟨k1 + k2 + k3 + k4 + k5, ?_⟩
    unfold antecedentlaw11_SafeBinds.f
    refine (congrArg (fun t => Option.bind t _) (h1 _ (by omega))).trans ?_
    rw [Option.bind_some, if_pos rfl]
    refine (congrArg (fun t => Option.bind t _) (h2 _ (by omega))).trans ?_
    rw [Option.bind_some, if_pos rfl]
    refine (congrArg (fun t => Option.bind t _) (h3 _ (by omega))).trans ?_
    refine (congrArg (fun t => Option.bind t _) (h4 _ (by omega))).trans ?_
    exact h5 _ (by omega)
end Go.Proofs.Ytmgbfgloegcloaa.Pu
