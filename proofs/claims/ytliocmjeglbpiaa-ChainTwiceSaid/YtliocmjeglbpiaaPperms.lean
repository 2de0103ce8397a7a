/- chain.perm, Cover AND Least: as many permutations as sets have no place, and each set the first columns of one. No program's memory in sight. -/
import Derived.Test.YtliocmjeglbpiaaPcov
namespace Go.Proofs.Ytliocmjeglbpiaa.Ps
open Go.RowKit Go.Proofs.YtliocmjeglbpiaaW.PrintWords Go.Proofs.YtliocmjeglbpiaaW.PrintLast Go.Proofs.YtliocmjeglbpiaaW.PrintMore
set_option linter.unusedVariables false
set_option linter.unusedSimpArgs false

/-! ### perm -/
/-- The columns told so far: each once, those of the number 'have'. -/
structure Out (ar hv : Nat) (out : List Int) : Prop where
  nodup : out.Nodup
  range : ∀ x ∈ out, 0 ≤ x ∧ x < (ar : Int)
  mem : ∀ c : Nat, (c : Int) ∈ out ↔ hv.testBit c = true
theorem Out.length_le {ar hv : Nat} {out : List Int} (h : Out ar hv out) : out.length ≤ ar := by
  have := nodup_le out ((List.range ar).map Int.ofNat) h.nodup (fun x hx => by
    have := h.range x hx
    exact List.mem_map.2 ⟨x.toNat, List.mem_range.2 (by omega), Int.toNat_of_nonneg this.1⟩)
  simpa using this
/-- Columns 0 to c of m have been told, too. -/
structure Mid (ar hv m c : Nat) (out : List Int) : Prop where
  nodup : out.Nodup
  range : ∀ x ∈ out, 0 ≤ x ∧ x < (ar : Int)
  mem : ∀ x : Nat, (x : Int) ∈ out ↔ hv.testBit x = true ∨ (x < c ∧ m.testBit x = true)

/-- A set is the first columns of a permutation. -/
def Fst (m : Nat) (p : List Int) : Prop := ∃ q, q <+: p ∧ ∀ c : Nat, (c : Int) ∈ q ↔ m.testBit c = true
/-- A permutation of so many columns. -/
def Prm (ar : Nat) (p : List Int) : Prop := p.Nodup ∧ (∀ x ∈ p, 0 ≤ x ∧ x < (ar : Int)) ∧ p.length = ar

theorem bit_lt {m ar c : Nat} (hm : m < 2 ^ ar) (h : m.testBit c = true) : c < ar := by
  rcases Nat.lt_or_ge c ar with h1 | h1
  · exact h1
  · have : m < 2 ^ c := Nat.lt_of_lt_of_le hm (Nat.pow_le_pow_right (by decide) h1)
    rw [Nat.testBit_lt_two_pow this] at h; cases h

theorem perm_inner (ar : Nat) (har : ar ≤ 8) (hv m : Nat) (hhv : hv < 256) (hm : m < 2 ^ ar) (y : List Int) (i : Nat) (hy : y.length < 1000000) (hi : i < y.length) {P : List Int → List Int → Prop} (d : Nat) : ∀ (c : Nat) (out : List Int), c + d = ar → Mid ar hv m c out →
    (∀ out', out <+: out' → Mid ar hv m ar out' → ∃ p, P out' p ∧ Ev (fun k => chain_perm.l0 k (ar : Int) out' ((hv ||| m : Nat) : Int) y (y.length : Int) ((i + 1 : Nat) : Int)) p) →
    ∃ out' p, out <+: out' ∧ Mid ar hv m ar out' ∧ P out' p ∧ Ev (fun k => chain_perm.l1 k (ar : Int) out (hv : Int) (m : Int) y (y.length : Int) (i : Int) (ar : Int) (c : Int)) p := by
  have hm256 : m < 256 := Nat.lt_of_lt_of_le hm (Nat.le_trans (Nat.pow_le_pow_right (by decide) har) (by decide))
  induction d with
  | zero =>
    intro c out hc hmid hk
    obtain rfl : c = ar := by omega
    obtain ⟨p, h1, h2⟩ := hk out (List.prefix_refl _) hmid
    refine ⟨out, p, List.prefix_refl _, hmid, h1, Ev.step (fun k => ?_) h2⟩
    simp only [chain_perm.l1]
    rw [if_neg (by omega), u64_or_nat hv m (by omega) (by omega), wrap_succ i (by omega)]
  | succ d ih =>
    intro c out hc hmid hk
    have htest := test_bit (less m hv) c (less_lt m hv (by omega)) (by omega)
    rw [less_test m hv c (by omega) (by omega)] at htest
    have hgo : ∀ k, chain_perm.l1 (k + 1) (ar : Int) out (hv : Int) (m : Int) y (y.length : Int) (i : Int) (ar : Int) (c : Int) = if (m.testBit c && !hv.testBit c) = true then (if out.length + 1 < 17592186044416 then chain_perm.l1 k (ar : Int) (out ++ [(c : Int)]) (hv : Int) (m : Int) y (y.length : Int) (i : Int) (ar : Int) ((c + 1 : Nat) : Int) else none) else chain_perm.l1 k (ar : Int) out (hv : Int) (m : Int) y (y.length : Int) (i : Int) (ar : Int) ((c + 1 : Nat) : Int) := by
      intro k
      simp only [chain_perm.l1]
      rw [if_pos (by omega), if_pos (nn_cast _), andNot_nat m hv (by omega) (by omega), wrap_succ c (by omega)]
      by_cases hb : (m.testBit c && !hv.testBit c) = true
      · rw [if_pos (htest.2 hb), if_pos hb]; rfl
      · rw [if_neg (fun h => hb (htest.1 h)), if_neg hb]
    by_cases hb : (m.testBit c && !hv.testBit c) = true
    · have hb2 : m.testBit c = true ∧ hv.testBit c = false := by simpa using hb
      have hmid' : Mid ar hv m (c + 1) (out ++ [(c : Int)]) := by
        refine ⟨List.nodup_append.2 ⟨hmid.nodup, by simp, fun x hx z hz e => ?_⟩, fun x hx => ?_, fun x => ?_⟩
        · rw [List.mem_singleton.1 hz] at e
          subst e
          rcases (hmid.mem c).1 hx with h | h
          · rw [hb2.2] at h; cases h
          · omega
        · rcases List.mem_append.1 hx with hx | hx
          · exact hmid.range x hx
          · rw [List.mem_singleton.1 hx]; omega
        · rw [List.mem_append, hmid.mem x, List.mem_singleton]
          constructor
          · rintro ((h | h) | h)
            · exact .inl h
            · exact .inr ⟨by omega, h.2⟩
            · obtain rfl : x = c := by omega
              exact .inr ⟨by omega, hb2.1⟩
          · rintro (h | h)
            · exact .inl (.inl h)
            · by_cases e : x = c
              · exact .inr (by omega)
              · exact .inl (.inr ⟨by omega, h.2⟩)
      have hlen : out.length ≤ ar := by
        have := nodup_le out ((List.range ar).map Int.ofNat) hmid.nodup (fun x hx => by
          have := hmid.range x hx
          exact List.mem_map.2 ⟨x.toNat, List.mem_range.2 (by omega), Int.toNat_of_nonneg this.1⟩)
        simpa using this
      obtain ⟨out', p, h1, h2, h3, h4⟩ := ih (c + 1) _ (by omega) hmid' (fun o ho => hk o (List.IsPrefix.trans (List.prefix_append _ _) ho))
      refine ⟨out', p, List.IsPrefix.trans (List.prefix_append _ _) h1, h2, h3, Ev.step (fun k => ?_) h4⟩
      rw [hgo k, if_pos hb, if_pos (by omega)]
    · have hmid' : Mid ar hv m (c + 1) out := by
        refine ⟨hmid.nodup, hmid.range, fun x => ?_⟩
        rw [hmid.mem x]
        constructor
        · rintro (h | h)
          · exact .inl h
          · exact .inr ⟨by omega, h.2⟩
        · rintro (h | h)
          · exact .inl h
          · by_cases e : x = c
            · subst e
              refine .inl ?_
              cases hh : hv.testBit x with
              | true => rfl
              | false => exact absurd (by rw [h.2, hh]; rfl) hb
            · exact .inr ⟨by omega, h.2⟩
      obtain ⟨out', p, h1, h2, h3, h4⟩ := ih (c + 1) _ (by omega) hmid' hk
      refine ⟨out', p, h1, h2, h3, Ev.step (fun k => ?_) h4⟩
      rw [hgo k, if_neg hb]

theorem mid_out {ar hv m : Nat} {out : List Int} (hm : m < 2 ^ ar) (h : Mid ar hv m ar out) : Out ar (hv ||| m) out :=
  ⟨h.nodup, h.range, fun c => by
    rw [h.mem c, Nat.testBit_or, Bool.or_eq_true]
    exact or_congr_right ⟨fun x => x.2, fun x => ⟨bit_lt hm x, x⟩⟩⟩

/-- The loop over sets, each part of the next one; in the end the permutation begins with each. -/
theorem perm_outer (ar : Nat) (har : ar ≤ 8) (y : List Nat) (hy : y.length < 1000000) (hyb : ∀ m ∈ y, m < 2 ^ ar) (hasc : ∀ j k, (h1 : j < y.length) → (h2 : k < y.length) → j < k → Sub y[j] y[k]) (d : Nat) : ∀ (i hv : Nat) (out : List Int), i + d = y.length → Out ar hv out → hv < 256 → (∀ j, (h : j < y.length) → i ≤ j → Sub hv y[j]) →
    ∃ p, (out <+: p ∧ (∀ j, (h : j < y.length) → i ≤ j → Fst y[j] p) ∧ ∃ hv', Out ar hv' p ∧ ∀ j, (h : j < y.length) → i ≤ j → Sub y[j] hv') ∧ Ev (fun k => chain_perm.l0 k (ar : Int) out (hv : Int) (up y) (y.length : Int) (i : Int)) p := by
  induction d with
  | zero =>
    intro i hv out hi hout hhv hsub
    refine ⟨out, ⟨List.prefix_refl _, fun j h hj => by omega, hv, hout, fun j h hj => by omega⟩, Ev.step (f := fun _ => some out) (fun k => ?_) (Ev.now _)⟩
    simp only [chain_perm.l0]
    rw [if_neg (nlt_cast (by omega))]
  | succ d ih =>
    intro i hv out hi hout hhv hsub
    have hlt : i < y.length := by omega
    have hm := hyb _ (List.getElem_mem hlt)
    have hm256 : y[i] < 256 := Nat.lt_of_lt_of_le hm (Nat.le_trans (Nat.pow_le_pow_right (by decide) har) (by decide))
    have hor : hv ||| y[i] = y[i] := Nat.eq_of_testBit_eq fun c => by
      rw [Nat.testBit_or]
      cases h : hv.testBit c with
      | false => simp
      | true => simp [hsub i hlt (Nat.le_refl _) c h]
    have hmid : Mid ar hv y[i] 0 out := ⟨hout.nodup, hout.range, fun x => by rw [hout.mem x]; exact ⟨.inl, fun h => h.elim id (fun h => absurd h.1 (Nat.not_lt_zero _))⟩⟩
    obtain ⟨out', p, h1, h2, ⟨q1, q2, hv', q3, q4⟩, h4⟩ := perm_inner (P := fun o p => o <+: p ∧ (∀ j, (h : j < y.length) → i + 1 ≤ j → Fst y[j] p) ∧ ∃ hv', Out ar hv' p ∧ ∀ j, (h : j < y.length) → i + 1 ≤ j → Sub y[j] hv') ar har hv y[i] hhv hm (up y) i (by rw [up_length]; exact hy) (by rw [up_length]; exact hlt) ar 0 out (by omega) hmid (fun o ho hmid2 => by
      have ho2 := mid_out hm hmid2
      rw [hor] at ho2 ⊢
      rw [up_length]
      exact ih (i + 1) y[i] o (by omega) ho2 hm256 (fun j h hj => hasc i j hlt h (by omega)))
    have ho2 := mid_out hm h2
    rw [hor] at ho2
    refine ⟨p, ⟨List.IsPrefix.trans h1 q1, fun j h hj => ?_, hv', q3, fun j h hj => ?_⟩, Ev.step (fun k => ?_) h4⟩
    · by_cases e : j = i
      · subst e; exact ⟨out', q1, ho2.mem⟩
      · exact q2 j h (by omega)
    · by_cases e : j = i
      · subst e
        intro c hc
        exact (q3.mem c).1 (q1.subset ((ho2.mem c).2 hc))
      · exact q4 j h (by omega)
    · simp only [chain_perm.l0]
      rw [if_pos (lt_cast hlt), if_pos (nn_cast _), if_pos (by rw [up_length]; exact lt_cast hlt), rd_up y i hlt, up_length]
      rfl

theorem full_test (ar c : Nat) : (2 ^ ar - 1).testBit c = true ↔ c < ar := by
  rw [Nat.testBit_two_pow_sub_one]; simp

theorem perm_spec (ar : Nat) (har : ar ≤ 8) (C : List Nat) (hC0 : C ≠ []) (hC : C.length < 1000) (hb : ∀ m ∈ C, m < 2 ^ ar) (hasc : C.Pairwise Sub) :
    ∃ p, Ev (fun k => chain_perm.f k (ar : Int) (up C)) p ∧ Prm ar p ∧ ∀ m ∈ C, Fst m p := by
  have hfull : 2 ^ ar - 1 < 2 ^ ar := by have := Nat.two_pow_pos ar; omega
  have hyb : ∀ m ∈ C ++ [2 ^ ar - 1], m < 2 ^ ar := fun m hm => by
    rcases List.mem_append.1 hm with h | h
    · exact hb m h
    · rw [List.mem_singleton.1 h]; exact hfull
  have hpw : (C ++ [2 ^ ar - 1]).Pairwise Sub := by
    rw [List.pairwise_append]
    refine ⟨hasc, by simp, fun a ha b hb2 c hc => ?_⟩
    rw [List.mem_singleton.1 hb2, full_test]
    exact bit_lt (hb a ha) hc
  obtain ⟨p, ⟨_, h2, hv', h3, h4⟩, h1⟩ := perm_outer ar har (C ++ [2 ^ ar - 1]) (by simp; omega) hyb (fun j k h1 h2 hjk => List.pairwise_iff_getElem.1 hpw j k h1 h2 hjk) (C ++ [2 ^ ar - 1]).length 0 0 [] (by omega) ⟨by simp, by simp, by simp⟩ (by omega) (fun j h _ c hc => by simp at hc)
  have hmem : ∀ m ∈ C ++ [2 ^ ar - 1], Fst m p ∧ Sub m hv' := fun m hm => by
    obtain ⟨j, hj, e⟩ := List.mem_iff_getElem.1 hm
    rw [← e]; exact ⟨h2 j hj (Nat.zero_le _), h4 j hj (Nat.zero_le _)⟩
  refine ⟨p, ?_, ⟨h3.nodup, h3.range, ?_⟩, fun m hm => (hmem m (List.mem_append_left _ hm)).1⟩
  · have hclone : ∀ k : Nat, slices_Clone_uint_uint.f (up C) = some (up C) := fun _ => by
      unfold slices_Clone_uint_uint.f
      rw [up_length, if_pos ⟨List.length_pos_iff.2 hC0, by omega⟩]
    have hw : IntKind.u64.wrap (shl .u64 1 (ar : Int) - 1) = ((2 ^ ar - 1 : Nat) : Int) := by
      rw [shl_one ar (by omega)]
      have h0 := Nat.two_pow_pos ar
      have : ((2 ^ ar : Nat) : Int) - 1 = ((2 ^ ar - 1 : Nat) : Int) := by omega
      rw [this]
      exact wrap_u64_nat _ (Nat.lt_of_lt_of_le hfull (Nat.le_trans (Nat.pow_le_pow_right (by decide) har) (by decide)))
    have hup : up C ++ [((2 ^ ar - 1 : Nat) : Int)] = up (C ++ [2 ^ ar - 1]) := by simp [up]
    refine Ev.congr (fun k => ?_) h1
    unfold chain_perm.f
    rw [hclone k, Option.bind_some, if_pos (nn_cast _), Option.bind_some, hw, if_pos (by simp [up_length]; omega), Option.bind_some, hup, up_length]
    rfl
  · have h5 := nodup_le p ((List.range ar).map Int.ofNat) h3.nodup (fun x hx => by
      have := h3.range x hx
      exact List.mem_map.2 ⟨x.toNat, List.mem_range.2 (by omega), Int.toNat_of_nonneg this.1⟩)
    have h6 := nodup_le ((List.range ar).map Int.ofNat) p (nodup_map_on _ _ List.nodup_range (fun x _ y _ e => Int.ofNat.inj e)) (fun x hx => by
      obtain ⟨c, hc, e⟩ := List.mem_map.1 hx
      rw [← e]
      exact (h3.mem c).2 ((hmem (2 ^ ar - 1) (by simp)).2 c ((full_test ar c).2 (List.mem_range.1 hc))))
    simp only [List.length_map, List.length_range] at h5 h6
    omega
end Go.Proofs.Ytliocmjeglbpiaa.Ps
