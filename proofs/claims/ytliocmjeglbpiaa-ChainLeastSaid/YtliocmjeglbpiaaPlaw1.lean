/- ChainCovers' PLAIN LAW: each set fits one of the permutations that are told, and each of these is one. No program's memory in sight. -/
import Derived.Test.YtliocmjeglbpiaaPfits
namespace Go.Proofs.Ytliocmjeglbpiaa.Ps
open Go.RowKit Go.Proofs.YtliocmjeglbpiaaW.PrintWords Go.Proofs.YtliocmjeglbpiaaW.PrintLast Go.Proofs.YtliocmjeglbpiaaW.PrintMore
set_option linter.unusedVariables false
set_option linter.unusedSimpArgs false

theorem awake_done : Ev (fun k => (antecedentlaw18_awake.f k).bind fun t => (if t = true then (some t) else (none))) true :=
  Ev.bind (f := fun _ t => if t = true then some t else none) awake_spec (by rw [if_pos rfl]; exact Ev.now _)
theorem few_iff {l : List (List Int)} : (l.all (fun s => decide (s.length ≤ 10)) && decide (l.length ≤ 10)) = true ↔ (∀ s ∈ l, s.length ≤ 10) ∧ l.length ≤ 10 := by simp

theorem covers2 (sets out : List (List Int)) (ar : Nat) (har : ar ≤ 8) (hs : ∀ s ∈ sets, SetOk (ar : Int) s) (hsl : sets.length ≤ 10) (hol : out.length < 1000000) (hp : ∀ p ∈ out, Prm ar p) (i : Nat) (hi : i < sets.length) {q : Bool}
    (hnext : Ev (fun k => antecedentlaw18_ChainCovers.l1 k sets out (sets.length : Int) ((i + 1 : Nat) : Int)) q) (d : Nat) : ∀ (j : Nat) (b : Bool), j + d = out.length → (b = true ∨ ∃ m, ∃ h : m < out.length, j ≤ m ∧ Fst (maskN sets[i]) out[m]) →
    Ev (fun k => antecedentlaw18_ChainCovers.l2 k sets out (i : Int) b (sets.length : Int) (i : Int) (out.length : Int) (j : Int)) q := by
  induction d with
  | zero =>
    intro j b hj hb
    have hb1 : b = true := hb.elim id (fun ⟨m, h, h2, _⟩ => by omega)
    refine Ev.step (fun k => ?_) hnext
    simp only [antecedentlaw18_ChainCovers.l2]
    rw [if_neg (nlt_cast (by omega)), if_pos hb1, wrap_succ i (by omega)]
  | succ d ih =>
    intro j b hj hb
    have hlt : j < out.length := by omega
    cases b with
    | true =>
      refine Ev.step (fun k => ?_) (ih (j + 1) true (by omega) (.inl rfl))
      simp only [antecedentlaw18_ChainCovers.l2, ↓reduceIte]
      rw [if_pos (lt_cast hlt), wrap_succ j (by omega)]
    | false =>
      have hpj := hp _ (List.getElem_mem hlt)
      have hsi := hs _ (List.getElem_mem hi)
      have hpl : out[j].length = ar := hpj.2.2
      have hpj' : Prm out[j].length out[j] := by rw [hpl]; exact hpj
      have hsi' : SetOk (out[j].length : Int) sets[i] := by rw [hpl]; exact hsi
      have hle := setOk_length hsi'
      have h1 := rfits_spec out[j] sets[i] hpj' (by omega) hsi' hle
      have h2 := fits_spec out[j] sets[i] hpj' (by omega) hsi' hle
      have hgo : ∀ k, antecedentlaw18_ChainCovers.l2 (k + 1) sets out (i : Int) false (sets.length : Int) (i : Int) (out.length : Int) (j : Int) = (antecedentref18_Fits.f k out[j] sets[i]).bind fun t371 => if t371 = true then ((chain_Fits.f k out[j] sets[i]).bind fun t374 => antecedentlaw18_ChainCovers.l2 k sets out (i : Int) t374 (sets.length : Int) (i : Int) (out.length : Int) ((j + 1 : Nat) : Int)) else antecedentlaw18_ChainCovers.l2 k sets out (i : Int) false (sets.length : Int) (i : Int) (out.length : Int) ((j + 1 : Nat) : Int) := by
        intro k
        simp only [antecedentlaw18_ChainCovers.l2]
        rw [if_pos (lt_cast hlt), if_neg (by simp), if_pos (nn_cast _), if_pos (lt_cast hlt), if_pos (nn_cast _), if_pos (lt_cast hi), rdL out j hlt, rdL sets i hi, wrap_succ j (by omega)]
      have hrest : ¬ Fst (maskN sets[i]) out[j] → (∃ m, ∃ h : m < out.length, j + 1 ≤ m ∧ Fst (maskN sets[i]) out[m]) := fun hno => by
        obtain ⟨m, h, h3, h4⟩ := hb.resolve_left (by simp)
        refine ⟨m, h, ?_, h4⟩
        by_cases e : m = j
        · subst e; exact absurd h4 hno
        · omega
      refine Ev.step hgo (Ev.bind h1 ?_)
      by_cases hf : Fst (maskN sets[i]) out[j]
      · have hmem := fst_take hpj' hsi' hf
        have e1 : partB (out[j].take sets[i].length) sets[i] = true := (partB_iff _ _).2 (fun x hx => (hmem x).1 hx)
        have e2 : (((maskN sets[i] : Nat) : Int) == ((maskN (out[j].take sets[i].length) : Nat) : Int)) = true := by
          rw [maskN_congr (fun c hc => (hsi.1 c hc).1) (fun c hc => (hpj.2.1 c (List.mem_of_mem_take hc)).1) (fun x => (hmem x).symm)]; simp
        rw [e2] at h2
        rw [e1]
        refine Ev.congr (f := fun k => (chain_Fits.f k out[j] sets[i]).bind fun t374 => antecedentlaw18_ChainCovers.l2 k sets out (i : Int) t374 (sets.length : Int) (i : Int) (out.length : Int) ((j + 1 : Nat) : Int)) (fun k => by rw [if_pos rfl]) (Ev.bind h2 (ih (j + 1) true (by omega) (.inl rfl)))
      · cases hc : partB (out[j].take sets[i].length) sets[i] with
        | false => exact Ev.congr (fun k => by rw [if_neg (by simp)]) (ih (j + 1) false (by omega) (.inr (hrest hf)))
        | true =>
          refine Ev.congr (f := fun k => (chain_Fits.f k out[j] sets[i]).bind fun t374 => antecedentlaw18_ChainCovers.l2 k sets out (i : Int) t374 (sets.length : Int) (i : Int) (out.length : Int) ((j + 1 : Nat) : Int)) (fun k => by rw [if_pos rfl]) (Ev.bind h2 (ih (j + 1) _ (by omega) (.inr (hrest hf))))

theorem covers1 (sets out : List (List Int)) (ar : Nat) (har : ar ≤ 8) (hs : ∀ s ∈ sets, SetOk (ar : Int) s) (hsl : sets.length ≤ 10) (hol : out.length < 1000000) (hp : ∀ p ∈ out, Prm ar p) (hf : ∀ s ∈ sets, maskN s ≠ 0 → ∃ p ∈ out, Fst (maskN s) p) (d : Nat) : ∀ i : Nat, i + d = sets.length →
    Ev (fun k => antecedentlaw18_ChainCovers.l1 k sets out (sets.length : Int) (i : Int)) true := by
  induction d with
  | zero =>
    intro i hi
    refine Ev.step (f := fun _ => some true) (fun k => ?_) (Ev.now _)
    simp only [antecedentlaw18_ChainCovers.l1]
    rw [if_neg (nlt_cast (by omega))]
  | succ d ih =>
    intro i hi
    have hlt : i < sets.length := by omega
    have h := covers2 sets out ar har hs hsl hol hp i hlt (ih (i + 1) (by omega)) out.length 0 ((sets[i].length : Int) == 0) (by omega) (by
      by_cases h0 : sets[i] = []
      · exact .inl (by rw [h0]; rfl)
      · refine .inr ?_
        have hne : maskN sets[i] ≠ 0 := fun e => by
          have hc := List.exists_mem_of_ne_nil _ h0
          obtain ⟨c, hc⟩ := hc
          have hr := (hs _ (List.getElem_mem hlt)).1 c hc
          have := (maskN_test sets[i] (fun c hc => ((hs _ (List.getElem_mem hlt)).1 c hc).1) c.toNat).2 (by rw [Int.toNat_of_nonneg hr.1]; exact hc)
          rw [e] at this
          simp at this
        obtain ⟨p, hp1, hp2⟩ := hf _ (List.getElem_mem hlt) hne
        obtain ⟨m, hm, e⟩ := List.mem_iff_getElem.1 hp1
        exact ⟨m, hm, Nat.zero_le _, by rw [e]; exact hp2⟩)
    refine Ev.step (fun k => ?_) h
    simp only [antecedentlaw18_ChainCovers.l1]
    rw [if_pos (lt_cast hlt), if_pos (nn_cast _), if_pos (lt_cast hlt), rdL sets i hlt]
    rfl

theorem covers0 (ar : Nat) (sets out : List (List Int)) (hol : out.length < 1000000) (har : ar ≤ 8) (hp : ∀ p ∈ out, Prm ar p) {q : Bool} (hnext : Ev (fun k => antecedentlaw18_ChainCovers.l1 k sets out (sets.length : Int) 0) q) (d : Nat) : ∀ i : Nat, i + d = out.length →
    Ev (fun k => antecedentlaw18_ChainCovers.l0 k (ar : Int) sets out (out.length : Int) (i : Int)) q := by
  induction d with
  | zero =>
    intro i hi
    refine Ev.step (fun k => ?_) hnext
    simp only [antecedentlaw18_ChainCovers.l0]
    rw [if_neg (nlt_cast (by omega))]
  | succ d ih =>
    intro i hi
    have hlt : i < out.length := by omega
    have hpi := hp _ (List.getElem_mem hlt)
    have h1 := rperm_spec out[i] (by rw [hpi.2.2]; omega)
    rw [prm_permB (by rw [hpi.2.2]; exact hpi)] at h1
    refine Ev.step (f := fun k => (antecedentref03_Perm.f k out[i]).bind fun t => if t = true then (if (out[i].length : Int) = (ar : Int) then antecedentlaw18_ChainCovers.l0 k (ar : Int) sets out (out.length : Int) ((i + 1 : Nat) : Int) else none) else none) (fun k => ?_) (Ev.bind h1 ?_)
    · simp only [antecedentlaw18_ChainCovers.l0]
      rw [if_pos (lt_cast hlt), if_pos (nn_cast _), if_pos (lt_cast hlt), rdL out i hlt, wrap_succ i (by omega)]
    · exact Ev.congr (fun k => by rw [if_pos rfl, if_pos (by rw [hpi.2.2])]) (ih (i + 1) (by omega))

theorem width_le {D : Nat → Prop} {w : Nat} (h : Width D w) {l : List Nat} (hl : ∀ m, D m → m ∈ l) : w ≤ l.length := by
  obtain ⟨B, hB, rfl⟩ := h.1
  exact nodup_le B l hB.nodup (fun x hx => hl x (hB.mem x hx))
theorem width_sets {sets : List (List Int)} {w : Nat} (h : Width (fun m => m ≠ 0 ∧ ∃ s ∈ sets, maskN s = m) w) : w ≤ sets.length := by
  have := width_le h (l := sets.map maskN) (fun m ⟨_, s, hs, e⟩ => List.mem_map.2 ⟨s, hs, e⟩)
  simpa using this

theorem ChainCovers_plain (ar : Int) (sets : List (List Int)) (hl : sets.length ≤ 9223372036854775807) : ∃ k, antecedentlaw18_ChainCovers.f k ar sets = some true := by
  apply Ev.rounds
  refine Ev.bind (f := fun k t358 => if t358 = true then ((antecedentlaw18_few.f k sets).bind fun t359 => (if t359 = true then ((chain_Cover.f k ar sets).bind fun bt361 => (if bt361.2 = 0 then (antecedentlaw18_ChainCovers.l0 k ar sets bt361.1 (bt361.1.length : Int) 0) else (some true))) else ((antecedentlaw18_awake.f k).bind fun t360 => (if t360 = true then (some t360) else (none))))) else (none)) awake_spec ?_
  refine Ev.congr (f := fun k => (antecedentlaw18_few.f k sets).bind fun t359 => (if t359 = true then ((chain_Cover.f k ar sets).bind fun bt361 => (if bt361.2 = 0 then (antecedentlaw18_ChainCovers.l0 k ar sets bt361.1 (bt361.1.length : Int) 0) else (some true))) else ((antecedentlaw18_awake.f k).bind fun t360 => (if t360 = true then (some t360) else (none))))) (fun k => by rw [if_pos rfl]) (Ev.bind (few_spec sets hl) ?_)
  cases hfew : (sets.all (fun s => decide (s.length ≤ 10)) && decide (sets.length ≤ 10)) with
  | false => exact Ev.congr (fun k => by rw [if_neg (by simp)]) awake_done
  | true =>
    obtain ⟨hf1, hf2⟩ := few_iff.1 hfew
    refine Ev.congr (f := fun k => (chain_Cover.f k ar sets).bind fun bt361 => (if bt361.2 = 0 then (antecedentlaw18_ChainCovers.l0 k ar sets bt361.1 (bt361.1.length : Int) 0) else (some true))) (fun k => by rw [if_pos rfl]) ?_
    rcases cover_spec ar sets (by omega) (fun s hs => by have := hf1 s hs; omega) with ⟨out, h1, h2, h3, h4, h5⟩ | ⟨h1, h2⟩
    · obtain ⟨a, rfl⟩ : ∃ a : Nat, ar = (a : Int) := ⟨ar.toNat, by omega⟩
      rw [Int.toNat_natCast] at h4
      have hol := width_sets h3
      refine Ev.bind h2 (Ev.congr (fun k => by rw [if_pos rfl]) ?_)
      exact covers0 a sets out (by omega) (by omega) h4 (covers1 sets out a (by omega) h1.2.2 hf2 (by omega) h4 h5 sets.length 0 (by omega)) out.length 0 (by omega)
    · exact Ev.bind h2 (Ev.congr (fun k => by rw [if_neg (by decide)]) (Ev.now _))
end Go.Proofs.Ytliocmjeglbpiaa.Ps
