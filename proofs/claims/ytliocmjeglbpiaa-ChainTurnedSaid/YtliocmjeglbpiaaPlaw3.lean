/- ChainTurned's PLAIN LAW: with other numbers for the columns as few permutations do; and so they do of the sets of what each lacks. No program's memory in sight. -/
import Derived.Test.YtliocmjeglbpiaaPlaw2
namespace Go.Proofs.Ytliocmjeglbpiaa.Ps
open Go.RowKit Go.Proofs.YtliocmjeglbpiaaW.PrintWords Go.Proofs.YtliocmjeglbpiaaW.PrintLast Go.Proofs.YtliocmjeglbpiaaW.PrintMore
set_option linter.unusedVariables false
set_option linter.unusedSimpArgs false

/-- What lies to each other alike has antichains alike. -/
theorem anti_map {N : Nat} {f g : Nat → Nat} (hS : ∀ i j, i < N → j < N → Sub (g i) (g j) → Sub (f i) (f j) ∨ Sub (f j) (f i)) (h0 : ∀ i, i < N → f i ≠ 0 → g i ≠ 0) {B : List Nat} (hB : AC (fun m => m ≠ 0 ∧ ∃ i, i < N ∧ f i = m) B) :
    ∃ B', AC (fun m => m ≠ 0 ∧ ∃ i, i < N ∧ g i = m) B' ∧ B'.length = B.length := by
  have hidx : ∀ b, ∃ i, b ∈ B → i < N ∧ f i = b := fun b => by
    by_cases hb : b ∈ B
    · obtain ⟨_, i, hi, e⟩ := hB.mem b hb
      exact ⟨i, fun _ => ⟨hi, e⟩⟩
    · exact ⟨0, fun h => absurd h hb⟩
  obtain ⟨c, hc⟩ := Classical.axiomOfChoice hidx
  have key : ∀ a ∈ B, ∀ b ∈ B, Sub (g (c a)) (g (c b)) → a = b := fun a ha b hb hs => by
    obtain ⟨h1, e1⟩ := hc a ha
    obtain ⟨h2, e2⟩ := hc b hb
    rcases hS _ _ h1 h2 hs with h | h
    · rw [e1, e2] at h; exact hB.apart a ha b hb h
    · rw [e1, e2] at h; exact (hB.apart b hb a ha h).symm
  refine ⟨B.map fun b => g (c b), ⟨nodup_map_on _ _ hB.nodup (fun x hx y hy e => key x hx y hy (by rw [e]; exact Sub.refl _)), fun m hm => ?_, fun p hp q hq hs => ?_⟩, by rw [List.length_map]⟩
  · obtain ⟨b, hb, rfl⟩ := List.mem_map.1 hm
    obtain ⟨h1, e1⟩ := hc b hb
    exact ⟨h0 _ h1 (by rw [e1]; exact (hB.mem b hb).1), c b, h1, rfl⟩
  · obtain ⟨a, ha, rfl⟩ := List.mem_map.1 hp
    obtain ⟨b, hb, rfl⟩ := List.mem_map.1 hq
    rw [key a ha b hb hs]
theorem width_map {N : Nat} {f g : Nat → Nat} (hS : ∀ i j, i < N → j < N → Sub (g i) (g j) → Sub (f i) (f j) ∨ Sub (f j) (f i)) (hS' : ∀ i j, i < N → j < N → Sub (f i) (f j) → Sub (g i) (g j) ∨ Sub (g j) (g i)) (h0 : ∀ i, i < N → (f i ≠ 0 ↔ g i ≠ 0)) {w : Nat} (h : Width (fun m => m ≠ 0 ∧ ∃ i, i < N ∧ f i = m) w) : Width (fun m => m ≠ 0 ∧ ∃ i, i < N ∧ g i = m) w := by
  constructor
  · obtain ⟨B, hB, rfl⟩ := h.1
    exact anti_map hS (fun i hi => (h0 i hi).1) hB
  · intro B hB
    obtain ⟨B', hB', e⟩ := anti_map hS' (fun i hi => (h0 i hi).2) hB
    rw [← e]; exact h.2 B' hB'

theorem sets_idx (sets : List (List Int)) : (fun m => m ≠ 0 ∧ ∃ s ∈ sets, maskN s = m) = (fun m => m ≠ 0 ∧ ∃ i, i < sets.length ∧ maskN (sets.getD i []) = m) := funext fun m => propext (and_congr_right fun _ => by
  constructor
  · rintro ⟨s, hs, e⟩
    obtain ⟨i, hi, rfl⟩ := List.mem_iff_getElem.1 hs
    exact ⟨i, hi, by simpa [hi] using e⟩
  · rintro ⟨i, hi, e⟩
    exact ⟨sets[i], List.getElem_mem hi, by simpa [hi] using e⟩)

/-- A set with other numbers; what a set lacks. -/
def turnS (p s : List Int) : List Int := s.map fun c => nth p c.toNat
def lackS (n : Nat) (s : List Int) : List Int := ((List.range n).map Int.ofNat).filter fun c => !partB [c] s
theorem partB_one (c : Int) (s : List Int) : partB [c] s = true ↔ c ∈ s := by rw [partB_iff]; simp
theorem mem_lack {n : Nat} {s : List Int} (x : Int) : x ∈ lackS n s ↔ (0 ≤ x ∧ x < (n : Int)) ∧ x ∉ s := by
  unfold lackS
  rw [List.mem_filter]
  have h1 : x ∈ (List.range n).map Int.ofNat ↔ 0 ≤ x ∧ x < (n : Int) := by
    constructor
    · intro h
      obtain ⟨i, hi, rfl⟩ := List.mem_map.1 h
      have := List.mem_range.1 hi
      exact ⟨Int.natCast_nonneg i, by simpa using this⟩
    · rintro ⟨h1, h2⟩
      exact List.mem_map.2 ⟨x.toNat, List.mem_range.2 (by omega), Int.toNat_of_nonneg h1⟩
  rw [h1]
  refine and_congr_right fun _ => ?_
  rw [Bool.not_eq_true', ← Bool.not_eq_true, partB_one]
theorem nth_mem {p : List Int} {c : Nat} (h : c < p.length) : nth p c ∈ p := by simp [nth, h]
theorem nth_inj {p : List Int} (hp : p.Nodup) {a b : Nat} (ha : a < p.length) (hb : b < p.length) (h : nth p a = nth p b) : a = b := by
  have e1 : nth p a = p[a] := by simp [nth, ha]
  have e2 : nth p b = p[b] := by simp [nth, hb]
  rw [e1, e2] at h
  rcases Nat.lt_trichotomy a b with h1 | h1 | h1
  · exact absurd h (List.pairwise_iff_getElem.1 hp a b ha hb h1)
  · exact h1
  · exact absurd h.symm (List.pairwise_iff_getElem.1 hp b a hb ha h1)

section
variable {p : List Int}
theorem turn_mem (hp : Prm p.length p) {s : List Int} (hs : SetOk (p.length : Int) s) {c : Int} (hc : 0 ≤ c ∧ c < (p.length : Int)) : nth p c.toNat ∈ turnS p s ↔ c ∈ s := by
  unfold turnS
  rw [List.mem_map]
  constructor
  · rintro ⟨d, hd, e⟩
    have hr := hs.1 d hd
    have := nth_inj hp.1 (by omega) (by omega) e
    have : d = c := by omega
    rw [← this]; exact hd
  · intro h; exact ⟨c, h, rfl⟩
theorem turn_ok (hp : Prm p.length p) {s : List Int} (hs : SetOk (p.length : Int) s) : SetOk (p.length : Int) (turnS p s) := by
  refine ⟨fun x hx => ?_, nodup_map_on _ _ hs.2 (fun a ha b hb e => ?_)⟩
  · obtain ⟨c, hc, rfl⟩ := List.mem_map.1 hx
    have hr := hs.1 c hc
    exact hp.2.1 _ (nth_mem (by omega))
  · have h1 := hs.1 a ha
    have h2 := hs.1 b hb
    have := nth_inj hp.1 (by omega) (by omega) e
    omega
theorem turn_sub (hp : Prm p.length p) {s t : List Int} (hs : SetOk (p.length : Int) s) (ht : SetOk (p.length : Int) t) : Sub (maskN (turnS p s)) (maskN (turnS p t)) ↔ Sub (maskN s) (maskN t) := by
  have h1 := turn_ok hp hs
  have h2 := turn_ok hp ht
  rw [maskN_sub (fun c hc => (h1.1 c hc).1) (fun c hc => (h2.1 c hc).1), maskN_sub (fun c hc => (hs.1 c hc).1) (fun c hc => (ht.1 c hc).1)]
  constructor
  · intro h c hc
    exact (turn_mem hp ht (hs.1 c hc)).1 (h _ ((turn_mem hp hs (hs.1 c hc)).2 hc))
  · intro h x hx
    obtain ⟨c, hc, rfl⟩ := List.mem_map.1 hx
    exact (turn_mem hp ht (hs.1 c hc)).2 (h c hc)
end
theorem lack_ok (n : Nat) (s : List Int) : SetOk (n : Int) (lackS n s) := ⟨fun x hx => ((mem_lack x).1 hx).1, List.Pairwise.filter _ (nodup_map_on _ _ List.nodup_range (fun x _ y _ e => Int.ofNat.inj e))⟩
theorem lack_sub {n : Nat} {s t : List Int} (hs : SetOk (n : Int) s) (ht : SetOk (n : Int) t) : Sub (maskN (lackS n s)) (maskN (lackS n t)) ↔ Sub (maskN t) (maskN s) := by
  rw [maskN_sub (fun c hc => ((lack_ok n s).1 c hc).1) (fun c hc => ((lack_ok n t).1 c hc).1), maskN_sub (fun c hc => (ht.1 c hc).1) (fun c hc => (hs.1 c hc).1)]
  constructor
  · intro h c hc
    refine Classical.byContradiction fun hn => ?_
    exact ((mem_lack c).1 (h c ((mem_lack c).2 ⟨ht.1 c hc, hn⟩))).2 hc
  · intro h x hx
    have := (mem_lack x).1 hx
    exact (mem_lack x).2 ⟨this.1, fun hm => this.2 (h x hm)⟩

/-! ### the loops -/
theorem turned2 (p : List Int) (hpl : p.length ≤ 8) (sets : List (List Int)) (hsl : sets.length ≤ 10) (i : Nat) (hi : i < sets.length) (hil : sets[i].length ≤ 10) (x5 : Int) (x6 x7 : List (List Int)) (h6 : x6.length ≤ 10) (h7 : x7.length ≤ 10) (x8 : Bool) (t : List Int) {q : Bool}
    (hnext : Ev (fun k => antecedentlaw18_ChainTurned.l0 k p sets x5 (x6 ++ [t]) (x7 ++ [lackS p.length sets[i]]) (x8 || (decide (sets[i].length = 0) || decide (sets[i].length = p.length))) (sets.length : Int) ((i + 1 : Nat) : Int)) q) (d : Nat) : ∀ c : Nat, c + d = p.length →
    Ev (fun k => antecedentlaw18_ChainTurned.l2 k p sets x5 x6 x7 x8 (i : Int) t (((List.range c).map Int.ofNat).filter fun c => !partB [c] sets[i]) (sets.length : Int) (i : Int) (p.length : Int) (c : Int)) q := by
  induction d with
  | zero =>
    intro c hc
    obtain rfl : c = p.length := by omega
    refine Ev.step (fun k => ?_) hnext
    simp only [antecedentlaw18_ChainTurned.l2]
    rw [if_neg (nlt_cast (by omega))]
    cases x8 with
    | true =>
      simp only [↓reduceIte, Bool.true_or]
      rw [if_pos (by omega), if_pos (by omega), wrap_succ i (by omega)]
      rfl
    | false =>
      rw [if_neg (by simp), if_pos (nn_cast _), if_pos (lt_cast hi), rdL sets i hi, Bool.false_or]
      by_cases h0 : sets[i].length = 0
      · rw [if_pos (show (sets[i].length : Int) = 0 by omega), if_pos (by omega), if_pos (by omega), wrap_succ i (by omega), decide_eq_true h0, Bool.true_or]
        rfl
      · rw [if_neg (show ¬ (sets[i].length : Int) = 0 by omega), if_pos (by omega), if_pos (by omega), wrap_succ i (by omega), decide_eq_false h0, Bool.false_or]
        have : ((sets[i].length : Int) == (p.length : Int)) = decide (sets[i].length = p.length) := by
          rw [Bool.eq_iff_iff, beq_iff_eq, decide_eq_true_eq]; omega
        rw [this]
        rfl
  | succ d ih =>
    intro c hc
    have hlt : c < p.length := by omega
    have hpt := part_spec [(c : Int)] sets[i] (by simp) (by omega)
    have hf : ((List.range (c + 1)).map Int.ofNat).filter (fun c => !partB [c] sets[i]) = ((List.range c).map Int.ofNat).filter (fun c => !partB [c] sets[i]) ++ if partB [(c : Int)] sets[i] = true then [] else [(c : Int)] := by
      rw [List.range_succ, List.map_append, List.filter_append]
      congr 1
      rw [List.map_cons, List.map_nil, List.filter_cons, List.filter_nil, show Int.ofNat c = (c : Int) from rfl]
      cases partB [(c : Int)] sets[i] <;> rfl
    have hlen : (((List.range c).map Int.ofNat).filter fun c => !partB [c] sets[i]).length ≤ c := by
      have := List.length_filter_le (fun c => !partB [c] sets[i]) ((List.range c).map Int.ofNat)
      simpa using this
    have h := ih (c + 1) (by omega)
    rw [hf] at h
    generalize hacc : ((List.range c).map Int.ofNat).filter (fun c => !partB [c] sets[i]) = acc at h hlen ⊢
    refine Ev.step (f := fun k => (antecedentref18_Part.f k [(c : Int)] sets[i]).bind fun t466 => if t466 = true then antecedentlaw18_ChainTurned.l2 k p sets x5 x6 x7 x8 (i : Int) t acc (sets.length : Int) (i : Int) (p.length : Int) ((c + 1 : Nat) : Int) else antecedentlaw18_ChainTurned.l2 k p sets x5 x6 x7 x8 (i : Int) t (acc ++ [(c : Int)]) (sets.length : Int) (i : Int) (p.length : Int) ((c + 1 : Nat) : Int)) (fun k => ?_) (Ev.bind hpt ?_)
    · simp only [antecedentlaw18_ChainTurned.l2]
      rw [if_pos (lt_cast hlt), if_pos (nn_cast _), if_pos (lt_cast hi), rdL sets i hi, wrap_succ c (by omega)]
      simp only [if_pos (show acc.length < 17592186044416 by omega)]
    · cases hb : partB [(c : Int)] sets[i] with
      | true => rw [hb] at h; simpa using h
      | false => rw [hb] at h; simpa using h

theorem turned1 (p : List Int) (hpl : p.length ≤ 8) (sets : List (List Int)) (hsl : sets.length ≤ 10) (hsi : ∀ s ∈ sets, SetOk (p.length : Int) s) (i : Nat) (hi : i < sets.length) (hil : sets[i].length ≤ 10) (x5 : Int) (x6 x7 : List (List Int)) (h6 : x6.length ≤ 10) (h7 : x7.length ≤ 10) (x8 : Bool) {q : Bool}
    (hnext : Ev (fun k => antecedentlaw18_ChainTurned.l0 k p sets x5 (x6 ++ [turnS p sets[i]]) (x7 ++ [lackS p.length sets[i]]) (x8 || (decide (sets[i].length = 0) || decide (sets[i].length = p.length))) (sets.length : Int) ((i + 1 : Nat) : Int)) q) (d : Nat) : ∀ c : Nat, c + d = sets[i].length →
    Ev (fun k => antecedentlaw18_ChainTurned.l1 k p sets x5 x6 x7 x8 (i : Int) (turnS p (sets[i].take c)) (sets.length : Int) (i : Int) sets[i] (sets[i].length : Int) (c : Int)) q := by
  induction d with
  | zero =>
    intro c hc
    have h := turned2 p hpl sets hsl i hi hil x5 x6 x7 h6 h7 x8 (turnS p sets[i]) hnext p.length 0 (by omega)
    refine Ev.step (fun k => ?_) h
    simp only [antecedentlaw18_ChainTurned.l1]
    rw [if_neg (nlt_cast (by omega)), List.take_of_length_le (by omega)]
    rfl
  | succ d ih =>
    intro c hc
    have hlt : c < sets[i].length := by omega
    have hr := (hsi _ (List.getElem_mem hi)).1 _ (List.getElem_mem hlt)
    refine Ev.step (fun k => ?_) (ih (c + 1) (by omega))
    simp only [antecedentlaw18_ChainTurned.l1]
    have hrd : rd sets[i] (c : Int) = sets[i][c] := rd_nat _ c hlt
    have hrp : rd p sets[i][c] = nth p (sets[i][c]).toNat := by
      rw [← rd_nth, Int.toNat_of_nonneg hr.1]
    rw [if_pos (lt_cast hlt), if_pos (nn_cast _), if_pos (lt_cast hlt), hrd, if_pos hr.1, if_pos hr.2, if_pos (by unfold turnS; rw [List.length_map, List.length_take]; omega), wrap_succ c (by omega), hrp, take_succ_get _ c hlt]
    unfold turnS
    rw [List.map_append]
    rfl

def wholeB (n : Nat) (l : List (List Int)) : Bool := l.any fun s => decide (s.length = 0) || decide (s.length = n)
def turnedEnd (k : Nat) (p : List Int) (x5 : Int) (x6 x7 : List (List Int)) (x8 : Bool) : Option Bool :=
  (chain_Least.f k (p.length : Int) x6).bind fun t454 => (if t454 = x5 then (if x8 = true then (some true) else ((chain_Least.f k (p.length : Int) x7).bind fun t455 => (some (t455 == x5)))) else (none))

theorem turned0 (p : List Int) (hpl : p.length ≤ 8) (sets : List (List Int)) (hsl : sets.length ≤ 10) (hsi : ∀ s ∈ sets, SetOk (p.length : Int) s) (x5 : Int) {q : Bool} (hend : Ev (fun k => turnedEnd k p x5 (sets.map (turnS p)) (sets.map (lackS p.length)) (wholeB p.length sets)) q) (d : Nat) : ∀ i : Nat, i + d = sets.length →
    Ev (fun k => antecedentlaw18_ChainTurned.l0 k p sets x5 ((sets.take i).map (turnS p)) ((sets.take i).map (lackS p.length)) (wholeB p.length (sets.take i)) (sets.length : Int) (i : Int)) q := by
  induction d with
  | zero =>
    intro i hi
    refine Ev.step (fun k => ?_) hend
    simp only [antecedentlaw18_ChainTurned.l0]
    rw [if_neg (nlt_cast (by omega)), List.take_of_length_le (by omega)]
    rfl
  | succ d ih =>
    intro i hi
    have hlt : i < sets.length := by omega
    have ht : sets.take (i + 1) = sets.take i ++ [sets[i]] := by rw [List.take_succ_eq_append_getElem hlt]
    have hle := setOk_length (hsi _ (List.getElem_mem hlt))
    have h := ih (i + 1) (by omega)
    rw [ht, List.map_append, List.map_append] at h
    have hw : wholeB p.length (sets.take i ++ [sets[i]]) = (wholeB p.length (sets.take i) || (decide (sets[i].length = 0) || decide (sets[i].length = p.length))) := by
      unfold wholeB
      rw [List.any_append, List.any_cons, List.any_nil, Bool.or_false]
    rw [hw] at h
    have h1 := turned1 p hpl sets hsl hsi i hlt (by omega) x5 _ _ (by simp; omega) (by simp; omega) _ h sets[i].length 0 (by omega)
    refine Ev.step (fun k => ?_) h1
    simp only [antecedentlaw18_ChainTurned.l0]
    rw [if_pos (lt_cast hlt), if_pos (nn_cast _), if_pos (lt_cast hlt), rdL sets i hlt]
    rfl

theorem turned_end (p : List Int) (hpl : p.length ≤ 8) (hp : Prm p.length p) (sets : List (List Int)) (hsl : sets.length ≤ 10) (hsi : ∀ s ∈ sets, SetOk (p.length : Int) s) (w : Nat) (hw : Width (fun m => m ≠ 0 ∧ ∃ s ∈ sets, maskN s = m) w) :
    Ev (fun k => turnedEnd k p (w : Int) (sets.map (turnS p)) (sets.map (lackS p.length)) (wholeB p.length sets)) true := by
  have hget : ∀ i, i < sets.length → SetOk (p.length : Int) (sets.getD i []) := fun i hi => by
    have : sets.getD i [] = sets[i] := by simp [hi]
    rw [this]; exact hsi _ (List.getElem_mem hi)
  have hmap : ∀ (g : List Int → List Int), (fun m => m ≠ 0 ∧ ∃ s ∈ sets.map g, maskN s = m) = (fun m => m ≠ 0 ∧ ∃ i, i < sets.length ∧ maskN (g (sets.getD i [])) = m) := fun g => funext fun m => propext (and_congr_right fun _ => by
    constructor
    · rintro ⟨s, hs, e⟩
      obtain ⟨t, ht, rfl⟩ := List.mem_map.1 hs
      obtain ⟨i, hi, rfl⟩ := List.mem_iff_getElem.1 ht
      exact ⟨i, hi, by simpa [hi] using e⟩
    · rintro ⟨i, hi, e⟩
      exact ⟨g sets[i], List.mem_map.2 ⟨sets[i], List.getElem_mem hi, rfl⟩, by simpa [hi] using e⟩)
  rw [sets_idx] at hw
  have h1 : Ev (fun k => chain_Least.f k (p.length : Int) (sets.map (turnS p))) (w : Int) := by
    refine least_of (by rw [List.length_map]; omega) (fun s hs => ?_) ⟨by omega, by omega, fun s hs => ?_⟩ ?_
    · obtain ⟨t, ht, rfl⟩ := List.mem_map.1 hs
      have := setOk_length (turn_ok hp (hsi t ht)); omega
    · obtain ⟨t, ht, rfl⟩ := List.mem_map.1 hs
      exact turn_ok hp (hsi t ht)
    · rw [hmap]
      refine width_map (fun i j hi hj h => .inl ((turn_sub hp (hget i hi) (hget j hj)).1 h)) (fun i j hi hj h => .inl ((turn_sub hp (hget i hi) (hget j hj)).2 h)) (fun i hi => ?_) hw
      have h2 := turn_ok hp (hget i hi)
      rw [ne_eq, ne_eq, maskN_zero (fun c hc => ((hget i hi).1 c hc).1), maskN_zero (fun c hc => (h2.1 c hc).1)]
      unfold turnS
      rw [List.map_eq_nil_iff]
  unfold turnedEnd
  refine Ev.bind h1 ?_
  cases hwb : wholeB p.length sets with
  | true => exact Ev.congr (fun k => by rw [if_pos rfl, if_pos rfl]) (Ev.now _)
  | false =>
    have hne : ∀ s ∈ sets, s.length ≠ 0 ∧ s.length ≠ p.length := fun s hs => by
      have := List.any_eq_false.1 hwb s hs
      simpa using this
    have h2 : Ev (fun k => chain_Least.f k (p.length : Int) (sets.map (lackS p.length))) (w : Int) := by
      refine least_of (by rw [List.length_map]; omega) (fun s hs => ?_) ⟨by omega, by omega, fun s hs => ?_⟩ ?_
      · obtain ⟨t, ht, rfl⟩ := List.mem_map.1 hs
        have := setOk_length (lack_ok p.length t); omega
      · obtain ⟨t, ht, rfl⟩ := List.mem_map.1 hs
        exact lack_ok p.length t
      · rw [hmap]
        refine width_map (fun i j hi hj h => .inr ((lack_sub (hget i hi) (hget j hj)).1 h)) (fun i j hi hj h => .inr ((lack_sub (hget j hj) (hget i hi)).2 h)) (fun i hi => ?_) hw
        have he : sets.getD i [] = sets[i] := by simp [hi]
        have hn := hne _ (List.getElem_mem hi)
        have ho := hsi _ (List.getElem_mem hi)
        rw [he, ne_eq, ne_eq, maskN_zero (fun c hc => (ho.1 c hc).1), maskN_zero (fun c hc => ((lack_ok p.length sets[i]).1 c hc).1)]
        refine iff_of_true (fun e => hn.1 (by rw [e]; rfl)) (fun e => ?_)
        -- it lacks none: it is whole
        have h5 := nodup_le ((List.range p.length).map Int.ofNat) sets[i] (nodup_map_on _ _ List.nodup_range (fun x _ y _ e => Int.ofNat.inj e)) (fun x hx => by
          refine Classical.byContradiction fun hno => ?_
          obtain ⟨c, hc, rfl⟩ := List.mem_map.1 hx
          have hcl := List.mem_range.1 hc
          have : Int.ofNat c ∈ lackS p.length sets[i] := (mem_lack _).2 ⟨⟨Int.natCast_nonneg c, by simpa using hcl⟩, hno⟩
          rw [e] at this; cases this)
        have h6 := setOk_length ho
        simp only [List.length_map, List.length_range] at h5
        exact hn.2 (by omega)
    refine Ev.congr (f := fun k => (chain_Least.f k (p.length : Int) (sets.map (lackS p.length))).bind fun t455 => (some (t455 == (w : Int)))) (fun k => by rw [if_pos rfl, if_neg (by simp)]) (Ev.bind h2 ?_)
    rw [beq_self_eq_true]
    exact Ev.now _

theorem ChainTurned_plain (p : List Int) (sets : List (List Int)) (hl : sets.length ≤ 9223372036854775807) : ∃ k, antecedentlaw18_ChainTurned.f k p sets = some true := by
  apply Ev.rounds
  have hbad : Ev (fun k => antecedentlaw18_ChainTurned.j0 k p sets true) true := by
    refine Ev.step (fun k => ?_) awake_done
    simp [antecedentlaw18_ChainTurned.j0]
  refine Ev.bind (f := fun k t449 => (if t449 = true then ((antecedentlaw18_few.f k sets).bind fun t450 => (if t450 = true then (if (p.length : Int) > 8 then (antecedentlaw18_ChainTurned.j0 k p sets true) else ((antecedentref03_Perm.f k p).bind fun t451 => (antecedentlaw18_ChainTurned.j0 k p sets (!t451)))) else (antecedentlaw18_ChainTurned.j0 k p sets true))) else (none))) awake_spec ?_
  refine Ev.congr (f := fun k => (antecedentlaw18_few.f k sets).bind fun t450 => (if t450 = true then (if (p.length : Int) > 8 then (antecedentlaw18_ChainTurned.j0 k p sets true) else ((antecedentref03_Perm.f k p).bind fun t451 => (antecedentlaw18_ChainTurned.j0 k p sets (!t451)))) else (antecedentlaw18_ChainTurned.j0 k p sets true))) (fun k => by rw [if_pos rfl]) (Ev.bind (few_spec sets hl) ?_)
  cases hfew : (sets.all (fun s => decide (s.length ≤ 10)) && decide (sets.length ≤ 10)) with
  | false => exact Ev.congr (fun k => by rw [if_neg (by simp)]) hbad
  | true =>
    obtain ⟨hf1, hf2⟩ := few_iff.1 hfew
    by_cases h1 : (p.length : Int) > 8
    · exact Ev.congr (fun k => by rw [if_pos rfl, if_pos h1]) hbad
    · refine Ev.congr (f := fun k => (antecedentref03_Perm.f k p).bind fun t451 => (antecedentlaw18_ChainTurned.j0 k p sets (!t451))) (fun k => by rw [if_pos rfl, if_neg h1]) (Ev.bind (rperm_spec p (by omega)) ?_)
      cases hpb : permB p with
      | false => exact hbad
      | true =>
        have hp := permB_prm hpb
        refine Ev.step (f := fun k => (chain_Least.f k (p.length : Int) sets).bind fun t453 => (if t453 < 0 then (some true) else (antecedentlaw18_ChainTurned.l0 k p sets t453 ([] : List (List Int)) ([] : List (List Int)) false (sets.length : Int) 0))) (fun k => by simp [antecedentlaw18_ChainTurned.j0]) ?_
        rcases least_spec (p.length : Int) sets (by omega) (fun s hs => by have := hf1 s hs; omega) with ⟨w, hok, hw1, hw2⟩ | ⟨_, hw1⟩
        · refine Ev.bind hw1 (Ev.congr (fun k => by rw [if_neg (by omega)]) ?_)
          exact turned0 p (by omega) sets hf2 hok.2.2 (w : Int) (turned_end p (by omega) hp sets hf2 hok.2.2 w hw2) sets.length 0 (by omega)
        · exact Ev.bind hw1 (Ev.congr (fun k => by rw [if_pos (by decide)]) (Ev.now _))
end Go.Proofs.Ytliocmjeglbpiaa.Ps
