/- Fits, Perm, AND THAT THE PROGRAM IS AWAKE. No program's memory in sight. -/
import Derived.Test.YtliocmjeglbpiaaPcover
namespace Go.Proofs.Ytliocmjeglbpiaa.Ps
open Go.RowKit Go.Proofs.YtliocmjeglbpiaaW.PrintWords Go.Proofs.YtliocmjeglbpiaaW.PrintLast Go.Proofs.YtliocmjeglbpiaaW.PrintMore
set_option linter.unusedVariables false
set_option linter.unusedSimpArgs false

theorem ev_same {α : Type} {g : Nat → Option α} {a b : α} (h : Ev g a) (k : Ev g b) : a = b := by
  obtain ⟨K1, h1⟩ := h
  obtain ⟨K2, h2⟩ := k
  have e1 := h1 (max K1 K2) (Nat.le_max_left _ _)
  have e2 := h2 (max K1 K2) (Nat.le_max_right _ _)
  rw [e1] at e2
  exact Option.some.inj e2

/-! ### tuple.Perm -/
theorem tperm_loop (p : List Int) (hp : Prm p.length p) (hl : p.length < 1000000) (d : Nat) : ∀ (i : Nat) (s : List Bool), i + d = p.length → s.length = p.length → (∀ c : Nat, saw s c ↔ (c : Int) ∈ p.take i) → Ev (fun k => tuple_Perm.l0 k p s p (p.length : Int) (i : Int)) true := by
  induction d with
  | zero =>
    intro i s hi hs hsaw
    refine Ev.step (f := fun _ => some true) (fun k => ?_) (Ev.now _)
    simp only [tuple_Perm.l0]
    rw [if_neg (nlt_cast (by omega))]
  | succ d ih =>
    intro i s hi hs hsaw
    have hlt : i < p.length := by omega
    have hr := hp.2.1 p[i] (List.getElem_mem hlt)
    obtain ⟨c, hc⟩ : ∃ c : Nat, p[i] = (c : Int) := ⟨p[i].toNat, by omega⟩
    have hcl : c < s.length := by omega
    have hnot : (c : Int) ∉ p.take i := by
      intro hm
      obtain ⟨j, hj, e⟩ := List.mem_iff_getElem.1 hm
      rw [List.getElem_take] at e
      rw [List.length_take] at hj
      exact List.pairwise_iff_getElem.1 hp.1 j i (by omega) hlt (by omega) (by rw [e, hc])
    have hns : rdOf false s (c : Int) = false := by
      have h1 : ¬ saw s c := fun h => hnot ((hsaw c).1 h)
      unfold saw at h1
      simp only [rdOf, Int.toNat_natCast, List.getD_eq_getElem?_getD]
      cases h2 : s[c]? with
      | none => rfl
      | some b => cases b with
        | true => exact absurd h2 h1
        | false => rfl
    refine Ev.step (fun k => ?_) (ih (i + 1) (s.set c true) (by omega) (by simpa using hs) (fun x => ?_))
    · simp only [tuple_Perm.l0]
      rw [if_pos (lt_cast hlt), if_pos (nn_cast _), if_pos (lt_cast hlt), rd_nat p i hlt, hc, if_neg (by omega), if_neg (by omega), if_pos (nn_cast _), if_pos (by omega), hns, if_neg (by simp), wrap_succ i (by omega), Int.toNat_natCast]
    · rw [saw_set s c x hcl, hsaw x, take_succ_get p i hlt, List.mem_append, List.mem_singleton, hc]
      constructor
      · rintro (h | h)
        · exact .inr (by omega)
        · exact .inl h
      · rintro (h | h)
        · exact .inr h
        · exact .inl (by omega)
theorem tperm_spec (p : List Int) (hp : Prm p.length p) (hl : p.length < 1000000) : Ev (fun k => tuple_Perm.f k p) true := by
  refine Ev.congr (fun k => ?_) (tperm_loop p hp hl p.length 0 (List.replicate p.length false) (by omega) (by simp) (fun c => by simp [none_saw]))
  unfold tuple_Perm.f
  rw [if_pos (nn_cast _), if_pos (by rw [Int.toNat_natCast]; omega), Int.toNat_natCast]
  rfl

theorem prm_ok {p : List Int} {ar : Nat} (hp : Prm ar p) : SetOk (ar : Int) p := ⟨hp.2.1, hp.1⟩

theorem fits_spec (p s : List Int) (hp : Prm p.length p) (hl : p.length ≤ 8) (hs : SetOk (p.length : Int) s) (hsl : s.length ≤ p.length) : Ev (fun k => chain_Fits.f k p s) (((maskN s : Nat) : Int) == ((maskN (p.take s.length) : Nat) : Int)) := by
  have h1 := mask_spec (p.length : Int) (by omega) s (by omega)
  rw [if_pos hs] at h1
  have h2 := mask_spec (p.length : Int) (by omega) (p.take s.length) (by rw [List.length_take]; omega)
  rw [if_pos (setOk_take (prm_ok hp) _)] at h2
  refine Ev.bind (f := fun k bt286 => if bt286.2 = true then ((tuple_Perm.f k p).bind fun t288 => (if t288 = true then (if 0 ≤ (s.length : Int) then (if (s.length : Int) ≤ (p.length : Int) then ((chain_mask.f k (p.length : Int) (p.take ((s.length : Int) : Int).toNat)).bind fun bt290 => (some (bt286.1 == bt290.1))) else (none)) else (none)) else (some false))) else (some false)) h1 ?_
  refine Ev.congr (f := fun k => (tuple_Perm.f k p).bind fun t288 => if t288 = true then ((chain_mask.f k (p.length : Int) (p.take s.length)).bind fun bt290 => (some (((maskN s : Nat) : Int) == bt290.1))) else some false) (fun k => ?_) (Ev.bind (tperm_spec p hp (by omega)) ?_)
  · rw [if_pos rfl, if_pos (nn_cast _), if_pos (by omega), Int.toNat_natCast]
  · refine Ev.congr (f := fun k => (chain_mask.f k (p.length : Int) (p.take s.length)).bind fun bt290 => (some (((maskN s : Nat) : Int) == bt290.1))) (fun k => by rw [if_pos rfl]) (Ev.bind h2 (Ev.now _))

theorem rfits_spec (p s : List Int) (hp : Prm p.length p) (hl : p.length < 1000000) (hs : SetOk (p.length : Int) s) (hsl : s.length ≤ p.length) : Ev (fun k => antecedentref18_Fits.f k p s) (partB (p.take s.length) s) := by
  have h1 := set_spec (p.length : Int) p hl
  rw [decide_eq_true (prm_ok hp)] at h1
  have h2 := set_spec (p.length : Int) s (by omega)
  rw [decide_eq_true hs] at h2
  have h3 := part_spec (p.take s.length) s (by rw [List.length_take]; omega) (by omega)
  refine Ev.bind (f := fun k t354 => if t354 = true then ((antecedentref18_Set.f k (p.length : Int) s).bind fun t355 => (if t355 = true then (if 0 ≤ (s.length : Int) then (if (s.length : Int) ≤ (p.length : Int) then ((antecedentref18_Part.f k (p.take ((s.length : Int) : Int).toNat) s).bind fun t357 => (some t357)) else (none)) else (none)) else (some false))) else (some false)) h1 ?_
  refine Ev.congr (f := fun k => (antecedentref18_Set.f k (p.length : Int) s).bind fun t355 => if t355 = true then ((antecedentref18_Part.f k (p.take s.length) s).bind fun t357 => (some t357)) else some false) (fun k => ?_) (Ev.bind h2 ?_)
  · rw [if_pos rfl, if_pos (nn_cast _), if_pos (by omega), Int.toNat_natCast]
  · exact Ev.congr (f := fun k => (antecedentref18_Part.f k (p.take s.length) s).bind fun t357 => (some t357)) (fun k => by rw [if_pos rfl]) (Ev.bind h3 (Ev.now _))

theorem setOk_length {ar : Nat} {s : List Int} (h : SetOk (ar : Int) s) : s.length ≤ ar := by
  have := nodup_le s ((List.range ar).map Int.ofNat) h.2 (fun x hx => by
    have := h.1 x hx
    exact List.mem_map.2 ⟨x.toNat, List.mem_range.2 (by omega), Int.toNat_of_nonneg this.1⟩)
  simpa using this

/-- A permutation that begins with a set has it as its first columns. -/
theorem fst_take {p s : List Int} (hp : Prm p.length p) (hs : SetOk (p.length : Int) s) (h : Fst (maskN s) p) : (∀ x, x ∈ p.take s.length ↔ x ∈ s) := by
  obtain ⟨q, hq, hm⟩ := h
  have hqp := List.prefix_iff_eq_take.1 hq
  have hqn : q.Nodup := hp.1.sublist hq.sublist
  have hmem : ∀ x, x ∈ q ↔ x ∈ s := fun x => by
    constructor
    · intro hx
      have hr := hp.2.1 x (hq.subset hx)
      obtain ⟨c, rfl⟩ : ∃ c : Nat, x = (c : Int) := ⟨x.toNat, by omega⟩
      exact (maskN_test s (fun c hc => (hs.1 c hc).1) c).1 ((hm c).1 hx)
    · intro hx
      have hr := hs.1 x hx
      obtain ⟨c, rfl⟩ : ∃ c : Nat, x = (c : Int) := ⟨x.toNat, by omega⟩
      exact (hm c).2 ((maskN_test s (fun c hc => (hs.1 c hc).1) c).2 hx)
  have h1 := nodup_le q s hqn (fun x hx => (hmem x).1 hx)
  have h2 := nodup_le s q hs.2 (fun x hx => (hmem x).2 hx)
  have e : q.length = s.length := by omega
  rw [e] at hqp
  rw [← hqp]
  exact hmem
theorem maskN_congr {s t : List Int} (hs : ∀ c ∈ s, 0 ≤ c) (ht : ∀ c ∈ t, 0 ≤ c) (h : ∀ x, x ∈ s ↔ x ∈ t) : maskN s = maskN t := Nat.eq_of_testBit_eq fun i => by
  rw [Bool.eq_iff_iff, maskN_test s hs, maskN_test t ht, h]

/-! ### ref's Perm -/
theorem at_loop (l : List Int) (a : Int) (hl : l.length < 1000000) (d : Nat) : ∀ i : Nat, i + d = l.length → ∃ r : Int, Ev (fun k => antecedentref03_at.l0 k l a (l.length : Int) (i : Int)) r ∧ (r < 0 ↔ a ∉ l.drop i) := by
  induction d with
  | zero =>
    intro i hi
    rw [List.drop_eq_nil_of_le (by omega)]
    refine ⟨-1, Ev.step (f := fun _ => some (-1)) (fun k => ?_) (Ev.now _), by simp⟩
    simp only [antecedentref03_at.l0]
    rw [if_neg (nlt_cast (by omega))]
  | succ d ih =>
    intro i hi
    have hlt : i < l.length := by omega
    rw [List.drop_eq_getElem_cons hlt]
    by_cases e : l[i] = a
    · refine ⟨(i : Int), Ev.step (f := fun _ => some (i : Int)) (fun k => ?_) (Ev.now _), by simp [e]⟩
      simp only [antecedentref03_at.l0]
      rw [if_pos (lt_cast hlt), if_pos (nn_cast _), if_pos (lt_cast hlt), rd_nat l i hlt, if_pos e]
    · obtain ⟨r, h1, h2⟩ := ih (i + 1) (by omega)
      refine ⟨r, Ev.step (fun k => ?_) h1, ?_⟩
      · simp only [antecedentref03_at.l0]
        rw [if_pos (lt_cast hlt), if_pos (nn_cast _), if_pos (lt_cast hlt), rd_nat l i hlt, if_neg e, wrap_succ i (by omega)]
      · rw [h2, List.mem_cons, not_or]
        exact ⟨fun h => ⟨fun e2 => e e2.symm, h⟩, fun h => h.2⟩
/-- Does each number stand somewhere? -/
def permB (l : List Int) : Bool := (List.range l.length).all fun i => l.contains (i : Int)
theorem rperm_loop (l : List Int) (hl : l.length < 1000000) (d : Nat) : ∀ i : Nat, i + d = l.length → Ev (fun k => antecedentref03_Perm.l0 k l (l.length : Int) (i : Int)) (((List.range l.length).drop i).all fun i => l.contains (i : Int)) := by
  induction d with
  | zero =>
    intro i hi
    rw [List.drop_eq_nil_of_le (by simp; omega)]
    refine Ev.step (f := fun _ => some true) (fun k => ?_) (Ev.now _)
    simp only [antecedentref03_Perm.l0]
    rw [if_neg (nlt_cast (by omega))]
  | succ d ih =>
    intro i hi
    have hlt : i < l.length := by omega
    rw [List.drop_eq_getElem_cons (by simpa using hlt), List.all_cons, List.getElem_range]
    obtain ⟨r, h1, h2⟩ := at_loop l (i : Int) hl l.length 0 (by omega)
    rw [List.drop_zero] at h2
    refine Ev.step (f := fun k => (antecedentref03_at.f k l (i : Int)).bind fun t => if t < 0 then some false else antecedentref03_Perm.l0 k l (l.length : Int) ((i + 1 : Nat) : Int)) (fun k => ?_) (Ev.bind (a := r) h1 ?_)
    · simp only [antecedentref03_Perm.l0]
      rw [if_pos (lt_cast hlt), wrap_succ i (by omega)]
    · by_cases h3 : (i : Int) ∈ l
      · have e1 : l.contains (i : Int) = true := by simpa using h3
        rw [e1, Bool.true_and]
        exact Ev.congr (fun k => by rw [if_neg (fun h => h2.1 h h3)]) (ih (i + 1) (by omega))
      · have e1 : l.contains (i : Int) = false := by simpa using h3
        rw [e1, Bool.false_and]
        exact Ev.congr (fun k => by rw [if_pos (h2.2 h3)]) (Ev.now _)
theorem rperm_spec (l : List Int) (hl : l.length < 1000000) : Ev (fun k => antecedentref03_Perm.f k l) (permB l) := rperm_loop l hl l.length 0 (by omega)
theorem permB_prm {l : List Int} (h : permB l = true) : Prm l.length l := by
  have hm : ∀ i, i < l.length → (i : Int) ∈ l := fun i hi => by
    have := List.all_eq_true.1 h i (List.mem_range.2 hi)
    simpa using this
  have hnd : ((List.range l.length).map Int.ofNat).Nodup := nodup_map_on _ _ List.nodup_range (fun x _ y _ e => Int.ofNat.inj e)
  have hsub : ∀ x ∈ (List.range l.length).map Int.ofNat, x ∈ l := fun x hx => by
    obtain ⟨i, hi, rfl⟩ := List.mem_map.1 hx
    exact hm i (List.mem_range.1 hi)
  -- as many, each once: nothing else, and none twice
  have key : ∀ (a b : List Int), a.Nodup → (∀ x ∈ a, x ∈ b) → b.length ≤ a.length → b.Perm a := by
    intro a
    induction a with
    | nil =>
      intro b _ _ h
      have : b = [] := List.eq_nil_of_length_eq_zero (by simpa using h)
      rw [this]
    | cons x a ih =>
      intro b hn hs hlen
      have hx : x ∈ b := hs x (by simp)
      have h1 := ih (b.erase x) (List.nodup_cons.1 hn).2 (fun y hy => (List.mem_erase_of_ne (fun (e : y = x) => (List.nodup_cons.1 hn).1 (by rw [← e]; exact hy))).2 (hs y (by simp [hy]))) (by
        rw [List.length_erase_of_mem hx]; simp only [List.length_cons] at hlen; omega)
      exact (List.perm_cons_erase hx).trans (h1.cons x)
  have hp := key _ l hnd hsub (by simp)
  exact ⟨hp.nodup_iff.2 hnd, fun x hx => by
    obtain ⟨i, hi, e⟩ := List.mem_map.1 (hp.mem_iff.1 hx)
    have := List.mem_range.1 hi
    rw [← e]; exact ⟨Int.natCast_nonneg i, by simpa using this⟩, rfl⟩
theorem prm_permB {l : List Int} (h : Prm l.length l) : permB l = true := by
  refine List.all_eq_true.2 fun i hi => ?_
  have hi := List.mem_range.1 hi
  have h5 := nodup_le l (((List.range l.length).map Int.ofNat).filter fun x => x != (i : Int)) h.1
  rw [List.contains_iff_mem]
  refine Classical.byContradiction fun hno => ?_
  have h6 := h5 (fun x hx => by
    have := h.2.1 x hx
    refine List.mem_filter.2 ⟨List.mem_map.2 ⟨x.toNat, List.mem_range.2 (by omega), Int.toNat_of_nonneg this.1⟩, ?_⟩
    simp only [bne_iff_ne, ne_eq]
    intro e; exact hno (e ▸ hx))
  have h7 : (((List.range l.length).map Int.ofNat).filter fun x => x != (i : Int)).length < ((List.range l.length).map Int.ofNat).length := by
    refine List.length_filter_lt_length_iff_exists.2 ⟨(i : Int), List.mem_map.2 ⟨i, List.mem_range.2 hi, rfl⟩, by simp⟩
  simp only [List.length_map, List.length_range] at h7
  omega

/-! ### awake -/
theorem sub_dec (a b : Nat) (ha : a < 256) (hb : b < 256) (h : less a b = 0) : Sub a b := (less_zero a b (by omega) (by omega)).1 h
theorem nsub_dec (a b : Nat) (ha : a < 256) (hb : b < 256) (h : less a b ≠ 0) : ¬ Sub a b := fun x => h ((less_zero a b (by omega) (by omega)).2 x)

def awSets : List (List Int) := [[0], [1, 0], [1]]
theorem aw_width : Width (fun m => m ≠ 0 ∧ ∃ s ∈ awSets, maskN s = m) 2 := by
  have hD : ∀ m, (m ≠ 0 ∧ ∃ s ∈ awSets, maskN s = m) ↔ m = 1 ∨ m = 3 ∨ m = 2 := fun m => by
    unfold awSets
    simp only [List.mem_cons, List.not_mem_nil, or_false, exists_eq_or_imp, exists_eq_left]
    rw [show maskN [0] = 1 by decide, show maskN [1, 0] = 3 by decide, show maskN [1] = 2 by decide]
    omega
  constructor
  · refine ⟨[1, 2], ⟨by decide, fun b hb => (hD b).2 (by simp at hb; omega), fun a ha b hb hs => ?_⟩, rfl⟩
    simp only [List.mem_cons, List.not_mem_nil, or_false] at ha hb
    rcases ha with rfl | rfl <;> rcases hb with rfl | rfl
    · rfl
    · exact absurd hs (nsub_dec 1 2 (by omega) (by omega) (by decide))
    · exact absurd hs (nsub_dec 2 1 (by omega) (by omega) (by decide))
    · rfl
  · intro B hB
    by_cases h3 : 3 ∈ B
    · have := nodup_le B [3] hB.nodup (fun x hx => by
        rcases (hD x).1 (hB.mem x hx) with rfl | rfl | rfl
        · exact absurd (hB.apart 1 hx 3 h3 (sub_dec 1 3 (by omega) (by omega) (by decide))) (by decide)
        · simp
        · exact absurd (hB.apart 2 hx 3 h3 (sub_dec 2 3 (by omega) (by omega) (by decide))) (by decide))
      simp at this; omega
    · have := nodup_le B [1, 2] hB.nodup (fun x hx => by
        rcases (hD x).1 (hB.mem x hx) with rfl | rfl | rfl
        · simp
        · exact absurd hx h3
        · simp)
      simpa using this
theorem awake_spec : Ev (fun k => antecedentlaw18_awake.f k) true := by
  have hok : (0 : Int) ≤ 2 ∧ (2 : Int) ≤ 8 ∧ ∀ s ∈ awSets, SetOk 2 s := by
    refine ⟨by decide, by decide, fun s hs => ?_⟩
    unfold awSets at hs
    simp only [List.mem_cons, List.not_mem_nil, or_false] at hs
    rcases hs with rfl | rfl | rfl <;> decide
  have hsmall : ∀ s ∈ awSets, s.length < 1000000 := fun s hs => by
    unfold awSets at hs
    simp only [List.mem_cons, List.not_mem_nil, or_false] at hs
    rcases hs with rfl | rfl | rfl <;> decide
  rcases cover_spec 2 awSets (few_of (by decide)) hsmall with ⟨out, _, h2, h3, _⟩ | ⟨h1, _⟩
  · have hlen : out.length = 2 := h3.unique aw_width
    rcases least_spec 2 awSets (few_of (by decide)) hsmall with ⟨w, _, k2, k3⟩ | ⟨k1, _⟩
    · obtain rfl : w = 2 := k3.unique aw_width
      have hp : Prm ([0, 1] : List Int).length [0, 1] := ⟨by decide, by decide, rfl⟩
      have f1 := fits_spec [0, 1] [1, 0] hp (by decide) (by decide) (by decide)
      have f2 := fits_spec [0, 1] [1] hp (by decide) (by decide) (by decide)
      rw [show (((maskN [1, 0] : Nat) : Int) == ((maskN (([0, 1] : List Int).take ([1, 0] : List Int).length) : Nat) : Int)) = true by decide] at f1
      rw [show (((maskN [1] : Nat) : Int) == ((maskN (([0, 1] : List Int).take ([1] : List Int).length) : Nat) : Int)) = false by decide] at f2
      refine Ev.congr (f := fun k => (chain_Cover.f k 2 awSets).bind fun bt304 => (if bt304.2 = 0 then (if (bt304.1.length : Int) = 2 then ((chain_Least.f k 2 awSets).bind fun t308 => (if t308 = 2 then ((chain_Fits.f k [0, 1] [1, 0]).bind fun t313 => (if t313 = true then ((chain_Fits.f k [0, 1] [1]).bind fun t318 => (some (!t318))) else (none))) else (none))) else (none)) else (none))) (fun k => ?_) (Ev.bind h2 ?_)
      · unfold antecedentlaw18_awake.f awSets
        simp [rd_L3, rdOf]
      · refine Ev.congr (f := fun k => (chain_Least.f k 2 awSets).bind fun t308 => (if t308 = 2 then ((chain_Fits.f k [0, 1] [1, 0]).bind fun t313 => (if t313 = true then ((chain_Fits.f k [0, 1] [1]).bind fun t318 => (some (!t318))) else (none))) else (none))) (fun k => by rw [if_pos rfl, if_pos (show (out.length : Int) = 2 by omega)]) (Ev.bind k2 ?_)
        refine Ev.congr (f := fun k => (chain_Fits.f k [0, 1] [1, 0]).bind fun t313 => (if t313 = true then ((chain_Fits.f k [0, 1] [1]).bind fun t318 => (some (!t318))) else (none))) (fun k => by rw [if_pos (by rfl)]) (Ev.bind f1 ?_)
        exact Ev.congr (f := fun k => (chain_Fits.f k [0, 1] [1]).bind fun t318 => (some (!t318))) (fun k => by rw [if_pos rfl]) (Ev.bind f2 (Ev.now _))
    · exact absurd hok k1
  · exact absurd hok h1
end Go.Proofs.Ytliocmjeglbpiaa.Ps
/- ChainCovers' PLAIN LAW: each set fits one of the permutations that are told, and each of these is one. No program's memory in sight. -/
namespace Go.Proofs.Ytliocmjeglbpiaa.Ps
open Go.RowKit Go.Proofs.YtliocmjeglbpiaaW.PrintWords Go.Proofs.YtliocmjeglbpiaaW.PrintLast Go.Proofs.YtliocmjeglbpiaaW.PrintMore
set_option linter.unusedVariables false
set_option linter.unusedSimpArgs false

theorem awake_done : Ev (fun k => (antecedentlaw18_awake.f k).bind fun t => (if t = true then (some t) else (none))) true :=
  Ev.bind (f := fun _ t => if t = true then some t else none) awake_spec (by rw [if_pos rfl]; exact Ev.now _)
theorem few_iff {l : List (List Int)} : (l.all (fun s => decide (s.length ≤ 10)) && decide (l.length ≤ 10)) = true ↔ (∀ s ∈ l, s.length ≤ 10) ∧ l.length ≤ 10 := by simp

theorem covers2 (sets out : List (List Int)) (ar : Nat) (har : ar ≤ 8) (hs : ∀ s ∈ sets, SetOk (ar : Int) s) (hsl : sets.length ≤ 10) (hol : out.length < 1000000) (hp : ∀ p ∈ out, Prm ar p) (i : Nat) (hi : i < sets.length) {q : Bool}
    (hnext : Ev (fun k => antecedentlaw18_ChainCovers.l1 k sets out (sets.length : Int) ((i + 1 : Nat) : Int)) q) (d : Nat) : ∀ (j : Nat) (b : Bool), j + d = out.length → (b = true ∨ ∃ m, ∃ h : m < out.length, j ≤ m ∧ Fst (maskN sets[i]) out[m]) →
    Ev (fun k => antecedentlaw18_ChainCovers.l2 k sets out (i : Int) b (sets.length : Int) (i : Int) (out.length : Int) (j : Int)) q := by
  induction d with
  | zero =>
    intro j b hj hb
    have hb1 : b = true := hb.elim id (fun ⟨m, h, h2, _⟩ => by omega)
    refine Ev.step (fun k => ?_) hnext
    simp only [antecedentlaw18_ChainCovers.l2]
    rw [if_neg (nlt_cast (by omega)), if_pos hb1, wrap_succ i (by omega)]
  | succ d ih =>
    intro j b hj hb
    have hlt : j < out.length := by omega
    cases b with
    | true =>
      refine Ev.step (fun k => ?_) (ih (j + 1) true (by omega) (.inl rfl))
      simp only [antecedentlaw18_ChainCovers.l2, ↓reduceIte]
      rw [if_pos (lt_cast hlt), wrap_succ j (by omega)]
    | false =>
      have hpj := hp _ (List.getElem_mem hlt)
      have hsi := hs _ (List.getElem_mem hi)
      have hpl : out[j].length = ar := hpj.2.2
      have hpj' : Prm out[j].length out[j] := by rw [hpl]; exact hpj
      have hsi' : SetOk (out[j].length : Int) sets[i] := by rw [hpl]; exact hsi
      have hle := setOk_length hsi'
      have h1 := rfits_spec out[j] sets[i] hpj' (by omega) hsi' hle
      have h2 := fits_spec out[j] sets[i] hpj' (by omega) hsi' hle
      have hgo : ∀ k, antecedentlaw18_ChainCovers.l2 (k + 1) sets out (i : Int) false (sets.length : Int) (i : Int) (out.length : Int) (j : Int) = (antecedentref18_Fits.f k out[j] sets[i]).bind fun t371 => if t371 = true then ((chain_Fits.f k out[j] sets[i]).bind fun t374 => antecedentlaw18_ChainCovers.l2 k sets out (i : Int) t374 (sets.length : Int) (i : Int) (out.length : Int) ((j + 1 : Nat) : Int)) else antecedentlaw18_ChainCovers.l2 k sets out (i : Int) false (sets.length : Int) (i : Int) (out.length : Int) ((j + 1 : Nat) : Int) := by
        intro k
        simp only [antecedentlaw18_ChainCovers.l2]
        rw [if_pos (lt_cast hlt), if_neg (by simp), if_pos (nn_cast _), if_pos (lt_cast hlt), if_pos (nn_cast _), if_pos (lt_cast hi), rdL out j hlt, rdL sets i hi, wrap_succ j (by omega)]
      have hrest : ¬ Fst (maskN sets[i]) out[j] → (∃ m, ∃ h : m < out.length, j + 1 ≤ m ∧ Fst (maskN sets[i]) out[m]) := fun hno => by
        obtain ⟨m, h, h3, h4⟩ := hb.resolve_left (by simp)
        refine ⟨m, h, ?_, h4⟩
        by_cases e : m = j
        · subst e; exact absurd h4 hno
        · omega
      refine Ev.step hgo (Ev.bind h1 ?_)
      by_cases hf : Fst (maskN sets[i]) out[j]
      · have hmem := fst_take hpj' hsi' hf
        have e1 : partB (out[j].take sets[i].length) sets[i] = true := (partB_iff _ _).2 (fun x hx => (hmem x).1 hx)
        have e2 : (((maskN sets[i] : Nat) : Int) == ((maskN (out[j].take sets[i].length) : Nat) : Int)) = true := by
          rw [maskN_congr (fun c hc => (hsi.1 c hc).1) (fun c hc => (hpj.2.1 c (List.mem_of_mem_take hc)).1) (fun x => (hmem x).symm)]; simp
        rw [e2] at h2
        rw [e1]
        refine Ev.congr (f := fun k => (chain_Fits.f k out[j] sets[i]).bind fun t374 => antecedentlaw18_ChainCovers.l2 k sets out (i : Int) t374 (sets.length : Int) (i : Int) (out.length : Int) ((j + 1 : Nat) : Int)) (fun k => by rw [if_pos rfl]) (Ev.bind h2 (ih (j + 1) true (by omega) (.inl rfl)))
      · cases hc : partB (out[j].take sets[i].length) sets[i] with
        | false => exact Ev.congr (fun k => by rw [if_neg (by simp)]) (ih (j + 1) false (by omega) (.inr (hrest hf)))
        | true =>
          refine Ev.congr (f := fun k => (chain_Fits.f k out[j] sets[i]).bind fun t374 => antecedentlaw18_ChainCovers.l2 k sets out (i : Int) t374 (sets.length : Int) (i : Int) (out.length : Int) ((j + 1 : Nat) : Int)) (fun k => by rw [if_pos rfl]) (Ev.bind h2 (ih (j + 1) _ (by omega) (.inr (hrest hf))))

theorem covers1 (sets out : List (List Int)) (ar : Nat) (har : ar ≤ 8) (hs : ∀ s ∈ sets, SetOk (ar : Int) s) (hsl : sets.length ≤ 10) (hol : out.length < 1000000) (hp : ∀ p ∈ out, Prm ar p) (hf : ∀ s ∈ sets, maskN s ≠ 0 → ∃ p ∈ out, Fst (maskN s) p) (d : Nat) : ∀ i : Nat, i + d = sets.length →
    Ev (fun k => antecedentlaw18_ChainCovers.l1 k sets out (sets.length : Int) (i : Int)) true := by
  induction d with
  | zero =>
    intro i hi
    refine Ev.step (f := fun _ => some true) (fun k => ?_) (Ev.now _)
    simp only [antecedentlaw18_ChainCovers.l1]
    rw [if_neg (nlt_cast (by omega))]
  | succ d ih =>
    intro i hi
    have hlt : i < sets.length := by omega
    have h := covers2 sets out ar har hs hsl hol hp i hlt (ih (i + 1) (by omega)) out.length 0 ((sets[i].length : Int) == 0) (by omega) (by
      by_cases h0 : sets[i] = []
      · exact .inl (by rw [h0]; rfl)
      · refine .inr ?_
        have hne : maskN sets[i] ≠ 0 := fun e => by
          have hc := List.exists_mem_of_ne_nil _ h0
          obtain ⟨c, hc⟩ := hc
          have hr := (hs _ (List.getElem_mem hlt)).1 c hc
          have := (maskN_test sets[i] (fun c hc => ((hs _ (List.getElem_mem hlt)).1 c hc).1) c.toNat).2 (by rw [Int.toNat_of_nonneg hr.1]; exact hc)
          rw [e] at this
          simp at this
        obtain ⟨p, hp1, hp2⟩ := hf _ (List.getElem_mem hlt) hne
        obtain ⟨m, hm, e⟩ := List.mem_iff_getElem.1 hp1
        exact ⟨m, hm, Nat.zero_le _, by rw [e]; exact hp2⟩)
    refine Ev.step (fun k => ?_) h
    simp only [antecedentlaw18_ChainCovers.l1]
    rw [if_pos (lt_cast hlt), if_pos (nn_cast _), if_pos (lt_cast hlt), rdL sets i hlt]
    rfl

theorem covers0 (ar : Nat) (sets out : List (List Int)) (hol : out.length < 1000000) (har : ar ≤ 8) (hp : ∀ p ∈ out, Prm ar p) {q : Bool} (hnext : Ev (fun k => antecedentlaw18_ChainCovers.l1 k sets out (sets.length : Int) 0) q) (d : Nat) : ∀ i : Nat, i + d = out.length →
    Ev (fun k => antecedentlaw18_ChainCovers.l0 k (ar : Int) sets out (out.length : Int) (i : Int)) q := by
  induction d with
  | zero =>
    intro i hi
    refine Ev.step (fun k => ?_) hnext
    simp only [antecedentlaw18_ChainCovers.l0]
    rw [if_neg (nlt_cast (by omega))]
  | succ d ih =>
    intro i hi
    have hlt : i < out.length := by omega
    have hpi := hp _ (List.getElem_mem hlt)
    have h1 := rperm_spec out[i] (by rw [hpi.2.2]; omega)
    rw [prm_permB (by rw [hpi.2.2]; exact hpi)] at h1
    refine Ev.step (f := fun k => (antecedentref03_Perm.f k out[i]).bind fun t => if t = true then (if (out[i].length : Int) = (ar : Int) then antecedentlaw18_ChainCovers.l0 k (ar : Int) sets out (out.length : Int) ((i + 1 : Nat) : Int) else none) else none) (fun k => ?_) (Ev.bind h1 ?_)
    · simp only [antecedentlaw18_ChainCovers.l0]
      rw [if_pos (lt_cast hlt), if_pos (nn_cast _), if_pos (lt_cast hlt), rdL out i hlt, wrap_succ i (by omega)]
    · exact Ev.congr (fun k => by rw [if_pos rfl, if_pos (by rw [hpi.2.2])]) (ih (i + 1) (by omega))

theorem width_le {D : Nat → Prop} {w : Nat} (h : Width D w) {l : List Nat} (hl : ∀ m, D m → m ∈ l) : w ≤ l.length := by
  obtain ⟨B, hB, rfl⟩ := h.1
  exact nodup_le B l hB.nodup (fun x hx => hl x (hB.mem x hx))
theorem width_sets {sets : List (List Int)} {w : Nat} (h : Width (fun m => m ≠ 0 ∧ ∃ s ∈ sets, maskN s = m) w) : w ≤ sets.length := by
  have := width_le h (l := sets.map maskN) (fun m ⟨_, s, hs, e⟩ => List.mem_map.2 ⟨s, hs, e⟩)
  simpa using this

theorem ChainCovers_plain (ar : Int) (sets : List (List Int)) (hl : sets.length ≤ 9223372036854775807) : ∃ k, antecedentlaw18_ChainCovers.f k ar sets = some true := by
  apply Ev.rounds
  refine Ev.bind (f := fun k t358 => if t358 = true then ((antecedentlaw18_few.f k sets).bind fun t359 => (if t359 = true then ((chain_Cover.f k ar sets).bind fun bt361 => (if bt361.2 = 0 then (antecedentlaw18_ChainCovers.l0 k ar sets bt361.1 (bt361.1.length : Int) 0) else (some true))) else ((antecedentlaw18_awake.f k).bind fun t360 => (if t360 = true then (some t360) else (none))))) else (none)) awake_spec ?_
  refine Ev.congr (f := fun k => (antecedentlaw18_few.f k sets).bind fun t359 => (if t359 = true then ((chain_Cover.f k ar sets).bind fun bt361 => (if bt361.2 = 0 then (antecedentlaw18_ChainCovers.l0 k ar sets bt361.1 (bt361.1.length : Int) 0) else (some true))) else ((antecedentlaw18_awake.f k).bind fun t360 => (if t360 = true then (some t360) else (none))))) (fun k => by rw [if_pos rfl]) (Ev.bind (few_spec sets hl) ?_)
  cases hfew : (sets.all (fun s => decide (s.length ≤ 10)) && decide (sets.length ≤ 10)) with
  | false => exact Ev.congr (fun k => by rw [if_neg (by simp)]) awake_done
  | true =>
    obtain ⟨hf1, hf2⟩ := few_iff.1 hfew
    refine Ev.congr (f := fun k => (chain_Cover.f k ar sets).bind fun bt361 => (if bt361.2 = 0 then (antecedentlaw18_ChainCovers.l0 k ar sets bt361.1 (bt361.1.length : Int) 0) else (some true))) (fun k => by rw [if_pos rfl]) ?_
    rcases cover_spec ar sets (few_of (by omega)) (fun s hs => by have := hf1 s hs; omega) with ⟨out, h1, h2, h3, h4, h5⟩ | ⟨h1, h2⟩
    · obtain ⟨a, rfl⟩ : ∃ a : Nat, ar = (a : Int) := ⟨ar.toNat, by omega⟩
      rw [Int.toNat_natCast] at h4
      have hol := width_sets h3
      refine Ev.bind h2 (Ev.congr (fun k => by rw [if_pos rfl]) ?_)
      exact covers0 a sets out (by omega) (by omega) h4 (covers1 sets out a (by omega) h1.2.2 hf2 (by omega) h4 h5 sets.length 0 (by omega)) out.length 0 (by omega)
    · exact Ev.bind h2 (Ev.congr (fun k => by rw [if_neg (by decide)]) (Ev.now _))
end Go.Proofs.Ytliocmjeglbpiaa.Ps
/- ChainTwice's PLAIN LAW: sets that stand twice, turned about, and an empty one, change nothing of how many permutations there are; one set more asks for no fewer, and one more at most. No program's memory in sight. -/
namespace Go.Proofs.Ytliocmjeglbpiaa.Ps
open Go.RowKit Go.Proofs.YtliocmjeglbpiaaW.PrintWords Go.Proofs.YtliocmjeglbpiaaW.PrintLast Go.Proofs.YtliocmjeglbpiaaW.PrintMore
set_option linter.unusedVariables false
set_option linter.unusedSimpArgs false

/-- An empty set, and each one turned about and as it is. -/
def doubled (sets : List (List Int)) : List (List Int) := sets.foldl (fun a s => a ++ [s.reverse, s]) [[]]
theorem doubled_snoc (sets : List (List Int)) (s : List Int) : doubled (sets ++ [s]) = doubled sets ++ [s.reverse, s] := by unfold doubled; rw [List.foldl_append]; rfl
theorem ind_snoc {α : Type} {p : List α → Prop} (h0 : p []) (h : ∀ l s, p l → p (l ++ [s])) : ∀ l, p l := by
  intro l
  rw [← List.reverse_reverse l]
  induction l.reverse with
  | nil => exact h0
  | cons a t ih => rw [List.reverse_cons]; exact h _ _ ih
theorem doubled_length : ∀ sets : List (List Int), (doubled sets).length = 2 * sets.length + 1 := by
  refine ind_snoc rfl fun l s ih => ?_
  rw [doubled_snoc, List.length_append, ih]
  simp only [List.length_append, List.length_cons, List.length_nil]
  omega
theorem mem_doubled (t : List Int) : ∀ sets : List (List Int), t ∈ doubled sets ↔ t = [] ∨ ∃ s ∈ sets, t = s ∨ t = s.reverse := by
  refine ind_snoc (by simp [doubled]) fun l s ih => ?_
  rw [doubled_snoc, List.mem_append, ih]
  constructor
  · rintro ((h | ⟨u, hu, h⟩) | h)
    · exact .inl h
    · exact .inr ⟨u, List.mem_append_left _ hu, h⟩
    · simp only [List.mem_cons, List.not_mem_nil, or_false] at h
      exact .inr ⟨s, by simp, h.symm⟩
  · rintro (h | ⟨u, hu, h⟩)
    · exact .inl (.inl h)
    · rcases List.mem_append.1 hu with hu | hu
      · exact .inl (.inr ⟨u, hu, h⟩)
      · rw [List.mem_singleton.1 hu] at h
        exact .inr (by simp only [List.mem_cons, List.not_mem_nil, or_false]; exact h.symm)
theorem setOk_rev {ar : Int} {s : List Int} : SetOk ar s.reverse ↔ SetOk ar s := by unfold SetOk; rw [(List.reverse_perm s).nodup_iff]; simp
theorem mask_bit (i : Nat) : ∀ s : List Int, (maskN s).testBit i = true ↔ ∃ c ∈ s, c.toNat = i := by
  refine ind_snoc (by simp [maskN]) fun l c ih => ?_
  rw [maskN_snoc, Nat.testBit_or, Bool.or_eq_true, ih, Nat.testBit_two_pow]
  constructor
  · rintro (⟨d, hd, e⟩ | h)
    · exact ⟨d, List.mem_append_left _ hd, e⟩
    · exact ⟨c, by simp, by simpa using h⟩
  · rintro ⟨d, hd, e⟩
    rcases List.mem_append.1 hd with hd | hd
    · exact .inl ⟨d, hd, e⟩
    · rw [List.mem_singleton.1 hd] at e; exact .inr (by simpa using e)
theorem mask_rev (s : List Int) : maskN s.reverse = maskN s := Nat.eq_of_testBit_eq fun i => by
  rw [Bool.eq_iff_iff, mask_bit, mask_bit]; simp
theorem ok_doubled {ar : Int} {sets : List (List Int)} : (∀ s ∈ doubled sets, SetOk ar s) ↔ ∀ s ∈ sets, SetOk ar s := by
  constructor
  · intro h s hs; exact h s ((mem_doubled s sets).2 (.inr ⟨s, hs, .inl rfl⟩))
  · intro h t ht
    rcases (mem_doubled t sets).1 ht with rfl | ⟨s, hs, rfl | rfl⟩
    · exact ⟨by simp, by simp⟩
    · exact h _ hs
    · exact setOk_rev.2 (h s hs)
theorem masks_doubled {sets : List (List Int)} (m : Nat) : (m ≠ 0 ∧ ∃ s ∈ doubled sets, maskN s = m) ↔ (m ≠ 0 ∧ ∃ s ∈ sets, maskN s = m) := by
  constructor
  · rintro ⟨h0, t, ht, e⟩
    rcases (mem_doubled t sets).1 ht with rfl | ⟨s, hs, rfl | rfl⟩
    · exact absurd e.symm h0
    · exact ⟨h0, t, hs, e⟩
    · exact ⟨h0, s, hs, by rw [← e, mask_rev]⟩
  · rintro ⟨h0, s, hs, e⟩
    exact ⟨h0, s, (mem_doubled s sets).2 (.inr ⟨s, hs, .inl rfl⟩), e⟩

/-- What Least answers. -/
theorem least_any (ar : Int) (sets : List (List Int)) (hlen : sets.length ≤ 12) (hs : ∀ s ∈ sets, s.length < 1000000) : ∃ z : Int, Ev (fun k => chain_Least.f k ar sets) z ∧
    ((∃ w : Nat, z = (w : Int) ∧ (0 ≤ ar ∧ ar ≤ 8 ∧ ∀ s ∈ sets, SetOk ar s) ∧ Width (fun m => m ≠ 0 ∧ ∃ s ∈ sets, maskN s = m) w) ∨ (z = -1 ∧ ¬ (0 ≤ ar ∧ ar ≤ 8 ∧ ∀ s ∈ sets, SetOk ar s))) := by
  rcases least_spec ar sets (few_of hlen) hs with ⟨w, h1, h2, h3⟩ | ⟨h1, h2⟩
  · exact ⟨_, h2, .inl ⟨w, rfl, h1, h3⟩⟩
  · exact ⟨_, h2, .inr ⟨rfl, h1⟩⟩
theorem few_doubled {sets : List (List Int)} (h : sets.length ≤ 10) : Few (doubled sets) := ⟨by rw [doubled_length]; omega, fun L h1 h2 => Nat.le_trans (nodup_le L (sets.map maskN) h1 fun x hx => by
  obtain ⟨_, s, hs, e⟩ := (masks_doubled x).1 (h2 x hx)
  exact List.mem_map.2 ⟨s, hs, e⟩) (by rw [List.length_map]; omega)⟩
theorem least_doubled (ar : Int) (sets : List (List Int)) (hlen : sets.length ≤ 10) (hs : ∀ s ∈ sets, s.length ≤ 10) {z : Int} (h : Ev (fun k => chain_Least.f k ar sets) z) : Ev (fun k => chain_Least.f k ar (doubled sets)) z := by
  have hs2 : ∀ s ∈ doubled sets, s.length < 1000000 := fun t ht => by
    rcases (mem_doubled t sets).1 ht with rfl | ⟨s, hm, rfl | rfl⟩
    · decide
    · have := hs _ hm; omega
    · have := hs _ hm; rw [List.length_reverse]; omega
  have eD : (fun m => m ≠ 0 ∧ ∃ s ∈ doubled sets, maskN s = m) = (fun m => m ≠ 0 ∧ ∃ s ∈ sets, maskN s = m) := funext fun m => propext (masks_doubled m)
  rcases least_spec ar sets (few_of (by omega)) (fun s hm => by have := hs s hm; omega) with ⟨w, h1, h2, h3⟩ | ⟨h1, h2⟩
  · rcases least_spec ar (doubled sets) (few_doubled hlen) hs2 with ⟨v, k1, k2, k3⟩ | ⟨k1, k2⟩
    · rw [eD] at k3
      have e := Width.unique h3 k3
      rw [ev_same h h2, e]; exact k2
    · exact absurd ⟨h1.1, h1.2.1, ok_doubled.2 h1.2.2⟩ k1
  · rcases least_spec ar (doubled sets) (few_doubled hlen) hs2 with ⟨v, k1, k2, k3⟩ | ⟨k1, k2⟩
    · exact absurd ⟨k1.1, k1.2.1, ok_doubled.1 k1.2.2⟩ h1
    · rw [ev_same h h2]; exact k2
/-- One set more. -/
theorem width_more {D E : Nat → Prop} {a v w : Nat} (hE : ∀ m, E m ↔ D m ∨ m = a ∧ a ≠ 0) (h : Width D v) (k : Width E w) : v ≤ w ∧ w ≤ v + 1 := by
  obtain ⟨B, hB, rfl⟩ := h.1
  obtain ⟨C, hC, rfl⟩ := k.1
  refine ⟨k.2 B ⟨hB.nodup, fun b hb => (hE b).2 (.inl (hB.mem b hb)), hB.apart⟩, ?_⟩
  have hC2 : AC D (C.filter fun m => m != a) := by
    refine ⟨hC.nodup.sublist List.filter_sublist, fun b hb => ?_, fun x hx y hy => hC.apart x (List.mem_filter.1 hx).1 y (List.mem_filter.1 hy).1⟩
    obtain ⟨hb1, hb2⟩ := List.mem_filter.1 hb
    rcases (hE b).1 (hC.mem b hb1) with h1 | ⟨h1, _⟩
    · exact h1
    · rw [h1] at hb2; simp at hb2
  have h2 := h.2 _ hC2
  have h3 := nodup_le C (a :: C.filter fun m => m != a) hC.nodup (fun x hx => by
    by_cases e : x = a
    · rw [e]; exact List.mem_cons_self
    · exact List.mem_cons_of_mem _ (List.mem_filter.2 ⟨hx, by simpa using e⟩))
  rw [List.length_cons] at h3
  omega
theorem masks_more {sets : List (List Int)} {more : List Int} (m : Nat) : (m ≠ 0 ∧ ∃ s ∈ sets ++ [more], maskN s = m) ↔ (m ≠ 0 ∧ ∃ s ∈ sets, maskN s = m) ∨ m = maskN more ∧ maskN more ≠ 0 := by
  constructor
  · rintro ⟨h0, s, hs, e⟩
    rcases List.mem_append.1 hs with hs | hs
    · exact .inl ⟨h0, s, hs, e⟩
    · rw [List.mem_singleton.1 hs] at e; exact .inr ⟨e.symm, by rw [e]; exact h0⟩
  · rintro (⟨h0, s, hs, e⟩ | ⟨e, h0⟩)
    · exact ⟨h0, s, List.mem_append_left _ hs, e⟩
    · exact ⟨by rw [e]; exact h0, more, by simp, e.symm⟩
/-- The law's last part. -/
def lastTwice (k : Nat) (ar : Int) (sets : List (List Int)) (more : List Int) (w : Int) : Option Bool := (chain_Least.f k ar (sets ++ [more])).bind fun t => if w < 0 then some true else if t < 0 then some true else if t ≥ w then some (decide (t ≤ wrap64 (w + 1))) else none
theorem last_twice (ar : Int) (sets : List (List Int)) (more : List Int) (hlen : sets.length ≤ 10) (hs : ∀ s ∈ sets, s.length ≤ 10) (hm : more.length ≤ 10) {w : Int} (h : Ev (fun k => chain_Least.f k ar sets) w) : Ev (fun k => lastTwice k ar sets more w) true := by
  unfold lastTwice
  have hs2 : ∀ s ∈ sets ++ [more], s.length < 1000000 := fun t ht => by
    rcases List.mem_append.1 ht with h | h
    · have := hs t h; omega
    · rw [List.mem_singleton.1 h]; omega
  rcases least_spec ar sets (few_of (by omega)) (fun s hm => by have := hs s hm; omega) with ⟨v, h1, h2, h3⟩ | ⟨h1, h2⟩
  · obtain rfl := ev_same h h2
    rcases least_spec ar (sets ++ [more]) (few_of (by simp only [List.length_append, List.length_singleton]; omega)) hs2 with ⟨u, k1, k2, k3⟩ | ⟨k1, k2⟩
    · have hq := width_more (a := maskN more) masks_more h3 k3
      have hv : v ≤ 10 := by
        obtain ⟨B, hB, rfl⟩ := h3.1
        have := nodup_le B (sets.map maskN) hB.nodup (fun x hx => by obtain ⟨_, s, hs, e⟩ := hB.mem x hx; exact List.mem_map.2 ⟨s, hs, e⟩)
        rw [List.length_map] at this
        omega
      refine Ev.bind k2 (Ev.congr (f := fun _ => some true) (fun k => ?_) (Ev.now _))
      rw [if_neg (by omega), if_neg (by omega), if_pos (by omega), decide_eq_true (by unfold wrap64; omega)]
    · refine Ev.bind k2 (Ev.congr (f := fun _ => some true) (fun k => ?_) (Ev.now _))
      rw [if_neg (by omega), if_pos (by omega)]
  · obtain rfl := ev_same h h2
    rcases least_spec ar (sets ++ [more]) (few_of (by simp only [List.length_append, List.length_singleton]; omega)) hs2 with ⟨u, _, k2, _⟩ | ⟨_, k2⟩
    · exact Ev.bind k2 (Ev.congr (f := fun _ => some true) (fun k => by rw [if_pos (by omega)]) (Ev.now _))
    · exact Ev.bind k2 (Ev.congr (f := fun _ => some true) (fun k => by rw [if_pos (by omega)]) (Ev.now _))

theorem twice1 (ar w : Int) (sets acc : List (List Int)) (more : List Int) (i : Nat) (hi : i < sets.length) (hil : sets.length ≤ 10) (hs : sets[i].length ≤ 10) (ha : acc.length ≤ 100) {q : Bool}
    (hnext : Ev (fun k => antecedentlaw18_ChainTwice.l0 k ar sets more w (acc ++ [sets[i].reverse, sets[i]]) (sets.length : Int) ((i + 1 : Nat) : Int)) q) (d : Nat) : ∀ j : Nat, j + d = sets[i].length →
    Ev (fun k => antecedentlaw18_ChainTwice.l1 k ar sets more w acc (i : Int) (sets[i].reverse.take j) (sets.length : Int) (i : Int) (sets[i].length : Int) (j : Int)) q := by
  induction d with
  | zero =>
    intro j hj
    obtain rfl : j = sets[i].length := by omega
    refine Ev.step (fun k => ?_) hnext
    simp only [antecedentlaw18_ChainTwice.l1]
    rw [if_neg (nlt_cast (by omega)), if_pos (nn_cast _), if_pos (lt_cast hi), Option.bind_some, rdL sets i hi, wrap_succ i (by omega), if_pos (by simp only [List.length_cons, List.length_nil]; omega), List.take_of_length_le (by rw [List.length_reverse]; exact Nat.le_refl _)]
  | succ d ih =>
    intro j hj
    have hlt : j < sets[i].length := by omega
    have hw : wrap64 (wrap64 ((sets[i].length : Int) - 1) - (j : Int)) = ((sets[i].length - 1 - j : Nat) : Int) := by unfold wrap64; omega
    have ht : sets[i].reverse.take (j + 1) = sets[i].reverse.take j ++ [sets[i][sets[i].length - 1 - j]'(by omega)] := by
      rw [List.take_succ_eq_append_getElem (by rw [List.length_reverse]; exact hlt), List.getElem_reverse]
    refine Ev.step (fun k => ?_) (ih (j + 1) (by omega))
    simp only [antecedentlaw18_ChainTwice.l1]
    rw [if_pos (lt_cast hlt), if_pos (nn_cast _), if_pos (lt_cast hi), rdL sets i hi, hw, if_pos (nn_cast _), if_pos (lt_cast (by omega)), if_pos (by rw [List.length_take]; omega), rd_nat _ _ (by omega), ← ht, wrap_succ j (by omega)]

theorem twice0 (ar w : Int) (sets : List (List Int)) (more : List Int) (hil : sets.length ≤ 10) (hs : ∀ s ∈ sets, s.length ≤ 10) (hm : more.length ≤ 10) (h : Ev (fun k => chain_Least.f k ar sets) w) (d : Nat) : ∀ i : Nat, i + d = sets.length →
    Ev (fun k => antecedentlaw18_ChainTwice.l0 k ar sets more w (doubled (sets.take i)) (sets.length : Int) (i : Int)) true := by
  induction d with
  | zero =>
    intro i hi
    obtain rfl : i = sets.length := by omega
    rw [List.take_length]
    have hlast := last_twice ar sets more hil hs hm h
    refine Ev.step (f := fun k => (chain_Least.f k ar (doubled sets)).bind fun t => if t = w then lastTwice k ar sets more w else if ar < 0 then lastTwice k ar sets more w else if ar > 8 then lastTwice k ar sets more w else none) (fun k => ?_) (Ev.bind (least_doubled ar sets hil hs h) (Ev.congr (fun k => by rw [if_pos rfl]) hlast))
    simp only [antecedentlaw18_ChainTwice.l0, Option.bind_some, List.nil_append, List.length_nil, Nat.zero_add]
    rw [if_neg (nlt_cast (by omega))]
    simp only [if_pos (show sets.length < 5864062014805 by omega), lastTwice]
  | succ d ih =>
    intro i hi
    have hlt : i < sets.length := by omega
    have hn := ih (i + 1) (by omega)
    rw [List.take_succ_eq_append_getElem hlt, doubled_snoc] at hn
    have h1 := twice1 ar w sets (doubled (sets.take i)) more i hlt hil (hs _ (List.getElem_mem _)) (by rw [doubled_length, List.length_take]; omega) hn sets[i].length 0 (by omega)
    refine Ev.step (fun k => ?_) h1
    simp only [antecedentlaw18_ChainTwice.l0]
    rw [if_pos (lt_cast hlt), if_pos (nn_cast _), if_pos (lt_cast hlt), rdL sets i hlt]
    rfl

theorem ChainTwice_plain (ar : Int) (sets : List (List Int)) (more : List Int) (hl : sets.length ≤ 9223372036854775807) : ∃ k, antecedentlaw18_ChainTwice.f k ar sets more = some true := by
  apply Ev.rounds
  have hbad : Ev (fun k => antecedentlaw18_ChainTwice.j0 k ar sets more true) true := by
    refine Ev.step (fun k => ?_) awake_done
    simp [antecedentlaw18_ChainTwice.j0]
  refine Ev.bind (f := fun k t256 => (if t256 = true then ((antecedentlaw18_few.f k sets).bind fun t257 => (if t257 = true then (antecedentlaw18_ChainTwice.j0 k ar sets more (decide ((more.length : Int) > 10))) else (antecedentlaw18_ChainTwice.j0 k ar sets more true))) else (none))) awake_spec ?_
  refine Ev.congr (f := fun k => (antecedentlaw18_few.f k sets).bind fun t257 => (if t257 = true then (antecedentlaw18_ChainTwice.j0 k ar sets more (decide ((more.length : Int) > 10))) else (antecedentlaw18_ChainTwice.j0 k ar sets more true))) (fun k => by rw [if_pos rfl]) (Ev.bind (few_spec sets hl) ?_)
  cases hfew : (sets.all (fun s => decide (s.length ≤ 10)) && decide (sets.length ≤ 10)) with
  | false => exact Ev.congr (fun k => by rw [if_neg (by simp)]) hbad
  | true =>
    obtain ⟨hf1, hf2⟩ := few_iff.1 hfew
    by_cases hm : more.length ≤ 10
    · obtain ⟨z, hz, _⟩ := least_any ar sets (by omega) (fun s h => by have := hf1 s h; omega)
      have h0 := twice0 ar z sets more hf2 hf1 hm hz sets.length 0 (by omega)
      refine Ev.congr (f := fun k => antecedentlaw18_ChainTwice.j0 k ar sets more false) (fun k => by rw [if_pos rfl, decide_eq_false (by omega)]) ?_
      refine Ev.step (f := fun k => (chain_Least.f k ar sets).bind fun t => antecedentlaw18_ChainTwice.l0 k ar sets more t [[]] (sets.length : Int) 0) (fun k => ?_) (Ev.bind hz h0)
      simp only [antecedentlaw18_ChainTwice.j0]
      rw [if_neg (by simp)]
    · exact Ev.congr (fun k => by rw [if_pos rfl, decide_eq_true (by omega)]) hbad
end Go.Proofs.Ytliocmjeglbpiaa.Ps
