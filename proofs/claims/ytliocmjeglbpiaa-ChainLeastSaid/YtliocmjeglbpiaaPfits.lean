/- Fits, Perm, AND THAT THE PROGRAM IS AWAKE. No program's memory in sight. -/
import Derived.Test.YtliocmjeglbpiaaPcover
namespace Go.Proofs.Ytliocmjeglbpiaa.Ps
open Go.RowKit Go.Proofs.YtliocmjeglbpiaaW.PrintWords Go.Proofs.YtliocmjeglbpiaaW.PrintLast Go.Proofs.YtliocmjeglbpiaaW.PrintMore
set_option linter.unusedVariables false
set_option linter.unusedSimpArgs false

theorem ev_same {α : Type} {g : Nat → Option α} {a b : α} (h : Ev g a) (k : Ev g b) : a = b := by
  obtain ⟨K1, h1⟩ := h
  obtain ⟨K2, h2⟩ := k
  have e1 := h1 (max K1 K2) (Nat.le_max_left _ _)
  have e2 := h2 (max K1 K2) (Nat.le_max_right _ _)
  rw [e1] at e2
  exact Option.some.inj e2

/-! ### tuple.Perm -/
theorem tperm_loop (p : List Int) (hp : Prm p.length p) (hl : p.length < 1000000) (d : Nat) : ∀ (i : Nat) (s : List Bool), i + d = p.length → s.length = p.length → (∀ c : Nat, saw s c ↔ (c : Int) ∈ p.take i) → Ev (fun k => tuple_Perm.l0 k p s p (p.length : Int) (i : Int)) true := by
  induction d with
  | zero =>
    intro i s hi hs hsaw
    refine Ev.step (f := fun _ => some true) (fun k => ?_) (Ev.now _)
    simp only [tuple_Perm.l0]
    rw [if_neg (nlt_cast (by omega))]
  | succ d ih =>
    intro i s hi hs hsaw
    have hlt : i < p.length := by omega
    have hr := hp.2.1 p[i] (List.getElem_mem hlt)
    obtain ⟨c, hc⟩ : ∃ c : Nat, p[i] = (c : Int) := ⟨p[i].toNat, by omega⟩
    have hcl : c < s.length := by omega
    have hnot : (c : Int) ∉ p.take i := by
      intro hm
      obtain ⟨j, hj, e⟩ := List.mem_iff_getElem.1 hm
      rw [List.getElem_take] at e
      rw [List.length_take] at hj
      exact List.pairwise_iff_getElem.1 hp.1 j i (by omega) hlt (by omega) (by rw [e, hc])
    have hns : rdOf false s (c : Int) = false := by
      have h1 : ¬ saw s c := fun h => hnot ((hsaw c).1 h)
      unfold saw at h1
      simp only [rdOf, Int.toNat_natCast, List.getD_eq_getElem?_getD]
      cases h2 : s[c]? with
      | none => rfl
      | some b => cases b with
        | true => exact absurd h2 h1
        | false => rfl
    refine Ev.step (fun k => ?_) (ih (i + 1) (s.set c true) (by omega) (by simpa using hs) (fun x => ?_))
    · simp only [tuple_Perm.l0]
      rw [if_pos (lt_cast hlt), if_pos (nn_cast _), if_pos (lt_cast hlt), rd_nat p i hlt, hc, if_neg (by omega), if_neg (by omega), if_pos (nn_cast _), if_pos (by omega), hns, if_neg (by simp), wrap_succ i (by omega), Int.toNat_natCast]
    · rw [saw_set s c x hcl, hsaw x, take_succ_get p i hlt, List.mem_append, List.mem_singleton, hc]
      constructor
      · rintro (h | h)
        · exact .inr (by omega)
        · exact .inl h
      · rintro (h | h)
        · exact .inr h
        · exact .inl (by omega)
theorem tperm_spec (p : List Int) (hp : Prm p.length p) (hl : p.length < 1000000) : Ev (fun k => tuple_Perm.f k p) true := by
  refine Ev.congr (fun k => ?_) (tperm_loop p hp hl p.length 0 (List.replicate p.length false) (by omega) (by simp) (fun c => by simp [none_saw]))
  unfold tuple_Perm.f
  rw [if_pos (nn_cast _), if_pos (by rw [Int.toNat_natCast]; omega), Int.toNat_natCast]
  rfl

theorem prm_ok {p : List Int} {ar : Nat} (hp : Prm ar p) : SetOk (ar : Int) p := ⟨hp.2.1, hp.1⟩

theorem fits_spec (p s : List Int) (hp : Prm p.length p) (hl : p.length ≤ 8) (hs : SetOk (p.length : Int) s) (hsl : s.length ≤ p.length) : Ev (fun k => chain_Fits.f k p s) (((maskN s : Nat) : Int) == ((maskN (p.take s.length) : Nat) : Int)) := by
  have h1 := mask_spec (p.length : Int) (by omega) s (by omega)
  rw [if_pos hs] at h1
  have h2 := mask_spec (p.length : Int) (by omega) (p.take s.length) (by rw [List.length_take]; omega)
  rw [if_pos (setOk_take (prm_ok hp) _)] at h2
  refine Ev.bind (f := fun k bt286 => if bt286.2 = true then ((tuple_Perm.f k p).bind fun t288 => (if t288 = true then (if 0 ≤ (s.length : Int) then (if (s.length : Int) ≤ (p.length : Int) then ((chain_mask.f k (p.length : Int) (p.take ((s.length : Int) : Int).toNat)).bind fun bt290 => (some (bt286.1 == bt290.1))) else (none)) else (none)) else (some false))) else (some false)) h1 ?_
  refine Ev.congr (f := fun k => (tuple_Perm.f k p).bind fun t288 => if t288 = true then ((chain_mask.f k (p.length : Int) (p.take s.length)).bind fun bt290 => (some (((maskN s : Nat) : Int) == bt290.1))) else some false) (fun k => ?_) (Ev.bind (tperm_spec p hp (by omega)) ?_)
  · rw [if_pos rfl, if_pos (nn_cast _), if_pos (by omega), Int.toNat_natCast]
  · refine Ev.congr (f := fun k => (chain_mask.f k (p.length : Int) (p.take s.length)).bind fun bt290 => (some (((maskN s : Nat) : Int) == bt290.1))) (fun k => by rw [if_pos rfl]) (Ev.bind h2 (Ev.now _))

theorem rfits_spec (p s : List Int) (hp : Prm p.length p) (hl : p.length < 1000000) (hs : SetOk (p.length : Int) s) (hsl : s.length ≤ p.length) : Ev (fun k => antecedentref18_Fits.f k p s) (partB (p.take s.length) s) := by
  have h1 := set_spec (p.length : Int) p hl
  rw [decide_eq_true (prm_ok hp)] at h1
  have h2 := set_spec (p.length : Int) s (by omega)
  rw [decide_eq_true hs] at h2
  have h3 := part_spec (p.take s.length) s (by rw [List.length_take]; omega) (by omega)
  refine Ev.bind (f := fun k t354 => if t354 = true then ((antecedentref18_Set.f k (p.length : Int) s).bind fun t355 => (if t355 = true then (if 0 ≤ (s.length : Int) then (if (s.length : Int) ≤ (p.length : Int) then ((antecedentref18_Part.f k (p.take ((s.length : Int) : Int).toNat) s).bind fun t357 => (some t357)) else (none)) else (none)) else (some false))) else (some false)) h1 ?_
  refine Ev.congr (f := fun k => (antecedentref18_Set.f k (p.length : Int) s).bind fun t355 => if t355 = true then ((antecedentref18_Part.f k (p.take s.length) s).bind fun t357 => (some t357)) else some false) (fun k => ?_) (Ev.bind h2 ?_)
  · rw [if_pos rfl, if_pos (nn_cast _), if_pos (by omega), Int.toNat_natCast]
  · exact Ev.congr (f := fun k => (antecedentref18_Part.f k (p.take s.length) s).bind fun t357 => (some t357)) (fun k => by rw [if_pos rfl]) (Ev.bind h3 (Ev.now _))

theorem setOk_length {ar : Nat} {s : List Int} (h : SetOk (ar : Int) s) : s.length ≤ ar := by
  have := nodup_le s ((List.range ar).map Int.ofNat) h.2 (fun x hx => by
    have := h.1 x hx
    exact List.mem_map.2 ⟨x.toNat, List.mem_range.2 (by omega), Int.toNat_of_nonneg this.1⟩)
  simpa using this

/-- A permutation that begins with a set has it as its first columns. -/
theorem fst_take {p s : List Int} (hp : Prm p.length p) (hs : SetOk (p.length : Int) s) (h : Fst (maskN s) p) : (∀ x, x ∈ p.take s.length ↔ x ∈ s) := by
  obtain ⟨q, hq, hm⟩ := h
  have hqp := List.prefix_iff_eq_take.1 hq
  have hqn : q.Nodup := hp.1.sublist hq.sublist
  have hmem : ∀ x, x ∈ q ↔ x ∈ s := fun x => by
    constructor
    · intro hx
      have hr := hp.2.1 x (hq.subset hx)
      obtain ⟨c, rfl⟩ : ∃ c : Nat, x = (c : Int) := ⟨x.toNat, by omega⟩
      exact (maskN_test s (fun c hc => (hs.1 c hc).1) c).1 ((hm c).1 hx)
    · intro hx
      have hr := hs.1 x hx
      obtain ⟨c, rfl⟩ : ∃ c : Nat, x = (c : Int) := ⟨x.toNat, by omega⟩
      exact (hm c).2 ((maskN_test s (fun c hc => (hs.1 c hc).1) c).2 hx)
  have h1 := nodup_le q s hqn (fun x hx => (hmem x).1 hx)
  have h2 := nodup_le s q hs.2 (fun x hx => (hmem x).2 hx)
  have e : q.length = s.length := by omega
  rw [e] at hqp
  rw [← hqp]
  exact hmem
theorem maskN_congr {s t : List Int} (hs : ∀ c ∈ s, 0 ≤ c) (ht : ∀ c ∈ t, 0 ≤ c) (h : ∀ x, x ∈ s ↔ x ∈ t) : maskN s = maskN t := Nat.eq_of_testBit_eq fun i => by
  rw [Bool.eq_iff_iff, maskN_test s hs, maskN_test t ht, h]

/-! ### ref's Perm -/
theorem at_loop (l : List Int) (a : Int) (hl : l.length < 1000000) (d : Nat) : ∀ i : Nat, i + d = l.length → ∃ r : Int, Ev (fun k => antecedentref03_at.l0 k l a (l.length : Int) (i : Int)) r ∧ (r < 0 ↔ a ∉ l.drop i) := by
  induction d with
  | zero =>
    intro i hi
    rw [List.drop_eq_nil_of_le (by omega)]
    refine ⟨-1, Ev.step (f := fun _ => some (-1)) (fun k => ?_) (Ev.now _), by simp⟩
    simp only [antecedentref03_at.l0]
    rw [if_neg (nlt_cast (by omega))]
  | succ d ih =>
    intro i hi
    have hlt : i < l.length := by omega
    rw [List.drop_eq_getElem_cons hlt]
    by_cases e : l[i] = a
    · refine ⟨(i : Int), Ev.step (f := fun _ => some (i : Int)) (fun k => ?_) (Ev.now _), by simp [e]⟩
      simp only [antecedentref03_at.l0]
      rw [if_pos (lt_cast hlt), if_pos (nn_cast _), if_pos (lt_cast hlt), rd_nat l i hlt, if_pos e]
    · obtain ⟨r, h1, h2⟩ := ih (i + 1) (by omega)
      refine ⟨r, Ev.step (fun k => ?_) h1, ?_⟩
      · simp only [antecedentref03_at.l0]
        rw [if_pos (lt_cast hlt), if_pos (nn_cast _), if_pos (lt_cast hlt), rd_nat l i hlt, if_neg e, wrap_succ i (by omega)]
      · rw [h2, List.mem_cons, not_or]
        exact ⟨fun h => ⟨fun e2 => e e2.symm, h⟩, fun h => h.2⟩
/-- Does each number stand somewhere? -/
def permB (l : List Int) : Bool := (List.range l.length).all fun i => l.contains (i : Int)
theorem rperm_loop (l : List Int) (hl : l.length < 1000000) (d : Nat) : ∀ i : Nat, i + d = l.length → Ev (fun k => antecedentref03_Perm.l0 k l (l.length : Int) (i : Int)) (((List.range l.length).drop i).all fun i => l.contains (i : Int)) := by
  induction d with
  | zero =>
    intro i hi
    rw [List.drop_eq_nil_of_le (by simp; omega)]
    refine Ev.step (f := fun _ => some true) (fun k => ?_) (Ev.now _)
    simp only [antecedentref03_Perm.l0]
    rw [if_neg (nlt_cast (by omega))]
  | succ d ih =>
    intro i hi
    have hlt : i < l.length := by omega
    rw [List.drop_eq_getElem_cons (by simpa using hlt), List.all_cons, List.getElem_range]
    obtain ⟨r, h1, h2⟩ := at_loop l (i : Int) hl l.length 0 (by omega)
    rw [List.drop_zero] at h2
    refine Ev.step (f := fun k => (antecedentref03_at.f k l (i : Int)).bind fun t => if t < 0 then some false else antecedentref03_Perm.l0 k l (l.length : Int) ((i + 1 : Nat) : Int)) (fun k => ?_) (Ev.bind (a := r) h1 ?_)
    · simp only [antecedentref03_Perm.l0]
      rw [if_pos (lt_cast hlt), wrap_succ i (by omega)]
    · by_cases h3 : (i : Int) ∈ l
      · have e1 : l.contains (i : Int) = true := by simpa using h3
        rw [e1, Bool.true_and]
        exact Ev.congr (fun k => by rw [if_neg (fun h => h2.1 h h3)]) (ih (i + 1) (by omega))
      · have e1 : l.contains (i : Int) = false := by simpa using h3
        rw [e1, Bool.false_and]
        exact Ev.congr (fun k => by rw [if_pos (h2.2 h3)]) (Ev.now _)
theorem rperm_spec (l : List Int) (hl : l.length < 1000000) : Ev (fun k => antecedentref03_Perm.f k l) (permB l) := rperm_loop l hl l.length 0 (by omega)
theorem permB_prm {l : List Int} (h : permB l = true) : Prm l.length l := by
  have hm : ∀ i, i < l.length → (i : Int) ∈ l := fun i hi => by
    have := List.all_eq_true.1 h i (List.mem_range.2 hi)
    simpa using this
  have hnd : ((List.range l.length).map Int.ofNat).Nodup := nodup_map_on _ _ List.nodup_range (fun x _ y _ e => Int.ofNat.inj e)
  have hsub : ∀ x ∈ (List.range l.length).map Int.ofNat, x ∈ l := fun x hx => by
    obtain ⟨i, hi, rfl⟩ := List.mem_map.1 hx
    exact hm i (List.mem_range.1 hi)
  -- as many, each once: nothing else, and none twice
  have key : ∀ (a b : List Int), a.Nodup → (∀ x ∈ a, x ∈ b) → b.length ≤ a.length → b.Perm a := by
    intro a
    induction a with
    | nil =>
      intro b _ _ h
      have : b = [] := List.eq_nil_of_length_eq_zero (by simpa using h)
      rw [this]
    | cons x a ih =>
      intro b hn hs hlen
      have hx : x ∈ b := hs x (by simp)
      have h1 := ih (b.erase x) (List.nodup_cons.1 hn).2 (fun y hy => (List.mem_erase_of_ne (fun (e : y = x) => (List.nodup_cons.1 hn).1 (by rw [← e]; exact hy))).2 (hs y (by simp [hy]))) (by
        rw [List.length_erase_of_mem hx]; simp only [List.length_cons] at hlen; omega)
      exact (List.perm_cons_erase hx).trans (h1.cons x)
  have hp := key _ l hnd hsub (by simp)
  exact ⟨hp.nodup_iff.2 hnd, fun x hx => by
    obtain ⟨i, hi, e⟩ := List.mem_map.1 (hp.mem_iff.1 hx)
    have := List.mem_range.1 hi
    rw [← e]; exact ⟨Int.natCast_nonneg i, by simpa using this⟩, rfl⟩
theorem prm_permB {l : List Int} (h : Prm l.length l) : permB l = true := by
  refine List.all_eq_true.2 fun i hi => ?_
  have hi := List.mem_range.1 hi
  have h5 := nodup_le l (((List.range l.length).map Int.ofNat).filter fun x => x != (i : Int)) h.1
  rw [List.contains_iff_mem]
  refine Classical.byContradiction fun hno => ?_
  have h6 := h5 (fun x hx => by
    have := h.2.1 x hx
    refine List.mem_filter.2 ⟨List.mem_map.2 ⟨x.toNat, List.mem_range.2 (by omega), Int.toNat_of_nonneg this.1⟩, ?_⟩
    simp only [bne_iff_ne, ne_eq]
    intro e; exact hno (e ▸ hx))
  have h7 : (((List.range l.length).map Int.ofNat).filter fun x => x != (i : Int)).length < ((List.range l.length).map Int.ofNat).length := by
    refine List.length_filter_lt_length_iff_exists.2 ⟨(i : Int), List.mem_map.2 ⟨i, List.mem_range.2 hi, rfl⟩, by simp⟩
  simp only [List.length_map, List.length_range] at h7
  omega

/-! ### awake -/
theorem sub_dec (a b : Nat) (ha : a < 256) (hb : b < 256) (h : less a b = 0) : Sub a b := (less_zero a b (by omega) (by omega)).1 h
theorem nsub_dec (a b : Nat) (ha : a < 256) (hb : b < 256) (h : less a b ≠ 0) : ¬ Sub a b := fun x => h ((less_zero a b (by omega) (by omega)).2 x)

def awSets : List (List Int) := [[0], [1, 0], [1]]
theorem aw_width : Width (fun m => m ≠ 0 ∧ ∃ s ∈ awSets, maskN s = m) 2 := by
  have hD : ∀ m, (m ≠ 0 ∧ ∃ s ∈ awSets, maskN s = m) ↔ m = 1 ∨ m = 3 ∨ m = 2 := fun m => by
    unfold awSets
    simp only [List.mem_cons, List.not_mem_nil, or_false, exists_eq_or_imp, exists_eq_left]
    rw [show maskN [0] = 1 by decide, show maskN [1, 0] = 3 by decide, show maskN [1] = 2 by decide]
    omega
  constructor
  · refine ⟨[1, 2], ⟨by decide, fun b hb => (hD b).2 (by simp at hb; omega), fun a ha b hb hs => ?_⟩, rfl⟩
    simp only [List.mem_cons, List.not_mem_nil, or_false] at ha hb
    rcases ha with rfl | rfl <;> rcases hb with rfl | rfl
    · rfl
    · exact absurd hs (nsub_dec 1 2 (by omega) (by omega) (by decide))
    · exact absurd hs (nsub_dec 2 1 (by omega) (by omega) (by decide))
    · rfl
  · intro B hB
    by_cases h3 : 3 ∈ B
    · have := nodup_le B [3] hB.nodup (fun x hx => by
        rcases (hD x).1 (hB.mem x hx) with rfl | rfl | rfl
        · exact absurd (hB.apart 1 hx 3 h3 (sub_dec 1 3 (by omega) (by omega) (by decide))) (by decide)
        · simp
        · exact absurd (hB.apart 2 hx 3 h3 (sub_dec 2 3 (by omega) (by omega) (by decide))) (by decide))
      simp at this; omega
    · have := nodup_le B [1, 2] hB.nodup (fun x hx => by
        rcases (hD x).1 (hB.mem x hx) with rfl | rfl | rfl
        · simp
        · exact absurd hx h3
        · simp)
      simpa using this
theorem awake_spec : Ev (fun k => antecedentlaw18_awake.f k) true := by
  have hok : (0 : Int) ≤ 2 ∧ (2 : Int) ≤ 8 ∧ ∀ s ∈ awSets, SetOk 2 s := by
    refine ⟨by decide, by decide, fun s hs => ?_⟩
    unfold awSets at hs
    simp only [List.mem_cons, List.not_mem_nil, or_false] at hs
    rcases hs with rfl | rfl | rfl <;> decide
  have hsmall : ∀ s ∈ awSets, s.length < 1000000 := fun s hs => by
    unfold awSets at hs
    simp only [List.mem_cons, List.not_mem_nil, or_false] at hs
    rcases hs with rfl | rfl | rfl <;> decide
  rcases cover_spec 2 awSets (by decide) hsmall with ⟨out, _, h2, h3, _⟩ | ⟨h1, _⟩
  · have hlen : out.length = 2 := h3.unique aw_width
    rcases least_spec 2 awSets (by decide) hsmall with ⟨w, _, k2, k3⟩ | ⟨k1, _⟩
    · obtain rfl : w = 2 := k3.unique aw_width
      have hp : Prm ([0, 1] : List Int).length [0, 1] := ⟨by decide, by decide, rfl⟩
      have f1 := fits_spec [0, 1] [1, 0] hp (by decide) (by decide) (by decide)
      have f2 := fits_spec [0, 1] [1] hp (by decide) (by decide) (by decide)
      rw [show (((maskN [1, 0] : Nat) : Int) == ((maskN (([0, 1] : List Int).take ([1, 0] : List Int).length) : Nat) : Int)) = true by decide] at f1
      rw [show (((maskN [1] : Nat) : Int) == ((maskN (([0, 1] : List Int).take ([1] : List Int).length) : Nat) : Int)) = false by decide] at f2
      refine Ev.congr (f := fun k => (chain_Cover.f k 2 awSets).bind fun bt304 => (if bt304.2 = 0 then (if (bt304.1.length : Int) = 2 then ((chain_Least.f k 2 awSets).bind fun t308 => (if t308 = 2 then ((chain_Fits.f k [0, 1] [1, 0]).bind fun t313 => (if t313 = true then ((chain_Fits.f k [0, 1] [1]).bind fun t318 => (some (!t318))) else (none))) else (none))) else (none)) else (none))) (fun k => ?_) (Ev.bind h2 ?_)
      · unfold antecedentlaw18_awake.f awSets
        simp [rd_L3, rdOf]
      · refine Ev.congr (f := fun k => (chain_Least.f k 2 awSets).bind fun t308 => (if t308 = 2 then ((chain_Fits.f k [0, 1] [1, 0]).bind fun t313 => (if t313 = true then ((chain_Fits.f k [0, 1] [1]).bind fun t318 => (some (!t318))) else (none))) else (none))) (fun k => by rw [if_pos rfl, if_pos (show (out.length : Int) = 2 by omega)]) (Ev.bind k2 ?_)
        refine Ev.congr (f := fun k => (chain_Fits.f k [0, 1] [1, 0]).bind fun t313 => (if t313 = true then ((chain_Fits.f k [0, 1] [1]).bind fun t318 => (some (!t318))) else (none))) (fun k => by rw [if_pos (by rfl)]) (Ev.bind f1 ?_)
        exact Ev.congr (f := fun k => (chain_Fits.f k [0, 1] [1]).bind fun t318 => (some (!t318))) (fun k => by rw [if_pos rfl]) (Ev.bind f2 (Ev.now _))
    · exact absurd hok k1
  · exact absurd hok h1
end Go.Proofs.Ytliocmjeglbpiaa.Ps
