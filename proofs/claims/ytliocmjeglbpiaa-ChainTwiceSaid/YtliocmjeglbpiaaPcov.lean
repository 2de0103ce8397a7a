/- masks, Contains, Reverse, perm. No program's memory in sight. -/
import Derived.Test.YtliocmjeglbpiaaPfun
import Derived.Lib.RowBridge
namespace Go.Proofs.Ytliocmjeglbpiaa.Ps
open Go.RowKit Go.Proofs.YtliocmjeglbpiaaW.PrintWords Go.Proofs.YtliocmjeglbpiaaW.PrintLast Go.Proofs.YtliocmjeglbpiaaW.PrintMore
set_option linter.unusedVariables false
set_option linter.unusedSimpArgs false

/-! ### masks -/
def ms (sets : List (List Int)) : List Nat := (sets.map maskN).filter fun m => m != 0
theorem ms_snoc (sets : List (List Int)) (s : List Int) : ms (sets ++ [s]) = ms sets ++ if maskN s = 0 then [] else [maskN s] := by
  unfold ms
  rw [List.map_append, List.filter_append]
  congr 1
  by_cases h : maskN s = 0 <;> simp [h]
theorem ms_length (sets : List (List Int)) : (ms sets).length ≤ sets.length := by
  unfold ms
  have := List.length_filter_le (fun m => m != 0) (sets.map maskN)
  simpa using this
/-- The masks that are told. -/
structure Masks (sets : List (List Int)) (L : List Nat) : Prop where
  nodup : L.Nodup
  mem : ∀ m, m ∈ L ↔ m ≠ 0 ∧ ∃ s ∈ sets, maskN s = m
  lt : ∀ m ∈ L, m < 256

/-- Few enough: 100 at most, and no more than 12 masks. -/
def Few (sets : List (List Int)) : Prop := sets.length ≤ 100 ∧ ∀ L : List Nat, L.Nodup → (∀ m ∈ L, m ≠ 0 ∧ ∃ s ∈ sets, maskN s = m) → L.length ≤ 12
theorem few_of {sets : List (List Int)} (h : sets.length ≤ 12) : Few sets := ⟨by omega, fun L h1 h2 => Nat.le_trans (nodup_le L (sets.map maskN) h1 fun x hx => by
  obtain ⟨_, s, hs, e⟩ := h2 x hx
  exact List.mem_map.2 ⟨s, hs, e⟩) (by rw [List.length_map]; exact h)⟩

theorem masks_end (sets : List (List Int)) (hlen : Few sets) (hlt : ∀ s ∈ sets, maskN s < 256) : ∃ L, Masks sets L ∧ L.length ≤ 12 ∧
    Ev (fun k => ((slices_Sort_uint_uint.f (up (ms sets))).bind fun t223 => ((slices_Compact_uint_uint.f t223).bind fun t224 => ((slices_SortStableFunc_uint_uint.f t224).bind fun t227 => (some (t227, true)))))) (up L, true) := by
  have h12 : (up (ms sets)).length ≤ 100 := by rw [up_length]; exact Nat.le_trans (ms_length sets) hlen.1
  obtain ⟨r, h1, h2, h3⟩ := sort_spec (up (ms sets)) (by omega)
  rw [← h2.length_eq] at h3
  have hp := insertionSort_perm onesLt (Lib.compact r)
  have hmem : ∀ v, v ∈ (Sort.insertionSort onesLt (Lib.compact r).toArray 0 (Lib.compact r).length).toList ↔ v ∈ up (ms sets) := fun v => by
    rw [hp.mem_iff, compact_mem h3, h2.mem_iff]
  have hnd : (Sort.insertionSort onesLt (Lib.compact r).toArray 0 (Lib.compact r).length).toList.Nodup := hp.nodup_iff.2 (compact_nodup h3)
  generalize hT : (Sort.insertionSort onesLt (Lib.compact r).toArray 0 (Lib.compact r).length).toList = T at hmem hnd hp
  have hnn : ∀ v ∈ T, 0 ≤ v := fun v hv => by
    obtain ⟨m, _, e⟩ := List.mem_map.1 ((hmem v).1 hv)
    rw [← e]; exact Int.natCast_nonneg m
  have hup : up (T.map Int.toNat) = T := by
    unfold up
    rw [List.map_map]
    conv => rhs; rw [← List.map_id T]
    exact List.map_congr_left fun v hv => Int.toNat_of_nonneg (hnn v hv)
  have hmem2 : ∀ m : Nat, m ∈ T.map Int.toNat ↔ m ∈ ms sets := fun m => by
    constructor
    · intro h
      obtain ⟨v, hv, e⟩ := List.mem_map.1 h
      obtain ⟨m', hm', e2⟩ := List.mem_map.1 ((hmem v).1 hv)
      have : m' = m := by rw [← e, ← e2]; rfl
      rw [← this]; exact hm'
    · intro h
      exact List.mem_map.2 ⟨(m : Int), (hmem _).2 (List.mem_map.2 ⟨m, h, rfl⟩), rfl⟩
  have hms : ∀ m, m ∈ ms sets ↔ m ≠ 0 ∧ ∃ s ∈ sets, maskN s = m := fun m => by
    unfold ms
    rw [List.mem_filter, List.mem_map]
    simp only [bne_iff_ne, ne_eq]
    exact and_comm
  have hTn : (T.map Int.toNat).Nodup := nodup_map_on _ _ hnd (fun x hx y hy e => by have := hnn x hx; have := hnn y hy; omega)
  have hTl : (T.map Int.toNat).length ≤ 12 := hlen.2 _ hTn (fun m hm => (hms m).1 ((hmem2 m).1 hm))
  have hc12 : (Lib.compact r).length ≤ 12 := by rw [← hp.length_eq]; rw [List.length_map] at hTl; exact hTl
  have hr : r.length ≤ 100 := by rw [h2.length_eq]; exact h12
  refine ⟨T.map Int.toNat, ⟨hTn, fun m => (hmem2 m).trans (hms m), fun m hm => ?_⟩, hTl, ?_⟩
  · obtain ⟨_, s, hs, e⟩ := (hms m).1 ((hmem2 m).1 hm)
    rw [← e]; exact hlt s hs
  · rw [hup]
    refine ⟨0, fun _ _ => ?_⟩
    rw [h1, Option.bind_some]
    unfold slices_Compact_uint_uint.f
    rw [if_pos (by omega), Option.bind_some]
    unfold slices_SortStableFunc_uint_uint.f
    rw [if_pos (by omega), Option.bind_some, hT]

theorem masks_loop (ar : Int) (har : ar ≤ 8) (sets : List (List Int)) (hlen : Few sets) (hs : ∀ s ∈ sets, s.length < 1000000) (d : Nat) : ∀ i : Nat, i + d = sets.length → (∀ s ∈ sets.take i, SetOk ar s) →
    (∃ L, (∀ s ∈ sets, SetOk ar s) ∧ Masks sets L ∧ L.length ≤ 12 ∧ Ev (fun k => chain_masks.l0 k ar (up (ms (sets.take i))) sets (sets.length : Int) (i : Int)) (up L, true)) ∨
    ((¬ ∀ s ∈ sets, SetOk ar s) ∧ Ev (fun k => chain_masks.l0 k ar (up (ms (sets.take i))) sets (sets.length : Int) (i : Int)) ([], false)) := by
  induction d with
  | zero =>
    intro i hi hok
    rw [List.take_of_length_le (by omega)] at hok ⊢
    obtain ⟨L, h1, h2, h3⟩ := masks_end sets hlen (fun s hs => maskN_lt har (hok s hs).1)
    refine .inl ⟨L, hok, h1, h2, Ev.step (fun k => ?_) h3⟩
    simp only [chain_masks.l0]
    rw [if_neg (nlt_cast (by omega))]
  | succ d ih =>
    intro i hi hok
    have hlt : i < sets.length := by omega
    have hl100 := hlen.1
    have ht : sets.take (i + 1) = sets.take i ++ [sets[i]] := by rw [List.take_succ_eq_append_getElem hlt]
    have hm := mask_spec ar har sets[i] (hs _ (List.getElem_mem hlt))
    have hgo : ∀ k, chain_masks.l0 (k + 1) ar (up (ms (sets.take i))) sets (sets.length : Int) (i : Int) = (chain_mask.f k ar sets[i]).bind fun bt => if bt.2 = true then (if bt.1 = 0 then chain_masks.l0 k ar (up (ms (sets.take i))) sets (sets.length : Int) ((i + 1 : Nat) : Int) else if (up (ms (sets.take i))).length < 17592186044416 then chain_masks.l0 k ar (up (ms (sets.take i)) ++ [bt.1]) sets (sets.length : Int) ((i + 1 : Nat) : Int) else none) else some ([], false) := by
      intro k
      simp only [chain_masks.l0]
      rw [if_pos (lt_cast hlt), if_pos (nn_cast _), if_pos (lt_cast hlt), rdL sets i hlt, wrap_succ i (by omega)]
    by_cases h1 : SetOk ar sets[i]
    · rw [if_pos h1] at hm
      have hok' : ∀ s ∈ sets.take (i + 1), SetOk ar s := fun s hs => by
        rw [ht] at hs
        rcases List.mem_append.1 hs with hs | hs
        · exact hok s hs
        · rw [List.mem_singleton.1 hs]; exact h1
      have hnext : ∀ {q : List Int × Bool}, Ev (fun k => chain_masks.l0 k ar (up (ms (sets.take (i + 1)))) sets (sets.length : Int) ((i + 1 : Nat) : Int)) q → Ev (fun k => chain_masks.l0 k ar (up (ms (sets.take i))) sets (sets.length : Int) (i : Int)) q := fun {q} hq => by
        refine Ev.step hgo (Ev.bind hm ?_)
        rw [ht, ms_snoc] at hq
        refine Ev.congr (fun k => ?_) hq
        rw [if_pos rfl]
        by_cases h0 : maskN sets[i] = 0
        · rw [if_pos h0, List.append_nil, if_pos (show ((maskN sets[i] : Nat) : Int) = 0 by omega)]
        · have hl := ms_length (sets.take i)
          rw [List.length_take] at hl
          have hl1 := hlen.1
          have : up (ms (sets.take i) ++ [maskN sets[i]]) = up (ms (sets.take i)) ++ [((maskN sets[i] : Nat) : Int)] := by simp [up]
          rw [if_neg h0, this, if_neg (show ¬ ((maskN sets[i] : Nat) : Int) = 0 by omega), if_pos (by rw [up_length]; omega)]
      rcases ih (i + 1) (by omega) hok' with ⟨L, a, b, c, e⟩ | ⟨a, e⟩
      · exact .inl ⟨L, a, b, c, hnext e⟩
      · exact .inr ⟨a, hnext e⟩
    · rw [if_neg h1] at hm
      refine .inr ⟨fun h => h1 (h _ (List.getElem_mem hlt)), Ev.step hgo (Ev.bind hm ?_)⟩
      exact Ev.now _
theorem masks_spec (ar : Int) (har : ar ≤ 8) (sets : List (List Int)) (hlen : Few sets) (hs : ∀ s ∈ sets, s.length < 1000000) :
    (∃ L, (∀ s ∈ sets, SetOk ar s) ∧ Masks sets L ∧ L.length ≤ 12 ∧ Ev (fun k => chain_masks.f k ar sets) (up L, true)) ∨ ((¬ ∀ s ∈ sets, SetOk ar s) ∧ Ev (fun k => chain_masks.f k ar sets) ([], false)) :=
  masks_loop ar har sets hlen hs sets.length 0 (by omega) (by simp)

/-! ### Contains, Reverse -/
theorem index_loop (l : List Int) (a : Int) (hl : l.length < 1000000) (d : Nat) : ∀ i : Nat, i + d = l.length → ∃ r : Int, Ev (fun k => slices_Index_int_int.l0 k l a (l.length : Int) (i : Int)) r ∧ decide (r ≥ 0) = (l.drop i).contains a := by
  induction d with
  | zero =>
    intro i hi
    rw [List.drop_eq_nil_of_le (by omega)]
    refine ⟨-1, Ev.step (f := fun _ => some (-1)) (fun k => ?_) (Ev.now _), by simp⟩
    simp only [slices_Index_int_int.l0]
    rw [if_neg (nlt_cast (by omega))]
  | succ d ih =>
    intro i hi
    have hlt : i < l.length := by omega
    rw [List.drop_eq_getElem_cons hlt, List.contains_cons]
    by_cases e : a = l[i]
    · refine ⟨(i : Int), Ev.step (f := fun _ => some (i : Int)) (fun k => ?_) (Ev.now _), by simp [e]⟩
      simp only [slices_Index_int_int.l0]
      rw [if_pos (lt_cast hlt), if_pos (nn_cast _), if_pos (lt_cast hlt), rd_nat l i hlt, if_pos e]
    · obtain ⟨r, h1, h2⟩ := ih (i + 1) (by omega)
      refine ⟨r, Ev.step (fun k => ?_) h1, ?_⟩
      · simp only [slices_Index_int_int.l0]
        rw [if_pos (lt_cast hlt), if_pos (nn_cast _), if_pos (lt_cast hlt), rd_nat l i hlt, if_neg e, wrap_succ i (by omega)]
      · rw [h2]
        have : (a == l[i]) = false := by simpa using e
        rw [this, Bool.false_or]
theorem contains_spec (l : List Int) (a : Int) (hl : l.length < 1000000) : Ev (fun k => slices_Contains_int_int.f k l a) (l.contains a) := by
  obtain ⟨r, h1, h2⟩ := index_loop l a hl l.length 0 (by omega)
  rw [List.drop_zero] at h2
  unfold slices_Contains_int_int.f
  refine Ev.bind (f := fun _ t => some (decide (t ≥ 0))) (a := r) h1 ?_
  rw [← h2]; exact Ev.now _

theorem reverse_loop (x : List Int) (hx : x.length < 1000000) : ∀ (d i : Nat) (y : List Int), x.length - 2 * i ≤ d → 2 * i ≤ x.length → y.length = x.length → (∀ m, m < x.length → nth y m = if m < i ∨ x.length - i ≤ m then nth x (x.length - 1 - m) else nth x m) →
    Ev (fun k => slices_Reverse_uint_uint.l0 k y (i : Int) ((x.length : Int) - 1 - (i : Int))) x.reverse := by
  intro d
  induction d using Nat.strongRecOn with
  | _ d ih =>
  intro i y hd hi hy hn
  by_cases hlt : (i : Int) < (x.length : Int) - 1 - (i : Int)
  · obtain ⟨j, hj⟩ : ∃ j : Nat, (x.length : Int) - 1 - (i : Int) = (j : Int) := ⟨x.length - 1 - i, by omega⟩
    have hji : j = x.length - 1 - i := by omega
    rw [hj]
    refine Ev.step (f := fun k => slices_Reverse_uint_uint.l0 k (sw y i j) ((i + 1 : Nat) : Int) ((x.length : Int) - 1 - ((i + 1 : Nat) : Int))) (fun k => ?_) (ih (d - 2) (by omega) (i + 1) (sw y i j) (by omega) (by omega) (by rw [sw_length]; exact hy) (fun m hm => ?_))
    · simp only [slices_Reverse_uint_uint.l0]
      rw [if_pos (by omega), if_pos (nn_cast _), if_pos (by omega), if_pos (nn_cast _), if_pos (by omega), rd_nth, rd_nth, wrap_succ i (by omega), Int.toNat_natCast, Int.toNat_natCast]
      have : wrap64 ((j : Int) - 1) = (x.length : Int) - 1 - ((i + 1 : Nat) : Int) := by unfold wrap64; omega
      rw [this]
      rfl
    · rw [nth_sw y i j m (by omega) (by omega) (by omega)]
      by_cases e1 : m = j
      · rw [if_pos e1, if_pos (by omega), hn i (by omega), if_neg (by omega)]; congr 1; omega
      · rw [if_neg e1]
        by_cases e2 : m = i
        · rw [if_pos e2, if_pos (by omega), hn j (by omega), if_neg (by omega)]; congr 1; omega
        · rw [if_neg e2, hn m hm]
          by_cases e3 : m < i ∨ x.length - i ≤ m
          · rw [if_pos e3, if_pos (by omega)]
          · rw [if_neg e3, if_neg (by omega)]
  · have e : y = x.reverse := by
      refine List.ext_getElem (by simp [hy]) (fun m h1 h2 => ?_)
      have hm : m < x.length := by omega
      have h3 := hn m hm
      have e1 : nth y m = y[m] := by simp [nth, h1]
      have e2 : ∀ p (hp : p < x.length), nth x p = x[p] := fun p hp => by simp [nth, hp]
      rw [e1] at h3
      rw [h3, List.getElem_reverse]
      split
      · exact e2 _ (by omega)
      · rw [e2 m hm]; congr 1; omega
    subst e
    refine Ev.step (f := fun _ => some x.reverse) (fun k => ?_) (Ev.now _)
    simp only [slices_Reverse_uint_uint.l0]
    rw [if_neg hlt]
theorem reverse_spec (x : List Int) (hx : x.length < 1000000) : Ev (fun k => slices_Reverse_uint_uint.f k x) x.reverse := by
  unfold slices_Reverse_uint_uint.f
  have := reverse_loop x hx x.length 0 x (by omega) (by omega) rfl (fun m hm => by rw [if_neg (by omega)])
  have e : wrap64 ((x.length : Int) - 1) = (x.length : Int) - 1 - ((0 : Nat) : Int) := by unfold wrap64; omega
  rw [e]
  exact this
end Go.Proofs.Ytliocmjeglbpiaa.Ps
