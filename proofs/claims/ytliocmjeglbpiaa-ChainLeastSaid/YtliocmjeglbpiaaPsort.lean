/- NUMBERS IN ORDER, EACH ONCE: the library's Sort (of at most 12) and Compact. No program's memory in sight. -/
import Derived.Test.YtliocmjeglbpiaaPsD
import Derived.Test.YtliocmjeglbpiaaPperm
import Derived.Test.YtliocmjeglbpiaaPdual
namespace Go.Proofs.Ytliocmjeglbpiaa.Ps
open Go.RowKit Go.Proofs.YtliocmjeglbpiaaW.PrintWords Go.Proofs.YtliocmjeglbpiaaW.PrintLast Go.Proofs.YtliocmjeglbpiaaW.PrintMore
set_option linter.unusedVariables false
set_option linter.unusedSimpArgs false

theorem wrap_succ (i : Nat) (h : i < 9223372036854775807) : wrap64 ((i : Int) + 1) = ((i + 1 : Nat) : Int) := by
  unfold wrap64; omega
theorem wrap_pred (i : Nat) (h : i < 4611686018427387904) : wrap64 (((i + 1 : Nat) : Int) - 1) = (i : Int) := by
  unfold wrap64; omega
theorem rd_nat (xs : List Int) (i : Nat) (h : i < xs.length) : rd xs (i : Int) = xs[i] := by
  simp [rd, h]
theorem lt_cast {i n : Nat} (h : i < n) : (i : Int) < (n : Int) := by omega
theorem nlt_cast {i n : Nat} (h : n ≤ i) : ¬ (i : Int) < (n : Int) := by omega
theorem nn_cast (i : Nat) : (0 : Int) ≤ (i : Int) := by omega

/-- Two that change places. -/
def sw (x : List Int) (i j : Nat) : List Int := (x.set i (nth x j)).set j (nth x i)
theorem sw_length (x : List Int) (i j : Nat) : (sw x i j).length = x.length := by simp [sw]
theorem sw_perm (x : List Int) (i j : Nat) (hi : i < x.length) (hj : j < x.length) : (sw x i j).Perm x := by
  have h := Sort.swp_permIn x.toArray 0 x.length i j (Nat.zero_le _) hi (Nat.zero_le _) hj (by simp)
  have h2 := h.2.2
  have e : Sort.swp x.toArray i j = (sw x i j).toArray := by
    unfold Sort.swp sw nth
    simp [hi, hj]
  rw [e, Array.extract_eq_self_of_le (by simp [sw]), Array.extract_eq_self_of_le (by simp)] at h2
  exact h2
theorem nth_sw (x : List Int) (i j m : Nat) (hi : i < x.length) (hj : j < x.length) (hij : i ≠ j) : nth (sw x i j) m = if m = j then nth x i else if m = i then nth x j else nth x m := by
  unfold sw
  by_cases e1 : m = j
  · subst e1; rw [if_pos rfl, nth_set_same _ _ _ (by simpa using hj)]
  · rw [if_neg e1, nth_set_other _ _ _ _ (fun e => e1 e.symm)]
    by_cases e2 : m = i
    · subst e2; rw [if_pos rfl, nth_set_same _ _ _ hi]
    · rw [if_neg e2, nth_set_other _ _ _ _ (fun e => e2 e.symm)]

/-- In order, up to n. -/
def Asc (x : List Int) (n : Nat) : Prop := ∀ a b, a < b → b < n → nth x a ≤ nth x b
/-- In order, but for what stands at p, which is no greater than what follows. -/
structure Put (x : List Int) (n p : Nat) : Prop where
  asc : ∀ a b, a < b → b < n → a ≠ p → b ≠ p → nth x a ≤ nth x b
  low : ∀ b, p < b → b < n → nth x p ≤ nth x b
theorem Put.step {x : List Int} {n p : Nat} (h : Put x n (p + 1)) (hp : p + 1 < n) (hn : n ≤ x.length) (hlt : nth x (p + 1) < nth x p) : Put (sw x (p + 1) p) n p := by
  have e := fun m => nth_sw x (p + 1) p m (by omega) (by omega) (by omega)
  refine ⟨fun a b hab hb ha hb' => ?_, fun b hpb hb => ?_⟩
  · rw [e a, e b, if_neg ha, if_neg hb']
    by_cases h1 : a = p + 1
    · rw [if_pos h1, if_neg (by omega)]; exact h.asc p b (by omega) hb (by omega) (by omega)
    · rw [if_neg h1]
      by_cases h2 : b = p + 1
      · rw [if_pos h2]; exact h.asc a p (by omega) (by omega) h1 (by omega)
      · rw [if_neg h2]; exact h.asc a b hab hb h1 h2
  · rw [e p, e b, if_pos rfl, if_neg (by omega)]
    by_cases h2 : b = p + 1
    · rw [if_pos h2]; omega
    · rw [if_neg h2]; exact h.low b (by omega) hb
theorem Put.done {x : List Int} {n p : Nat} (h : Put x n p) (hp : p = 0 ∨ nth x (p - 1) ≤ nth x p) : Asc x n := by
  intro a b hab hb
  by_cases h1 : a = p
  · subst h1; exact h.low b hab hb
  · by_cases h2 : b = p
    · subst h2
      rcases hp with hp | hp
      · omega
      · by_cases h3 : a = b - 1
        · subst h3; exact hp
        · have := h.asc a (b - 1) (by omega) (by omega) h1 (by omega); omega
    · exact h.asc a b hab hb h1 h2

theorem less_f (a b : Int) : cmp_Less_uint.f a b = some (decide (a < b)) := by
  unfold cmp_Less_uint.f cmp_isNaN_uint.f
  simp

theorem insert_loop2 (n : Nat) (hn : n < 1000000) (i : Nat) : ∀ (x : List Int), x.length = n → i < n → Put x (i + 1) i →
    (∀ (i' : Nat) (x' : List Int), i < i' → x'.length = n → i' ≤ n → Asc x' i' → ∃ r, Ev (fun k => slices_insertionSortOrdered_uint.l0 k x' 0 (n : Int) (i' : Int)) r ∧ r.Perm x' ∧ Asc r n) →
    ∃ r, Ev (fun k => slices_insertionSortOrdered_uint.l1 k x 0 (n : Int) (i : Int) (i : Int)) r ∧ r.Perm x ∧ Asc r n := by
  intro x hx hi hput houter
  have main : ∀ (p : Nat) (x : List Int), x.length = n → p ≤ i → Put x (i + 1) p → ∃ r, Ev (fun k => slices_insertionSortOrdered_uint.l1 k x 0 (n : Int) (i : Int) (p : Int)) r ∧ r.Perm x ∧ Asc r n := by
    intro p
    induction p with
    | zero =>
      intro x hx hp hput
      obtain ⟨r, h1, h2, h3⟩ := houter (i + 1) x (by omega) hx (by omega) (hput.done (.inl rfl))
      refine ⟨r, ?_, h2, h3⟩
      refine Ev.step (fun k => ?_) h1
      simp only [slices_insertionSortOrdered_uint.l1]
      rw [if_neg (by omega), wrap_succ i (by omega)]
    | succ p ih =>
      intro x hx hp hput
      have hgo : ∀ k, slices_insertionSortOrdered_uint.l1 (k + 1) x 0 (n : Int) (i : Int) ((p + 1 : Nat) : Int) = if nth x (p + 1) < nth x p then slices_insertionSortOrdered_uint.l1 k (sw x (p + 1) p) 0 (n : Int) (i : Int) (p : Int) else slices_insertionSortOrdered_uint.l0 k x 0 (n : Int) ((i + 1 : Nat) : Int) := by
        intro k
        simp only [slices_insertionSortOrdered_uint.l1]
        rw [if_pos (by omega), if_pos (nn_cast _), if_pos (by omega), wrap_pred p (by omega), if_pos (nn_cast _), if_pos (by omega), less_f, rd_nth, rd_nth]
        simp only [Option.bind_some, decide_eq_true_eq, Int.toNat_natCast]
        rw [wrap_succ i (by omega)]
        rfl
      by_cases hlt : nth x (p + 1) < nth x p
      · have hpm := sw_perm x (p + 1) p (by omega) (by omega)
        obtain ⟨r, h1, h2, h3⟩ := ih (sw x (p + 1) p) (by rw [sw_length]; exact hx) (by omega) (hput.step (by omega) (by omega) hlt)
        exact ⟨r, Ev.step (fun k => by rw [hgo k, if_pos hlt]) h1, h2.trans hpm, h3⟩
      · obtain ⟨r, h1, h2, h3⟩ := houter (i + 1) x (by omega) hx (by omega) (hput.done (.inr (by simpa using Int.not_lt.1 hlt)))
        exact ⟨r, Ev.step (fun k => by rw [hgo k, if_neg hlt]) h1, h2, h3⟩
  exact main i x hx (Nat.le_refl _) hput

theorem insert_outer (n : Nat) (hn : n < 1000000) : ∀ (m i : Nat) (x : List Int), n - i ≤ m → x.length = n → i ≤ n → Asc x i → ∃ r, Ev (fun k => slices_insertionSortOrdered_uint.l0 k x 0 (n : Int) (i : Int)) r ∧ r.Perm x ∧ Asc r n := by
  intro m
  induction m with
  | zero =>
    intro i x hm hx hi hasc
    obtain rfl : i = n := by omega
    refine ⟨x, Ev.step (f := fun _ => some x) (fun k => ?_) (Ev.now _), List.Perm.refl _, hasc⟩
    simp only [slices_insertionSortOrdered_uint.l0]
    rw [if_neg (by omega)]
  | succ m ih =>
    intro i x hm hx hi hasc
    by_cases hlt : i < n
    · have hput : Put x (i + 1) i := ⟨fun a b hab hb ha hb' => hasc a b hab (by omega), fun b hb hb2 => by omega⟩
      obtain ⟨r, h1, h2, h3⟩ := insert_loop2 n hn i x hx hlt hput (fun i' x' hi' hx' hin' ha' => ih i' x' (by omega) hx' hin' ha')
      refine ⟨r, Ev.step (fun k => ?_) h1, h2, h3⟩
      simp only [slices_insertionSortOrdered_uint.l0]
      rw [if_pos (by omega)]
    · obtain rfl : i = n := by omega
      refine ⟨x, Ev.step (f := fun _ => some x) (fun k => ?_) (Ev.now _), List.Perm.refl _, hasc⟩
      simp only [slices_insertionSortOrdered_uint.l0]
      rw [if_neg (by omega)]

theorem sort_spec (x : List Int) (hx : x.length ≤ 12) : ∃ r, Ev (fun k => slices_Sort_uint_uint.f k x) r ∧ r.Perm x ∧ Asc r x.length := by
  obtain ⟨r, h1, h2, h3⟩ := insert_outer x.length (by omega) x.length (if x.length = 0 then 0 else 1) x (by split <;> omega) rfl (by split <;> omega) (fun a b hab hb => by split at hb <;> omega)
  have h1' : Ev (fun k => slices_insertionSortOrdered_uint.l0 k x 0 (x.length : Int) 1) r := by
    by_cases h0 : x.length = 0
    · rw [if_pos h0] at h1
      obtain rfl : x = [] := List.eq_nil_of_length_eq_zero h0
      obtain rfl : r = [] := List.perm_nil.1 h2
      refine Ev.step (f := fun _ => some []) (fun k => ?_) (Ev.now _)
      simp [slices_insertionSortOrdered_uint.l0]
    · rw [if_neg h0] at h1; exact h1
  refine ⟨r, ?_, h2, h3⟩
  unfold slices_Sort_uint_uint.f
  have hw : IntKind.u64.wrap (x.length : Int) = (x.length : Int) := wrap_u64_nat _ (by omega)
  refine Ev.bind (g := fun k => bits_Len.f (IntKind.u64.wrap (x.length : Int))) (a := (Lib.bitLen x.length : Int)) ⟨0, fun _ _ => by
    rw [hw]; unfold bits_Len.f; rw [if_pos ⟨nn_cast _, by omega⟩, Int.toNat_natCast]⟩ ?_
  refine Ev.bind (a := r) ?_ (Ev.now _)
  refine Ev.step (fun k => by simp only [slices_pdqsortOrdered_uint.f]) (f := fun k => slices_pdqsortOrdered_uint.l0 k x 0 (x.length : Int) (Lib.bitLen x.length : Int) true) ?_
  refine Ev.step (f := fun k => (slices_insertionSortOrdered_uint.f k x 0 (x.length : Int)).bind fun t => some t) (fun k => ?_) ?_
  · simp only [slices_pdqsortOrdered_uint.l0]
    rw [if_pos (by unfold wrap64; omega)]
  · refine Ev.bind (a := r) ?_ (Ev.now _)
    unfold slices_insertionSortOrdered_uint.f
    rw [show wrap64 (0 + 1) = 1 by unfold wrap64; omega]
    exact h1'

/-! ### each once -/
theorem getBang (x : List Int) (i : Nat) : x.toArray[i]! = nth x i := by
  unfold nth
  by_cases h : i < x.length <;> simp [h]
theorem compact_mem {x : List Int} (hasc : Asc x x.length) (v : Int) : v ∈ Lib.compact x ↔ v ∈ x := by
  unfold Lib.compact Lib.compactUpTo
  constructor
  · intro h
    obtain ⟨j, hj, e⟩ := List.mem_map.1 h
    have hjl := List.mem_range.1 (List.mem_filter.1 hj).1
    rw [getBang] at e
    rw [← e]; simp [nth, hjl]
  · intro h
    obtain ⟨i, hi, e⟩ := List.mem_iff_getElem.1 h
    -- the first place that holds it
    have hex : ∃ j, j < x.length ∧ nth x j = v ∧ (j = 0 ∨ nth x (j - 1) ≠ v) := by
      have : ∀ (i : Nat), i < x.length → nth x i = v → ∃ j, j < x.length ∧ nth x j = v ∧ (j = 0 ∨ nth x (j - 1) ≠ v) := by
        intro i
        induction i with
        | zero => intro h1 h2; exact ⟨0, h1, h2, .inl rfl⟩
        | succ i ih =>
          intro h1 h2
          by_cases h3 : nth x i = v
          · exact ih (by omega) h3
          · exact ⟨i + 1, h1, h2, .inr h3⟩
      exact this i hi (by simp [nth, hi, e])
    obtain ⟨j, hj, e2, h3⟩ := hex
    refine List.mem_map.2 ⟨j, List.mem_filter.2 ⟨List.mem_range.2 hj, ?_⟩, by rw [getBang]; exact e2⟩
    unfold Lib.keeps
    rw [getBang, getBang]
    simp only [decide_eq_true_eq]
    rcases h3 with h3 | h3
    · exact .inl h3
    · exact .inr (by rw [e2]; exact fun e => h3 e.symm)
theorem compact_nodup {x : List Int} (hasc : Asc x x.length) : (Lib.compact x).Nodup := by
  unfold Lib.compact Lib.compactUpTo
  refine nodup_map_on _ _ (List.Pairwise.filter _ List.nodup_range) (fun a ha b hb e => ?_)
  rw [getBang, getBang] at e
  have key : ∀ a b, a < b → b ∈ (List.range x.length).filter (Lib.keeps x.toArray) → nth x a ≠ nth x b := by
    intro a b hab hb e
    have h1 := List.mem_filter.1 hb
    have hbl := List.mem_range.1 h1.1
    have h2 := h1.2
    unfold Lib.keeps at h2
    rw [getBang, getBang] at h2
    simp only [decide_eq_true_eq] at h2
    rcases h2 with h2 | h2
    · omega
    · have h4 := hasc (b - 1) b (by omega) hbl
      by_cases h5 : a = b - 1
      · subst h5; exact h2 e.symm
      · have h6 := hasc a (b - 1) (by omega) (by omega)
        omega
  rcases Nat.lt_trichotomy a b with h | h | h
  · exact absurd e (key a b h hb)
  · exact h
  · exact absurd e.symm (key b a h ha)
end Go.Proofs.Ytliocmjeglbpiaa.Ps
