/- Cover AND Least: as many permutations as sets have no place, and each set the first columns of one. No program's memory in sight. -/
import Derived.Test.YtliocmjeglbpiaaPperms
namespace Go.Proofs.Ytliocmjeglbpiaa.Ps
open Go.RowKit Go.Proofs.YtliocmjeglbpiaaW.PrintWords Go.Proofs.YtliocmjeglbpiaaW.PrintLast Go.Proofs.YtliocmjeglbpiaaW.PrintMore
set_option linter.unusedVariables false
set_option linter.unusedSimpArgs false

/-- How many there are at most of which none is part of another one. -/
structure AC (D : Nat → Prop) (B : List Nat) : Prop where
  nodup : B.Nodup
  mem : ∀ b ∈ B, D b
  apart : ∀ a ∈ B, ∀ b ∈ B, Sub a b → a = b
def Width (D : Nat → Prop) (w : Nat) : Prop := (∃ B, AC D B ∧ B.length = w) ∧ ∀ B, AC D B → B.length ≤ w
theorem AC.take {D : Nat → Prop} {B : List Nat} (h : AC D B) (n : Nat) : AC D (B.take n) := ⟨h.nodup.sublist (List.take_sublist _ _), fun b hb => h.mem b (List.mem_of_mem_take hb), fun a ha b hb => h.apart a (List.mem_of_mem_take ha) b (List.mem_of_mem_take hb)⟩
theorem Width.unique {D : Nat → Prop} {v w : Nat} (h : Width D v) (k : Width D w) : v = w := by
  obtain ⟨B, hB, e⟩ := h.1
  obtain ⟨C, hC, e2⟩ := k.1
  have := k.2 B hB
  have := h.2 C hC
  omega

section
variable {L : List Nat}
theorem ed_iff (hnd : L.Nodup) (hlt : ∀ m ∈ L, m < 256) {i k : Nat} (hi : i < L.length) (hk : k < L.length) : Ed (up L) i k ↔ k ≠ i ∧ Sub L[i] L[k] := by
  unfold Ed
  rw [apart_up L (fun m hm => Nat.lt_trans (hlt m hm) (by decide)) i k hi hk, Classical.not_not]
theorem idx_inj (hnd : L.Nodup) (hlt : ∀ m ∈ L, m < 256) {i k : Nat} (hi : i < L.length) (hk : k < L.length) (h : L[i] = L[k]) : i = k := by
  rcases Nat.lt_trichotomy i k with h1 | h1 | h1
  · exact absurd h (List.pairwise_iff_getElem.1 hnd i k hi hk h1)
  · exact h1
  · exact absurd h.symm (List.pairwise_iff_getElem.1 hnd k i hk hi h1)
theorem ed_trans (hnd : L.Nodup) (hlt : ∀ m ∈ L, m < 256) {i j k : Nat} (hi : i < (up L).length) (hj : j < (up L).length) (hk : k < (up L).length) (h1 : Ed (up L) i j) (h2 : Ed (up L) j k) : Ed (up L) i k := by
  rw [up_length] at hi hj hk
  rw [ed_iff hnd hlt hi hj] at h1
  rw [ed_iff hnd hlt hj hk] at h2
  rw [ed_iff hnd hlt hi hk]
  refine ⟨fun e => ?_, h1.2.trans h2.2⟩
  subst e
  exact h1.1 (idx_inj hnd hlt hj hk (h2.2.antisymm h1.2))
theorem ed_less (hnd : L.Nodup) (hlt : ∀ m ∈ L, m < 256) {i j : Nat} (hi : i < (up L).length) (hj : j < (up L).length) (h1 : Ed (up L) i j) : L.getD i 0 < L.getD j 0 := by
  rw [up_length] at hi hj
  rw [ed_iff hnd hlt hi hj] at h1
  have e1 : L.getD i 0 = L[i] := by simp [hi]
  have e2 : L.getD j 0 = L[j] := by simp [hj]
  rw [e1, e2]
  refine Nat.lt_of_le_of_ne h1.2.le (fun e => h1.1 (idx_inj hnd hlt hj hi e.symm))

theorem width_lone (hnd : L.Nodup) (hlt : ∀ m ∈ L, m < 256) {r : List Int} (h : Stage (up L) (up L).length r) : Width (· ∈ L) (lone (up L) r).length := by
  have hM : ∀ i, i < (up L).length → L.getD i 0 ≤ 256 := fun i hi => by
    rw [up_length] at hi
    have : L.getD i 0 = L[i] := by simp [hi]
    rw [this]; exact Nat.le_of_lt (hlt _ (List.getElem_mem hi))
  have hup := fun {B} (hB : Anti (up L) B) => anti_le (up L) h (fun i j k hi hj hk => ed_trans hnd hlt hi hj hk) (fun i => L.getD i 0) 256 hM (fun i j hi hj => ed_less hnd hlt hi hj) hB
  constructor
  · obtain ⟨B, hB, hle⟩ := anti_some (up L) h
    have he := hup hB
    refine ⟨B.map fun i => L.getD i 0, ⟨nodup_map_on _ _ hB.nodup (fun x hx y hy e => ?_), fun b hb => ?_, fun a ha b hb hs => ?_⟩, by rw [List.length_map]; omega⟩
    · have h1 := hB.lt x hx
      have h2 := hB.lt y hy
      rw [up_length] at h1 h2
      exact idx_inj hnd hlt h1 h2 (by simpa [h1, h2] using e)
    · obtain ⟨i, hi, rfl⟩ := List.mem_map.1 hb
      have h1 := hB.lt i hi
      rw [up_length] at h1
      simp [h1]
    · obtain ⟨i, hi, rfl⟩ := List.mem_map.1 ha
      obtain ⟨j, hj, rfl⟩ := List.mem_map.1 hb
      have h1 := hB.lt i hi
      have h2 := hB.lt j hj
      rw [up_length] at h1 h2
      have h3 := hB.apart i hi j hj
      rw [ed_iff hnd hlt h1 h2] at h3
      have e : j = i := Classical.byContradiction fun e => h3 ⟨e, by simpa [h1, h2] using hs⟩
      rw [e]
  · intro B hB
    have hidx : ∀ b, ∃ i, b ∈ B → ∃ h : i < L.length, L[i] = b := fun b => by
      by_cases hb : b ∈ B
      · obtain ⟨i, hi, e⟩ := List.mem_iff_getElem.1 (hB.mem b hb)
        exact ⟨i, fun _ => ⟨hi, e⟩⟩
      · exact ⟨0, fun h => absurd h hb⟩
    obtain ⟨f, hf⟩ := Classical.axiomOfChoice hidx
    have hA : Anti (up L) (B.map f) := by
      refine ⟨nodup_map_on _ _ hB.nodup (fun x hx y hy e => ?_), fun i hi => ?_, fun i hi j hj => ?_⟩
      · obtain ⟨h1, e1⟩ := hf x hx
        obtain ⟨h2, e2⟩ := hf y hy
        rw [← e1, ← e2]; simp only [e]
      · obtain ⟨b, hb, rfl⟩ := List.mem_map.1 hi
        rw [up_length]; exact (hf b hb).1
      · obtain ⟨a, ha, rfl⟩ := List.mem_map.1 hi
        obtain ⟨b, hb, rfl⟩ := List.mem_map.1 hj
        obtain ⟨h1, e1⟩ := hf a ha
        obtain ⟨h2, e2⟩ := hf b hb
        rw [ed_iff hnd hlt h1 h2, e1, e2]
        rintro ⟨hne, hs⟩
        exact hne (by rw [hB.apart a ha b hb hs])
    have := hup hA
    simpa using this

/-- A chain, down from one that has no place, and what is told of it. -/
theorem chain_list (hnd : L.Nodup) (hlt : ∀ m ∈ L, m < 256) {r : List Int} (h : Stage (up L) (up L).length r) : ∀ (n x : Nat), x < L.length → L.getD x 0 ≤ n →
    ∃ D : List Nat, D ≠ [] ∧ (∀ y, Down r x y → L.getD y 0 ∈ D) ∧ D.Pairwise (fun a b => Sub b a) ∧ (∀ m ∈ D, m ∈ L ∧ Sub m (L.getD x 0)) ∧ D.length ≤ n + 1 ∧
      ∀ (ar : Int) (out : List (List Int)) (acc : List Nat) (tt : Int) (last : Int) (q : List (List Int) × Int), acc.length + n < 1000000 →
        Ev (fun k => chain_Cover.l1 k ar (up L) r out (up (acc ++ D)) (-1) tt last) q → Ev (fun k => chain_Cover.l1 k ar (up L) r out (up acc) (x : Int) tt last) q := by
  intro n
  induction n using Nat.strongRecOn with
  | _ n ih =>
  intro x hx hn
  have hxe : L.getD x 0 = L[x] := by simp [hx]
  have hxu : x < (up L).length := by rw [up_length]; exact hx
  have hrl : r.length = L.length := by rw [h.ok.len, up_length]
  have hgo : ∀ k (ar : Int) (out : List (List Int)) (acc : List Nat) (tt : Int) (last : Int), acc.length < 1000000 → chain_Cover.l1 (k + 1) ar (up L) r out (up acc) (x : Int) tt last = chain_Cover.l1 k ar (up L) r out (up (acc ++ [L[x]])) (nth r x) tt last := by
    intro k ar out acc tt last hacc
    simp only [chain_Cover.l1]
    rw [if_neg (by omega), if_pos (nn_cast _), if_pos (lt_cast hxu), if_pos (by rw [up_length]; omega), if_pos (by omega), rd_up L x hx, rd_nth]
    have : up (acc ++ [L[x]]) = up acc ++ [((L[x] : Nat) : Int)] := by simp [up]
    rw [this]
  by_cases h1 : nth r x = -1
  · refine ⟨[L[x]], by simp, fun y hy => ?_, by simp, fun m hm => ?_, by simp, fun ar out acc tt last q hacc hq => Ev.step (fun k => ?_) hq⟩
    · cases hy with
      | here => rw [hxe]; simp
      | step h2 _ => exact absurd h1 h2
    · rw [List.mem_singleton.1 hm, hxe]; exact ⟨List.getElem_mem hx, Sub.refl _⟩
    · rw [hgo k ar out acc tt last (by omega), h1]
  · have hv := (h.ok.val x hxu).resolve_left h1
    obtain ⟨z, hz⟩ : ∃ z : Nat, nth r x = (z : Int) := ⟨(nth r x).toNat, by omega⟩
    have hzl : z < L.length := by rw [up_length] at hv; omega
    have hzu : z < (up L).length := by rw [up_length]; exact hzl
    have he := h.edge x hxu h1
    rw [hz, Int.toNat_natCast] at he
    have hless := ed_less hnd hlt hzu hxu he
    rw [ed_iff hnd hlt hzl hx] at he
    have hze : L.getD z 0 = L[z] := by simp [hzl]
    obtain ⟨D, d0, d1, d2, d3, d4, d5⟩ := ih (n - 1) (by omega) z hzl (by omega)
    refine ⟨L[x] :: D, by simp, fun y hy => ?_, ?_, fun m hm => ?_, by simp only [List.length_cons]; omega, fun ar out acc tt last q hacc hq => Ev.step (fun k => ?_) (d5 ar out (acc ++ [L[x]]) tt last q (by simp only [List.length_append, List.length_cons, List.length_nil]; omega) (by rw [List.append_assoc]; exact hq))⟩
    · cases hy with
      | here => rw [hxe]; simp
      | step h2 hd => rw [hz, Int.toNat_natCast] at hd; exact List.mem_cons_of_mem _ (d1 y hd)
    · rw [List.pairwise_cons]
      exact ⟨fun m hm => (d3 m hm).2.trans (by rw [hze]; exact he.2), d2⟩
    · rcases List.mem_cons.1 hm with rfl | hm
      · rw [hxe]; exact ⟨List.getElem_mem hx, Sub.refl _⟩
      · exact ⟨(d3 m hm).1, (d3 m hm).2.trans (by rw [hze, hxe]; exact he.2)⟩
    · rw [hgo k ar out acc tt last (by omega), hz]

/-- The loop over those that have no place. -/
theorem cover_loop (hnd : L.Nodup) (hlt : ∀ m ∈ L, m < 256) (ar : Nat) (har : ar ≤ 8) (hb : ∀ m ∈ L, m < 2 ^ ar) (hL : L.length < 1000) {r : List Int} (h : Stage (up L) (up L).length r) (d : Nat) : ∀ (t : Nat) (out : List (List Int)), t + d = L.length → out.length = ((List.range t).filter fun x : Nat => !r.contains (x : Int)).length → (∀ p ∈ out, Prm ar p) →
    (∀ e, e < t → e ∈ lone (up L) r → ∀ y, Down r e y → ∃ p ∈ out, Fst (L.getD y 0) p) →
    ∃ out', Ev (fun k => chain_Cover.l0 k (ar : Int) (up L) r out (L.length : Int) (t : Int)) (out', 0) ∧ out'.length = (lone (up L) r).length ∧ (∀ p ∈ out', Prm ar p) ∧ (∀ e, e ∈ lone (up L) r → ∀ y, Down r e y → ∃ p ∈ out', Fst (L.getD y 0) p) := by
  have hrl : r.length = L.length := by rw [h.ok.len, up_length]
  induction d with
  | zero =>
    intro t out ht hlen hp hc
    obtain rfl : t = L.length := by omega
    refine ⟨out, Ev.step (f := fun _ => some (out, 0)) (fun k => ?_) (Ev.now _), by rw [hlen]; unfold lone; rw [up_length], hp, fun e he => hc e (by have := (mem_lone (up L) h.ok.len).1 he; rw [up_length] at this; exact this.1) he⟩
    simp only [chain_Cover.l0]
    rw [if_neg (nlt_cast (by omega))]
  | succ d ih =>
    intro t out ht hlen hp hc
    have hlt2 : t < L.length := by omega
    have hcs := contains_spec r (t : Int) (by omega)
    have hgo : ∀ k, chain_Cover.l0 (k + 1) (ar : Int) (up L) r out (L.length : Int) (t : Int) = (slices_Contains_int_int.f k r (t : Int)).bind fun b => if b = true then chain_Cover.l0 k (ar : Int) (up L) r out (L.length : Int) ((t + 1 : Nat) : Int) else chain_Cover.l1 k (ar : Int) (up L) r out ([] : List Int) (t : Int) (L.length : Int) (t : Int) := by
      intro k
      simp only [chain_Cover.l0]
      rw [if_pos (lt_cast hlt2), wrap_succ t (by omega)]
    have hrange : (List.range (t + 1)).filter (fun x : Nat => !r.contains (x : Int)) = (List.range t).filter (fun x : Nat => !r.contains (x : Int)) ++ if r.contains (t : Int) = true then [] else [t] := by
      rw [List.range_succ, List.filter_append]
      congr 1
      rw [List.filter_cons, List.filter_nil]
      cases hh : r.contains (t : Int) <;> rfl
    have hlone : ∀ e, e < t + 1 → e ∈ lone (up L) r → e < t ∨ (e = t ∧ r.contains (t : Int) = false) := fun e he hm => by
      by_cases e1 : e = t
      · subst e1
        have := List.mem_filter.1 (show e ∈ (List.range (up L).length).filter fun x : Nat => !r.contains (x : Int) from hm)
        exact .inr ⟨rfl, by simpa using this.2⟩
      · exact .inl (by omega)
    cases hct : r.contains (t : Int) with
    | true =>
      rw [hct] at hcs hrange
      obtain ⟨out', h1, h2⟩ := ih (t + 1) out (by omega) (by rw [hrange]; simpa using hlen) hp (fun e he hm => by
        rcases hlone e he hm with h3 | h3
        · exact hc e h3 hm
        · rw [hct] at h3; cases h3.2)
      refine ⟨out', Ev.step hgo (Ev.bind hcs ?_), h2⟩
      exact Ev.congr (fun k => by rw [if_pos rfl]) h1
    | false =>
      rw [hct] at hcs hrange
      have htm : L.getD t 0 ≤ 256 := by
        have : L.getD t 0 = L[t] := by simp [hlt2]
        rw [this]; exact Nat.le_of_lt (hlt _ (List.getElem_mem hlt2))
      obtain ⟨D, d0, d1, d2, d3, d4, d5⟩ := chain_list hnd hlt h 256 t hlt2 htm
      obtain ⟨p, hp1, hp2, hp3⟩ := perm_spec ar har D.reverse (by simpa using d0) (by rw [List.length_reverse]; omega) (fun m hm => hb m (d3 m (List.mem_reverse.1 hm)).1) (List.pairwise_reverse.2 d2)
      have hol : out.length ≤ L.length := by
        rw [hlen]
        have := List.length_filter_le (fun x : Nat => !r.contains (x : Int)) (List.range t)
        simp only [List.length_range] at this
        omega
      obtain ⟨out', h1, h2⟩ := ih (t + 1) (out ++ [p]) (by omega) (by rw [hrange]; simp [hlen]) (fun x hx => by
        rcases List.mem_append.1 hx with hx | hx
        · exact hp x hx
        · rw [List.mem_singleton.1 hx]; exact hp2) (fun e he hm y hy => by
        rcases hlone e he hm with h3 | h3
        · obtain ⟨x, hx, hf⟩ := hc e h3 hm y hy
          exact ⟨x, List.mem_append_left _ hx, hf⟩
        · obtain rfl := h3.1
          exact ⟨p, by simp, hp3 _ (List.mem_reverse.2 (d1 y hy))⟩)
      refine ⟨out', Ev.step hgo (Ev.bind hcs ?_), h2⟩
      refine Ev.congr (fun k => by rw [if_neg (by simp)]; rfl) (d5 (ar : Int) out [] (L.length : Int) (t : Int) _ (by simp) ?_)
      refine Ev.step (f := fun k => (slices_Reverse_uint_uint.f k (up D)).bind fun t264 => (chain_perm.f k (ar : Int) t264).bind fun t265 => chain_Cover.l0 k (ar : Int) (up L) r (out ++ [t265]) (L.length : Int) ((t + 1 : Nat) : Int)) (fun k => ?_) (Ev.bind (a := up D.reverse) ?_ (Ev.bind hp1 h1))
      · simp only [chain_Cover.l1, List.nil_append, ↓reduceIte]
        rw [wrap_succ t (by omega)]
        simp only [if_pos (show out.length < 5864062014805 by omega)]
      · have := reverse_spec (up D) (by rw [up_length]; omega)
        have e : (up D).reverse = up D.reverse := by simp [up]
        rw [← e]; exact this
end

/-- What Cover tells of sets that are sets: as few permutations as may be, each set the first columns of one. -/
theorem cover_spec (ar : Int) (sets : List (List Int)) (hlen : Few sets) (hs : ∀ s ∈ sets, s.length < 1000000) :
    (∃ out, (0 ≤ ar ∧ ar ≤ 8 ∧ ∀ s ∈ sets, SetOk ar s) ∧ Ev (fun k => chain_Cover.f k ar sets) (out, 0) ∧ Width (fun m => m ≠ 0 ∧ ∃ s ∈ sets, maskN s = m) out.length ∧ (∀ p ∈ out, Prm ar.toNat p) ∧ ∀ s ∈ sets, maskN s ≠ 0 → ∃ p ∈ out, Fst (maskN s) p) ∨
    (¬ (0 ≤ ar ∧ ar ≤ 8 ∧ ∀ s ∈ sets, SetOk ar s) ∧ Ev (fun k => chain_Cover.f k ar sets) ([], 1)) := by
  by_cases h0 : ar < 0
  · refine .inr ⟨by omega, ?_⟩
    refine Ev.congr (f := fun k => chain_Cover.j0 k ar sets true) (fun k => by unfold chain_Cover.f; rw [if_pos h0]) (Ev.step (f := fun _ => some ([], 1)) (fun k => ?_) (Ev.now _))
    simp [chain_Cover.j0]
  · by_cases h8 : ar > 8
    · refine .inr ⟨by omega, ?_⟩
      refine Ev.congr (f := fun k => chain_Cover.j0 k ar sets (decide (ar > 8))) (fun k => by unfold chain_Cover.f; rw [if_neg h0]) (Ev.step (f := fun _ => some ([], 1)) (fun k => ?_) (Ev.now _))
      rw [decide_eq_true h8]
      simp [chain_Cover.j0]
    · have hj : ∀ {q : List (List Int) × Int}, Ev (fun k => (chain_masks.f k ar sets).bind fun bt256 => (if bt256.2 = true then ((chain_match.f bt256.1).bind fun t260 => (chain_Cover.l0 k ar bt256.1 t260 ([] : List (List Int)) (bt256.1.length : Int) 0)) else (some (([] : List (List Int)), 1)))) q → Ev (fun k => chain_Cover.f k ar sets) q := fun {q} hq =>
        Ev.congr (f := fun k => chain_Cover.j0 k ar sets (decide (ar > 8))) (fun k => by unfold chain_Cover.f; rw [if_neg h0]) (Ev.step (fun k => by rw [decide_eq_false h8]; simp [chain_Cover.j0]) hq)
      rcases masks_spec ar (by omega) sets hlen hs with ⟨L, hok, hm, hl12, he⟩ | ⟨hno, he⟩
      · obtain ⟨r, hr, hst⟩ := match_spec (up L) (by rw [up_length]; omega)
        obtain ⟨a, rfl⟩ : ∃ a : Nat, ar = (a : Int) := ⟨ar.toNat, by omega⟩
        have hb : ∀ m ∈ L, m < 2 ^ a := fun m hml => by
          obtain ⟨_, s, hs2, rfl⟩ := (hm.mem m).1 hml
          refine Nat.lt_pow_two_of_testBit _ (fun i hi => ?_)
          rw [← Bool.not_eq_true, maskN_test s (fun c hc => ((hok s hs2).1 c hc).1)]
          intro hmm
          have := ((hok s hs2).1 _ hmm).2
          omega
        obtain ⟨out, h1, h2, h3, h4⟩ := cover_loop hm.nodup hm.lt a (by omega) hb (by omega) hst L.length 0 [] (by omega) (by simp) (by simp) (fun e he => absurd he (Nat.not_lt_zero _))
        refine .inl ⟨out, ⟨by omega, by omega, hok⟩, hj (Ev.bind he ?_), ?_, by simpa using h3, fun s hs2 hne => ?_⟩
        · refine Ev.congr (fun k => ?_) h1
          rw [if_pos rfl, hr, Option.bind_some, up_length]
          rfl
        · have hw := width_lone hm.nodup hm.lt hst
          rw [← h2] at hw
          have e : (fun m => m ≠ 0 ∧ ∃ s ∈ sets, maskN s = m) = (· ∈ L) := funext fun m => propext (hm.mem m).symm
          rw [e]; exact hw
        · have hml : maskN s ∈ L := (hm.mem _).2 ⟨hne, s, hs2, rfl⟩
          obtain ⟨x, hx, ex⟩ := List.mem_iff_getElem.1 hml
          have hM : ∀ i, i < (up L).length → L.getD i 0 ≤ 256 := fun i hi => by
            rw [up_length] at hi
            have : L.getD i 0 = L[i] := by simp [hi]
            rw [this]; exact Nat.le_of_lt (hm.lt _ (List.getElem_mem hi))
          obtain ⟨e, he1, he2⟩ := top_some (up L) hst (fun i => L.getD i 0) 256 hM (fun i j hi hj => ed_less hm.nodup hm.lt hi hj) 256 x (by rw [up_length]; exact hx) (by omega)
          obtain ⟨p, hp1, hp2⟩ := h4 e he1 x he2
          have : L.getD x 0 = maskN s := by rw [← ex]; simp [hx]
          rw [this] at hp2
          exact ⟨p, hp1, hp2⟩
      · refine .inr ⟨fun h => hno h.2.2, hj (Ev.bind he ?_)⟩
        exact Ev.now _

/-- How many they are. -/
theorem least_spec (ar : Int) (sets : List (List Int)) (hlen : Few sets) (hs : ∀ s ∈ sets, s.length < 1000000) :
    (∃ w : Nat, (0 ≤ ar ∧ ar ≤ 8 ∧ ∀ s ∈ sets, SetOk ar s) ∧ Ev (fun k => chain_Least.f k ar sets) (w : Int) ∧ Width (fun m => m ≠ 0 ∧ ∃ s ∈ sets, maskN s = m) w) ∨
    (¬ (0 ≤ ar ∧ ar ≤ 8 ∧ ∀ s ∈ sets, SetOk ar s) ∧ Ev (fun k => chain_Least.f k ar sets) (-1)) := by
  rcases cover_spec ar sets hlen hs with ⟨out, h1, h2, h3, _⟩ | ⟨h1, h2⟩
  · refine .inl ⟨out.length, h1, ?_, h3⟩
    unfold chain_Least.f
    refine Ev.bind (f := fun _ bt276 => if bt276.2 = 0 then some (bt276.1.length : Int) else some (-1)) h2 ?_
    rw [if_pos rfl]; exact Ev.now _
  · refine .inr ⟨h1, ?_⟩
    unfold chain_Least.f
    refine Ev.bind (f := fun _ bt276 => if bt276.2 = 0 then some (bt276.1.length : Int) else some (-1)) h2 ?_
    rw [if_neg (by decide)]; exact Ev.now _
end Go.Proofs.Ytliocmjeglbpiaa.Ps
