/- GROUPS OF A LIST IN ORDER ARE THE SET'S: plain, no program. No condition. -/
import Derived.Test.YtolefpeiceiocaaGiter
namespace Go.Proofs.Ytolefpeiceiocaa.Ps
open Go Go.RowKit Go.Sort
set_option linter.unusedVariables false

/-- In order by their heads. -/
def Heads (n : Nat) (us : List (List Sv)) : Prop := us.Pairwise (fun x y => 0 ≤ lexS (y.take n) (x.take n))
theorem lex_lt_of {x y : List Sv} (h : 0 ≤ lexS y x) (hne : x ≠ y) : lexS x y < 0 := by
  have h1 := lexS_swap x y
  have h2 : lexS x y ≠ 0 := fun e => hne (lexS_eq e)
  omega
theorem drop_gt (n : Nat) (t : List Sv) : ∀ (r : List (List Sv)), Heads n (t :: r) → ∀ x ∈ r.dropWhile (sameH n (t.take n)), lexS (t.take n) (x.take n) < 0
  | [], _, x, hx => by simp at hx
  | a :: r, hs, x, hx => by
    have hs' := List.pairwise_cons.1 hs
    have hs2 := List.pairwise_cons.1 hs'.2
    by_cases hp : sameH n (t.take n) a = true
    · rw [List.dropWhile_cons, if_pos hp] at hx
      exact drop_gt n t r (List.pairwise_cons.2 ⟨fun y hy => hs'.1 y (by simp [hy]), hs2.2⟩) x hx
    · rw [List.dropWhile_cons, if_neg hp] at hx
      have hne : t.take n ≠ a.take n := fun e => hp (by simp [sameH, e])
      have h1 := lex_lt_of (hs'.1 a (by simp)) hne
      rcases List.mem_cons.1 hx with rfl | hx
      · exact h1
      · by_cases he : a.take n = x.take n
        · rw [← he]; exact h1
        · exact lexS_trans h1 (lex_lt_of (hs2.1 x hx) he)
theorem while_mem {α : Type} (p : α → Bool) (l : List α) (x : α) : x ∈ l ↔ x ∈ l.takeWhile p ∨ x ∈ l.dropWhile p := by
  conv => lhs; rw [← List.takeWhile_append_dropWhile (p := p) (l := l)]
  exact List.mem_append
theorem take_while_mem {α : Type} (p : α → Bool) : ∀ (l : List α) (x : α), x ∈ l.takeWhile p → p x = true
  | [], x, h => by simp at h
  | a :: l, x, h => by
    by_cases hp : p a = true
    · rw [List.takeWhile_cons, if_pos hp] at h
      rcases List.mem_cons.1 h with rfl | h
      · exact hp
      · exact take_while_mem p l x h
    · rw [List.takeWhile_cons, if_neg hp] at h
      cases h
theorem heads_drop (n : Nat) (p : List Sv → Bool) : ∀ (r : List (List Sv)), Heads n r → Heads n (r.dropWhile p)
  | [], h => h
  | a :: r, h => by
    by_cases hp : p a = true
    · rw [List.dropWhile_cons, if_pos hp]; exact heads_drop n p r (List.pairwise_cons.1 h).2
    · rw [List.dropWhile_cons, if_neg hp]; exact h
/-- What the groups are. -/
theorem spans_spec (n : Nat) : ∀ (f : Nat) (us : List (List Sv)), us.length ≤ f → Heads n us →
    ((spans n f us).map Prod.fst).Pairwise (fun x y => lexS x y < 0) ∧ (∀ h, h ∈ (spans n f us).map Prod.fst ↔ ∃ t ∈ us, t.take n = h) ∧
      ∀ p ∈ spans n f us, ∀ y, y ∈ p.2 ↔ ∃ t ∈ us, t.take n = p.1 ∧ lastS n t = y
  | 0, us, hl, _ => by
    obtain rfl := List.eq_nil_of_length_eq_zero (Nat.le_zero.1 hl)
    simp [spans]
  | f + 1, [], _, _ => by simp [spans]
  | f + 1, t :: r, hl, hs => by
    have hdl := dropWhile_len (sameH n (t.take n)) r
    have ih := spans_spec n f (r.dropWhile (sameH n (t.take n))) (by simp at hl; omega) (heads_drop n _ r (List.pairwise_cons.1 hs).2)
    have hgt := drop_gt n t r hs
    have hw := while_mem (sameH n (t.take n)) r
    have ht : ∀ x, x ∈ r.takeWhile (sameH n (t.take n)) → x.take n = t.take n := fun x hx => of_decide_eq_true (p := x.take n = t.take n) (take_while_mem (sameH n (t.take n)) _ _ hx)
    obtain ⟨i1, i2, i3⟩ := ih
    have hself := lexS_self (t.take n)
    refine ⟨?_, ?_, ?_⟩
    · rw [spans, List.map_cons, List.pairwise_cons]
      refine ⟨fun h hh => ?_, i1⟩
      obtain ⟨u, hu, rfl⟩ := (i2 h).1 hh
      exact hgt u hu
    · intro h
      rw [spans, List.map_cons, List.mem_cons, i2 h]
      constructor
      · rintro (rfl | ⟨u, hu, rfl⟩)
        · exact ⟨t, by simp, rfl⟩
        · exact ⟨u, by simp [(hw u).2 (.inr hu)], rfl⟩
      · rintro ⟨u, hu, rfl⟩
        rcases List.mem_cons.1 hu with rfl | hu
        · exact .inl rfl
        · rcases (hw u).1 hu with hu | hu
          · exact .inl (ht u hu)
          · exact .inr ⟨u, hu, rfl⟩
    · intro p hp y
      rw [spans] at hp
      rcases List.mem_cons.1 hp with rfl | hp
      · simp only [List.mem_cons, List.mem_map]
        constructor
        · rintro (rfl | ⟨u, hu, rfl⟩)
          · exact ⟨t, .inl rfl, rfl, rfl⟩
          · exact ⟨u, .inr ((hw u).2 (.inl hu)), ht u hu, rfl⟩
        · rintro ⟨u, hu, h1, rfl⟩
          rcases hu with rfl | hu
          · exact .inl rfl
          · rcases (hw u).1 hu with hu | hu
            · exact .inr ⟨u, hu, rfl⟩
            · have := hgt u hu
              rw [h1, hself] at this
              omega
      · have hm : p.1 ∈ (spans n f (r.dropWhile (sameH n (t.take n)))).map Prod.fst := List.mem_map.2 ⟨p, hp, rfl⟩
        obtain ⟨u0, hu0, e0⟩ := (i2 p.1).1 hm
        have hlt := hgt u0 hu0
        rw [e0] at hlt
        rw [i3 p hp y]
        constructor
        · rintro ⟨u, hu, h1, h2⟩
          exact ⟨u, by simp [(hw u).2 (.inr hu)], h1, h2⟩
        · rintro ⟨u, hu, h1, h2⟩
          rcases List.mem_cons.1 hu with rfl | hu
          · rw [h1, lexS_self] at hlt; omega
          · rcases (hw u).1 hu with hu | hu
            · rw [← h1, ht u hu, hself] at hlt; omega
            · exact ⟨u, hu, h1, h2⟩

theorem even_len {ts : List (List Sv)} (hu : unevenP ts = false) : ∀ t ∈ ts, t.length = (ts.headD []).length - 1 + 1 := by
  intro t ht
  unfold unevenP at hu
  rw [List.any_eq_false] at hu
  have h := hu t ht
  simp only [decide_eq_true_eq] at h
  omega
theorem dropLast_take {n : Nat} {t : List Sv} (h : t.length = n + 1) : t.dropLast = t.take n := by
  rw [List.dropLast_eq_take, h]; rfl
theorem last_get {n : Nat} {t : List Sv} (h : t.length = n + 1) : t.getLastD z27 = lastS n t := by
  unfold lastS
  rw [List.getLastD_eq_getLast?, List.getLast?_eq_getElem?, h, Nat.add_sub_cancel, List.getElem?_eq_getElem (by omega), getElem!_pos t n (by omega)]
  rfl
theorem spans_set {ts us : List (List Sv)} {n : Nat} (hn : n = (ts.headD []).length - 1) (hu : unevenP ts = false) (hp : us.Perm ts) (hs : Heads n us) :
    (spans n us.length us).map Prod.fst = setT (ts.map List.dropLast) ∧ ∀ p ∈ spans n us.length us, ∀ kind, ofP kind p.2 = ofP kind (valsT p.1 ts) := by
  obtain ⟨h1, h2, h3⟩ := spans_spec n us.length us (Nat.le_refl _) hs
  have hev : ∀ t ∈ ts, t.length = n + 1 := fun t ht => by rw [hn]; exact even_len hu t ht
  refine ⟨sorted_one lexS_ord h1 (setC_sorted lexS_ord _) (fun h => ?_), fun p hm kind => ?_⟩
  · unfold setT
    rw [h2 h, mem_setC lexS_ord, List.mem_map]
    constructor
    · rintro ⟨t, ht, rfl⟩
      exact ⟨t, hp.mem_iff.1 ht, dropLast_take (hev t (hp.mem_iff.1 ht))⟩
    · rintro ⟨t, ht, rfl⟩
      exact ⟨t, hp.mem_iff.2 ht, (dropLast_take (hev t ht)).symm⟩
  · unfold ofP setL
    congr 1
    refine setC_congr cmpS_ord (fun y => ?_)
    rw [h3 p hm y]
    unfold valsT
    rw [List.mem_map]
    constructor
    · rintro ⟨t, ht, e1, e2⟩
      have ht' := hp.mem_iff.1 ht
      exact ⟨t, List.mem_filter.2 ⟨ht', decide_eq_true (by rw [dropLast_take (hev t ht'), e1]; exact lexS_self _)⟩, by rw [last_get (hev t ht'), e2]⟩
    · rintro ⟨t, ht, e⟩
      obtain ⟨ht1, ht2⟩ := List.mem_filter.1 ht
      have e1 := lexS_eq (of_decide_eq_true ht2)
      exact ⟨t, hp.mem_iff.2 ht1, by rw [← e1, dropLast_take (hev t ht1)], by rw [← last_get (hev t ht1), e]⟩

/-- What the groups so far are folded to. -/
def outsP (kind : Int) (pre : List Grp) : List (List Sv) := pre.map fun x => x.h ++ [(ofP kind x.vs).1]
theorem go_fine {kind : Int} {ts : List (List Sv)} : ∀ (xs : List Grp) (rest out : List (List Sv)), (∀ x ∈ xs, ofP kind x.vs = ofP kind (valsT x.h ts)) → (∀ x ∈ xs, (ofP kind x.vs).2 = 0) →
    goP kind ts (xs.map Grp.h ++ rest) out = goP kind ts rest (out ++ outsP kind xs)
  | [], rest, out, _, _ => by simp [outsP]
  | x :: xs, rest, out, h1, h2 => by
    rw [List.map_cons, List.cons_append, goP, ← h1 x (by simp), if_neg (by simp [h2 x (by simp)]), go_fine xs rest _ (fun y hy => h1 y (by simp [hy])) (fun y hy => h2 y (by simp [hy]))]
    simp [outsP]
theorem grp_vals {kind : Int} {ts us : List (List Sv)} {xs : List Grp} {n : Nat} (hn : n = (ts.headD []).length - 1) (hu : unevenP ts = false) (hp : us.Perm ts) (hs : Heads n us)
    (hsp : xs.map (fun x : Grp => (x.h, x.vs)) <+: spans n us.length us) : ∀ x ∈ xs, ofP kind x.vs = ofP kind (valsT x.h ts) := by
  intro x hx
  have hm : (x.h, x.vs) ∈ spans n us.length us := hsp.subset (List.mem_map.2 ⟨x, hx, rfl⟩)
  exact (spans_set hn hu hp hs).2 _ hm kind
theorem groups_fine {kind : Int} {ts us : List (List Sv)} {xs : List Grp} {n : Nat} (hn : n = (ts.headD []).length - 1) (hu : unevenP ts = false) (hp : us.Perm ts) (hs : us.Pairwise (fun x y => 0 ≤ lexS (y.take n) (x.take n)))
    (hsp : xs.map (fun x : Grp => (x.h, x.vs)) = spans n us.length us) (hf : ∀ x ∈ xs, (ofP kind x.vs).2 = 0) : groupsP kind ts = (outsP kind xs, 0) := by
  unfold groupsP
  rw [if_neg (by simp [hu]), ← (spans_set hn hu hp hs).1, ← hsp, List.map_map]
  have h := go_fine (kind := kind) (ts := ts) xs [] [] (grp_vals hn hu hp hs (by rw [hsp]; exact List.prefix_refl _)) hf
  rw [List.append_nil] at h
  simpa [goP, Function.comp_def] using h
theorem groups_err {kind : Int} {ts us : List (List Sv)} {xs : List Grp} {x : Grp} {n : Nat} (hn : n = (ts.headD []).length - 1) (hu : unevenP ts = false) (hp : us.Perm ts) (hs : us.Pairwise (fun x y => 0 ≤ lexS (y.take n) (x.take n)))
    (hsp : (xs ++ [x]).map (fun x : Grp => (x.h, x.vs)) <+: spans n us.length us) (hf : ∀ x ∈ xs, (ofP kind x.vs).2 = 0) (hx : (ofP kind x.vs).2 ≠ 0) : groupsP kind ts = ([], (ofP kind x.vs).2) := by
  unfold groupsP
  rw [if_neg (by simp [hu]), ← (spans_set hn hu hp hs).1]
  have hv := grp_vals (kind := kind) hn hu hp hs hsp
  obtain ⟨rest, hr⟩ := hsp
  rw [← hr, List.map_append, List.map_map]
  have h := go_fine (kind := kind) (ts := ts) xs (x.h :: rest.map Prod.fst) [] (fun y hy => hv y (by simp [hy])) hf
  rw [goP, ← hv x (by simp), if_pos hx] at h
  simpa [Function.comp_def] using h
end Go.Proofs.Ytolefpeiceiocaa.Ps
