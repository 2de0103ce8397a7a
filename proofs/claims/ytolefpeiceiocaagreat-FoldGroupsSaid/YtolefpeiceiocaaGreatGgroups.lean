/- GROUPS OF A LIST IN ORDER ARE THE SET'S: plain, no program. No condition. -/
import Derived.Test.YtolefpeiceiocaaGreatGiter
import Derived.Test.YtolefpeiceiocaaGreatGheld
import Derived.Test.YtolefpeiceiocaaGreatPof
namespace Go.Proofs.YtolefpeiceiocaaGreat.Ps
open Go Go.RowKit Go.Sort
set_option linter.unusedVariables false

/-- In order by their heads. -/
def Heads (n : Nat) (us : List (List Sv)) : Prop := us.Pairwise (fun x y => 0 ≤ lexS (y.take n) (x.take n))
theorem lex_lt_of {x y : List Sv} (h : 0 ≤ lexS y x) (hne : x ≠ y) : lexS x y < 0 := by
  have h1 := lexS_swap x y
  have h2 : lexS x y ≠ 0 := fun e => hne (lexS_eq e)
  omega
theorem drop_gt (n : Nat) (t : List Sv) : ∀ (r : List (List Sv)), Heads n (t :: r) → ∀ x ∈ r.dropWhile (sameH n (t.take n)), lexS (t.take n) (x.take n) < 0
  | [], _, x, hx => by simp at hx
  | a :: r, hs, x, hx => by
    have hs' := List.pairwise_cons.1 hs
    have hs2 := List.pairwise_cons.1 hs'.2
    by_cases hp : sameH n (t.take n) a = true
    · rw [List.dropWhile_cons, if_pos hp] at hx
      exact drop_gt n t r (List.pairwise_cons.2 ⟨fun y hy => hs'.1 y (by simp [hy]), hs2.2⟩) x hx
    · rw [List.dropWhile_cons, if_neg hp] at hx
      have hne : t.take n ≠ a.take n := fun e => hp (by simp [sameH, e])
      have h1 := lex_lt_of (hs'.1 a (by simp)) hne
      rcases List.mem_cons.1 hx with rfl | hx
      · exact h1
      · by_cases he : a.take n = x.take n
        · rw [← he]; exact h1
        · exact lexS_trans h1 (lex_lt_of (hs2.1 x hx) he)
theorem while_mem {α : Type} (p : α → Bool) (l : List α) (x : α) : x ∈ l ↔ x ∈ l.takeWhile p ∨ x ∈ l.dropWhile p := by
  conv => lhs; rw [← List.takeWhile_append_dropWhile (p := p) (l := l)]
  exact List.mem_append
theorem take_while_mem {α : Type} (p : α → Bool) : ∀ (l : List α) (x : α), x ∈ l.takeWhile p → p x = true
  | [], x, h => by simp at h
  | a :: l, x, h => by
    by_cases hp : p a = true
    · rw [List.takeWhile_cons, if_pos hp] at h
      rcases List.mem_cons.1 h with rfl | h
      · exact hp
      · exact take_while_mem p l x h
    · rw [List.takeWhile_cons, if_neg hp] at h
      cases h
theorem heads_drop (n : Nat) (p : List Sv → Bool) : ∀ (r : List (List Sv)), Heads n r → Heads n (r.dropWhile p)
  | [], h => h
  | a :: r, h => by
    by_cases hp : p a = true
    · rw [List.dropWhile_cons, if_pos hp]; exact heads_drop n p r (List.pairwise_cons.1 h).2
    · rw [List.dropWhile_cons, if_neg hp]; exact h
/-- What the groups are. -/
theorem spans_spec (n : Nat) : ∀ (f : Nat) (us : List (List Sv)), us.length ≤ f → Heads n us →
    ((spans n f us).map Prod.fst).Pairwise (fun x y => lexS x y < 0) ∧ (∀ h, h ∈ (spans n f us).map Prod.fst ↔ ∃ t ∈ us, t.take n = h) ∧
      ∀ p ∈ spans n f us, ∀ y, y ∈ p.2 ↔ ∃ t ∈ us, t.take n = p.1 ∧ lastS n t = y
  | 0, us, hl, _ => by
    obtain rfl := List.eq_nil_of_length_eq_zero (Nat.le_zero.1 hl)
    simp [spans]
  | f + 1, [], _, _ => by simp [spans]
  | f + 1, t :: r, hl, hs => by
    have hdl := dropWhile_len (sameH n (t.take n)) r
    have ih := spans_spec n f (r.dropWhile (sameH n (t.take n))) (by simp at hl; omega) (heads_drop n _ r (List.pairwise_cons.1 hs).2)
    have hgt := drop_gt n t r hs
    have hw := while_mem (sameH n (t.take n)) r
    have ht : ∀ x, x ∈ r.takeWhile (sameH n (t.take n)) → x.take n = t.take n := fun x hx => of_decide_eq_true (p := x.take n = t.take n) (take_while_mem (sameH n (t.take n)) _ _ hx)
    obtain ⟨i1, i2, i3⟩ := ih
    have hself := lexS_self (t.take n)
    refine ⟨?_, ?_, ?_⟩
    · rw [spans, List.map_cons, List.pairwise_cons]
      refine ⟨fun h hh => ?_, i1⟩
      obtain ⟨u, hu, rfl⟩ := (i2 h).1 hh
      exact hgt u hu
    · intro h
      rw [spans, List.map_cons, List.mem_cons, i2 h]
      constructor
      · rintro (rfl | ⟨u, hu, rfl⟩)
        · exact ⟨t, by simp, rfl⟩
        · exact ⟨u, by simp [(hw u).2 (.inr hu)], rfl⟩
      · rintro ⟨u, hu, rfl⟩
        rcases List.mem_cons.1 hu with rfl | hu
        · exact .inl rfl
        · rcases (hw u).1 hu with hu | hu
          · exact .inl (ht u hu)
          · exact .inr ⟨u, hu, rfl⟩
    · intro p hp y
      rw [spans] at hp
      rcases List.mem_cons.1 hp with rfl | hp
      · simp only [List.mem_cons, List.mem_map]
        constructor
        · rintro (rfl | ⟨u, hu, rfl⟩)
          · exact ⟨t, .inl rfl, rfl, rfl⟩
          · exact ⟨u, .inr ((hw u).2 (.inl hu)), ht u hu, rfl⟩
        · rintro ⟨u, hu, h1, rfl⟩
          rcases hu with rfl | hu
          · exact .inl rfl
          · rcases (hw u).1 hu with hu | hu
            · exact .inr ⟨u, hu, rfl⟩
            · have := hgt u hu
              rw [h1, hself] at this
              omega
      · have hm : p.1 ∈ (spans n f (r.dropWhile (sameH n (t.take n)))).map Prod.fst := List.mem_map.2 ⟨p, hp, rfl⟩
        obtain ⟨u0, hu0, e0⟩ := (i2 p.1).1 hm
        have hlt := hgt u0 hu0
        rw [e0] at hlt
        rw [i3 p hp y]
        constructor
        · rintro ⟨u, hu, h1, h2⟩
          exact ⟨u, by simp [(hw u).2 (.inr hu)], h1, h2⟩
        · rintro ⟨u, hu, h1, h2⟩
          rcases List.mem_cons.1 hu with rfl | hu
          · rw [h1, lexS_self] at hlt; omega
          · rcases (hw u).1 hu with hu | hu
            · rw [← h1, ht u hu, hself] at hlt; omega
            · exact ⟨u, hu, h1, h2⟩

theorem even_len {ts : List (List Sv)} (hu : unevenP ts = false) : ∀ t ∈ ts, t.length = (ts.headD []).length - 1 + 1 := by
  intro t ht
  unfold unevenP at hu
  rw [List.any_eq_false] at hu
  have h := hu t ht
  simp only [decide_eq_true_eq] at h
  omega
theorem dropLast_take {n : Nat} {t : List Sv} (h : t.length = n + 1) : t.dropLast = t.take n := by
  rw [List.dropLast_eq_take, h]; rfl
theorem last_get {n : Nat} {t : List Sv} (h : t.length = n + 1) : t.getLastD z25 = lastS n t := by
  unfold lastS
  rw [List.getLastD_eq_getLast?, List.getLast?_eq_getElem?, h, Nat.add_sub_cancel, List.getElem?_eq_getElem (by omega), getElem!_pos t n (by omega)]
  rfl
theorem spans_set {ts us : List (List Sv)} {n : Nat} (hn : n = (ts.headD []).length - 1) (hu : unevenP ts = false) (hp : us.Perm ts) (hs : Heads n us) :
    (spans n us.length us).map Prod.fst = setT (ts.map List.dropLast) ∧ ∀ p ∈ spans n us.length us, ∀ kind, ofP kind p.2 = ofP kind (valsT p.1 ts) := by
  obtain ⟨h1, h2, h3⟩ := spans_spec n us.length us (Nat.le_refl _) hs
  have hev : ∀ t ∈ ts, t.length = n + 1 := fun t ht => by rw [hn]; exact even_len hu t ht
  refine ⟨sorted_one lexS_ord h1 (setC_sorted lexS_ord _) (fun h => ?_), fun p hm kind => ?_⟩
  · unfold setT
    rw [h2 h, mem_setC lexS_ord, List.mem_map]
    constructor
    · rintro ⟨t, ht, rfl⟩
      exact ⟨t, hp.mem_iff.1 ht, dropLast_take (hev t (hp.mem_iff.1 ht))⟩
    · rintro ⟨t, ht, rfl⟩
      exact ⟨t, hp.mem_iff.2 ht, (dropLast_take (hev t ht)).symm⟩
  · unfold ofP setL
    congr 1
    refine setC_congr cmpS_ord (fun y => ?_)
    rw [h3 p hm y]
    unfold valsT
    rw [List.mem_map]
    constructor
    · rintro ⟨t, ht, e1, e2⟩
      have ht' := hp.mem_iff.1 ht
      exact ⟨t, List.mem_filter.2 ⟨ht', decide_eq_true (by rw [dropLast_take (hev t ht'), e1]; exact lexS_self _)⟩, by rw [last_get (hev t ht'), e2]⟩
    · rintro ⟨t, ht, e⟩
      obtain ⟨ht1, ht2⟩ := List.mem_filter.1 ht
      have e1 := lexS_eq (of_decide_eq_true ht2)
      exact ⟨t, hp.mem_iff.2 ht1, by rw [← e1, dropLast_take (hev t ht1)], by rw [← last_get (hev t ht1), e]⟩

/-- What the groups so far are folded to. -/
def outsP (kind : Int) (pre : List Grp) : List (List Sv) := pre.map fun x => x.h ++ [(ofP kind x.vs).1]
theorem go_fine {kind : Int} {ts : List (List Sv)} : ∀ (xs : List Grp) (rest out : List (List Sv)), (∀ x ∈ xs, ofP kind x.vs = ofP kind (valsT x.h ts)) → (∀ x ∈ xs, (ofP kind x.vs).2 = 0) →
    goP kind ts (xs.map Grp.h ++ rest) out = goP kind ts rest (out ++ outsP kind xs)
  | [], rest, out, _, _ => by simp [outsP]
  | x :: xs, rest, out, h1, h2 => by
    rw [List.map_cons, List.cons_append, goP, ← h1 x (by simp), if_neg (by simp [h2 x (by simp)]), go_fine xs rest _ (fun y hy => h1 y (by simp [hy])) (fun y hy => h2 y (by simp [hy]))]
    simp [outsP]
theorem grp_vals {kind : Int} {ts us : List (List Sv)} {xs : List Grp} {n : Nat} (hn : n = (ts.headD []).length - 1) (hu : unevenP ts = false) (hp : us.Perm ts) (hs : Heads n us)
    (hsp : xs.map (fun x : Grp => (x.h, x.vs)) <+: spans n us.length us) : ∀ x ∈ xs, ofP kind x.vs = ofP kind (valsT x.h ts) := by
  intro x hx
  have hm : (x.h, x.vs) ∈ spans n us.length us := hsp.subset (List.mem_map.2 ⟨x, hx, rfl⟩)
  exact (spans_set hn hu hp hs).2 _ hm kind
theorem groups_fine {kind : Int} {ts us : List (List Sv)} {xs : List Grp} {n : Nat} (hn : n = (ts.headD []).length - 1) (hu : unevenP ts = false) (hp : us.Perm ts) (hs : us.Pairwise (fun x y => 0 ≤ lexS (y.take n) (x.take n)))
    (hsp : xs.map (fun x : Grp => (x.h, x.vs)) = spans n us.length us) (hf : ∀ x ∈ xs, (ofP kind x.vs).2 = 0) : groupsP kind ts = (outsP kind xs, 0) := by
  unfold groupsP
  rw [if_neg (by simp [hu]), ← (spans_set hn hu hp hs).1, ← hsp, List.map_map]
  have h := go_fine (kind := kind) (ts := ts) xs [] [] (grp_vals hn hu hp hs (by rw [hsp]; exact List.prefix_refl _)) hf
  rw [List.append_nil] at h
  simpa [goP, Function.comp_def] using h
theorem groups_err {kind : Int} {ts us : List (List Sv)} {xs : List Grp} {x : Grp} {n : Nat} (hn : n = (ts.headD []).length - 1) (hu : unevenP ts = false) (hp : us.Perm ts) (hs : us.Pairwise (fun x y => 0 ≤ lexS (y.take n) (x.take n)))
    (hsp : (xs ++ [x]).map (fun x : Grp => (x.h, x.vs)) <+: spans n us.length us) (hf : ∀ x ∈ xs, (ofP kind x.vs).2 = 0) (hx : (ofP kind x.vs).2 ≠ 0) : groupsP kind ts = ([], (ofP kind x.vs).2) := by
  unfold groupsP
  rw [if_neg (by simp [hu]), ← (spans_set hn hu hp hs).1]
  have hv := grp_vals (kind := kind) hn hu hp hs hsp
  obtain ⟨rest, hr⟩ := hsp
  rw [← hr, List.map_append, List.map_map]
  have h := go_fine (kind := kind) (ts := ts) xs (x.h :: rest.map Prod.fst) [] (fun y hy => hv y (by simp [hy])) hf
  rw [goP, ← hv x (by simp), if_pos hx] at h
  simpa [Function.comp_def] using h
end Go.Proofs.YtolefpeiceiocaaGreat.Ps
/- fold.Groups: GROUP BY GROUP, what the last values are folded to. Conditions: fewer than a million tuples, of values as Go may have them. -/
namespace Go.Proofs.YtolefpeiceiocaaGreat.Ps
open Go Go.RowKit Go.Proofs.YtolefpeiceiocaaGreatW.PrintWords Go.Proofs.YtolefpeiceiocaaGreatW.PrintLast Go.Lib Go.Sort Go.Proofs Go.Shelf
set_option linter.unusedVariables false

/-- A slice's place and lengths. -/
structure SlV where
  A : Option Addr
  n : Nat
  c : Nat
instance : Inhabited SlV := ⟨⟨none, 0, 0⟩⟩
def encV (x : SlV) : Value := .slice x.A x.n x.c
set_option maxHeartbeats 1000000 in
set_option maxRecDepth 100000 in
theorem uneven1 (bt : Nat) (b off m c n0 c0 : Nat) (A0 : Option Addr) (x : SlV) (W : World) (hm : 0 < m) (hbt : W.cell? ⟨bt, 0, none⟩ = some (.slice (some ⟨b, off, none⟩) m c)) (h0 : W.cell? ⟨b, off, none⟩ = some (.slice A0 n0 c0)) :
    FnGives Tryz.prog 30 #[.pointer (some ⟨bt, 0, none⟩)] #[encV x] (.bool (decide (x.n = 0 ∨ x.n ≠ n0))) W := by
  obtain ⟨A, n, cc⟩ := x
  show Calls Tryz.prog 30 #[.slice A n cc, .pointer (some ⟨bt, 0, none⟩)] W _
  have hm' : (0 : Int) < (m : Int) := by omega
  simp only
  by_cases h : n = 0
  · subst h
    go_enter Tryz.func30, Tryz.ntmps30
    go_wp2
    go_ret
    exact ⟨ret_bool (by simp), 0, rfl⟩
  · have g : ((n : Int) == 0) = false := beq_eq_false_iff_ne.2 (by omega)
    have H := Aside0.mk h
    clear h
    go_enter Tryz.func30, Tryz.ntmps30
    go_wp2
    go_ret
    refine ⟨ret_bool ?_, 0, rfl⟩
    have h := H.out
    by_cases e : n = n0
    · subst e; simp [h]
    · have : (n : Int) ≠ (n0 : Int) := by omega
      simp [e, this, bne]
theorem uneven_any (A : Option Addr) (c : Nat) (l : List (List Sv)) (bt : Nat) (W : World) (hl : l.length < 1000000) (hr : Kd.C (Kd.slice 25 k25) W A l.length l) (hbt : W.cell? ⟨bt, 0, none⟩ = some (.slice A l.length c)) :
    Calls Tryz.prog 29 #[.slice A l.length c, .func (.func 30) #[] #[.pointer (some ⟨bt, 0, none⟩)]] W fun e w' => e = .returned (.bool (unevenP l)) ∧ ∃ q, w' = W.drewN q := by
  rcases Nat.eq_zero_or_pos l.length with h0 | h0
  · obtain rfl := List.eq_nil_of_length_eq_zero h0
    have h := AnyE.slices_ContainsFunc_empty Tryz.containsVS A c (.func (.func 30) #[] #[.pointer (some ⟨bt, 0, none⟩)]) W
    exact h.mono fun e w' ⟨h1, h2⟩ => ⟨h1, 0, by rw [h2]; rfl⟩
  · have key : ∀ j (hj : j < l.length), ∃ (ad : Addr) (s : SlV), A = some ad ∧ s.n = l[j].length ∧ W.cell? (ad.add j) = some (encV s) := by
      intro j hj
      obtain ⟨ad, A0, c0, e, hcell, _, _⟩ := at_L3 hr (j : Int) (by omega) (by omega)
      have er : rd_L3 l (j : Int) = l[j] := by
        unfold rd_L3
        rw [List.getD_eq_getElem?_getD, Int.toNat_natCast, List.getElem?_eq_getElem hj]; rfl
      rw [er, Int.toNat_natCast] at hcell
      exact ⟨ad, ⟨A0, l[j].length, c0⟩, e, rfl, hcell⟩
    obtain ⟨⟨b, off, ix⟩, s0, rfl, hs0, hc0⟩ := key 0 h0
    have hix : ix = none := by
      have : (⟨b, off, ix⟩ : Addr).add 0 = ⟨b, off, ix⟩ := by unfold Addr.add; simp
      rw [this] at hc0
      exact spot_none hc0
    subst hix
    have key2 : ∀ i : Fin l.length, ∃ s : SlV, s.n = l[i].length ∧ W.cell? ⟨b, off + i.1, none⟩ = some (encV s) := by
      intro i
      obtain ⟨ad, s, e, h1, h2⟩ := key i.1 i.2
      cases e
      exact ⟨s, h1, by rwa [add_at] at h2⟩
    have hzl : (List.ofFn fun i => Classical.choose (key2 i)).length = l.length := by simp
    have hc1 : W.cell? ⟨b, off, none⟩ = some (encV s0) := by rwa [add_at, Nat.add_zero] at hc0
    have h := AnyE.slices_ContainsFunc Tryz.containsVS encV (fun x : SlV => decide (x.n = 0 ∨ x.n ≠ l[0].length)) 30 #[.pointer (some ⟨bt, 0, none⟩)] (enters_of Tryz.func30 (by kernel_rfl) rfl) b off l.length c (List.ofFn fun i => Classical.choose (key2 i)) W
      (fun W' x hb => by
        rw [← hs0]
        exact uneven1 bt b off l.length c s0.n s0.c s0.A x W' h0 ((hb.cell (p := ⟨bt, 0, none⟩) (lt_of_cell hbt)).trans hbt) ((hb.cell (p := ⟨b, off, none⟩) (lt_of_cell hc1)).trans hc1)) (by rw [hzl]; exact Nat.le_refl _) (by omega) (fun j hj => by
        rw [hzl] at hj
        have h2 := (Classical.choose_spec (key2 ⟨j, hj⟩)).2
        rw [h2, getElem!_pos _ j (by rw [hzl]; exact hj)]
        simp)
    have e : ((List.ofFn fun i => Classical.choose (key2 i)).take l.length).any (fun x : SlV => decide (x.n = 0 ∨ x.n ≠ l[0].length)) = unevenP l := by
      rw [List.take_of_length_le (by rw [hzl]; exact Nat.le_refl _)]
      unfold unevenP
      have hd : l.headD [] = l[0] := by cases l with | nil => simp at h0 | cons _ _ => rfl
      rw [hd, Bool.eq_iff_iff, List.any_eq_true, List.any_eq_true]
      constructor
      · rintro ⟨x, hx, hp⟩
        obtain ⟨i, rfl⟩ := List.mem_ofFn.1 hx
        exact ⟨l[i], List.getElem_mem _, by rw [← (Classical.choose_spec (key2 i)).1]; exact hp⟩
      · rintro ⟨t, ht, hp⟩
        obtain ⟨i, hi, rfl⟩ := List.mem_iff_getElem.1 ht
        exact ⟨_, List.mem_ofFn.2 ⟨⟨i, hi⟩, rfl⟩, by rw [(Classical.choose_spec (key2 ⟨i, hi⟩)).1]; exact hp⟩
    rw [e] at h
    exact h

set_option maxRecDepth 100000 in
theorem grouped_any (A : Option Addr) (m c : Nat) (w : World) : Calls Tryz.prog 31 #[.slice A m c] w fun e w' => e = .returned (.func (.func 51) #[] #[.pointer (some ⟨w.heap.size, 0, none⟩)]) ∧ w' = w.alloc (.cells #[.slice A m c] 34) := by
  go_enter Tryz.func31, Tryz.ntmps31
  go_wp2
  go_ret
  exact ⟨rfl, rfl⟩

/-- The caller's memory between two rounds: four boxes, one more for the slice, and its rows. -/
structure InvC (kind : Int) (w0 : World) (pre : List Grp) (W : World) (v : Value) : Prop where
  below : RowKit.Below w0.heap.size w0 W
  fine : ∀ x ∈ pre, (ofP kind x.vs).2 = 0
  kd : Boxed W w0.heap.size 3 (.int .i64 kind)
  r4 : Boxed W (w0.heap.size + 1 + 1) 34 (.slice none 0 0)
  r5 : Boxed W (w0.heap.size + 1 + 1 + 1) 26 (.int .i64 0)
  bx : Boxed W (w0.heap.size + 4) 34 v
  out : Kd.R (Kd.slice 25 k25) 22 W w0.heap.size (fun _ => True) v (outsP kind pre)
/-- .. and where a round has ended the call: the results' boxes hold the error. -/
structure InvX (kind : Int) (w0 : World) (pre : List Grp) (W : World) : Prop where
  below : RowKit.Below w0.heap.size w0 W
  out : ∃ (pre' : List Grp) (x : Grp), pre = pre' ++ [x] ∧ (∀ y ∈ pre', (ofP kind y.vs).2 = 0) ∧ (ofP kind x.vs).2 ≠ 0 ∧ Boxed W (w0.heap.size + 1 + 1) 34 (.slice none 0 0) ∧ Boxed W (w0.heap.size + 1 + 1 + 1) 26 (.int .i64 (ofP kind x.vs).2)
theorem Boxed.below {W W' : World} {B : Nat} {t : TypeId} {v : Value} (h : Boxed W B t v) (hb : RowKit.Below W.heap.size W W') : Boxed W' B t v := (hb.block B h.lt).trans h
theorem Boxed.from {W W' : World} {row : Option Nat} {B : Nat} {t : TypeId} {v : Value} (h : Boxed W B t v) (hg : W.grownBy W' row) (hr : ∀ r, row = some r → ∃ o : Obj, W.heap[r]? = some o ∧ o.isCells = false) : Boxed W' B t v :=
  h.kept hg fun e' => by
    obtain ⟨o, ho, hc⟩ := hr B e'.symm
    rw [show W.heap[B]? = _ from h] at ho
    cases ho
    cases hc
theorem outs_E : ∀ q, q ∈ 22 :: (Kd.slice 25 k25).E → q ≠ 34 := by
  show ∀ q, q ∈ [22, 25] → q ≠ 34
  decide
theorem InvC.step {kind : Int} {w0 : World} {pre : List Grp} {W W' : World} {v : Value} (h : InvC kind w0 pre W v) (hb : RowKit.Below W.heap.size W W') : InvC kind w0 pre W' v :=
  ⟨h.below.trans (hb.mono h.below.size), h.fine, Boxed.below h.kd hb, Boxed.below h.r4 hb, Boxed.below h.r5 hb, Boxed.below h.bx hb, Kd.R_below h.out hb⟩
theorem invC_own (kind : Int) (w0 : World) (B : Nat) (hB : w0.heap.size ≤ B) : OwnFrom B (fun pre W => ∃ v, InvC kind w0 pre W v) := by
  rintro pre X Y row ⟨v, h⟩ hg hr
  have hr' : ∀ r, row = some r → ∃ o : Obj, X.heap[r]? = some o ∧ o.isCells = false := fun r e => (hr r e).2
  refine ⟨v, ownFrom_below (β := Unit) (Nat.le_refl _) hB () X Y row h.below hg hr, h.fine, Boxed.from h.kd hg hr', Boxed.from h.r4 hg hr', Boxed.from h.r5 hg hr', Boxed.from h.bx hg hr', ?_⟩
  refine Kd.R_mono (Kd.R_step (Kd.R_bound h.out) (fun k hk hlt => hg.block k hlt (fun e => ?_))) (fun _ _ => trivial)
  obtain ⟨_, _, _, q, _, cells, hc⟩ := hk
  obtain ⟨o, ho, hcc⟩ := hr' k e.symm
  rw [hc] at ho
  cases ho
  cases hcc
theorem invX_own (kind : Int) (w0 : World) (B : Nat) (hB : w0.heap.size ≤ B) (c : Code) : OwnFrom B (fun pre W => c = .ret ∧ InvX kind w0 pre W) := by
  rintro pre X Y row ⟨hc, h⟩ hg hr
  have hr' : ∀ r, row = some r → ∃ o : Obj, X.heap[r]? = some o ∧ o.isCells = false := fun r e => (hr r e).2
  obtain ⟨pre', x, e, h1, h2, h3, h4⟩ := h.out
  exact ⟨hc, ownFrom_below (β := Unit) (Nat.le_refl _) hB () X Y row h.below hg hr, pre', x, e, h1, h2, Boxed.from h3 hg hr', Boxed.from h4 hg hr'⟩
theorem keeps_below {B : Nat} {W W' : World} (h : RowKit.Below W.heap.size W W') : KeepsFrom B W W' :=
  ⟨h.size, fun k o _ hk _ => (h.block k (Array.getElem?_eq_some_iff.1 hk).1).trans hk⟩
theorem keeps_set {B b : Nat} {W : World} {t : TypeId} {u : Value} (h : Boxed W b t u) (v : Value) : KeepsFrom B W (W.setCell ⟨b, 0, none⟩ v) := by
  refine ⟨by simp [World.setCell], fun k o _ hk ho => (Below.heap_setCell _ _ _ _ (fun e => ?_)).trans hk⟩
  have e' : k = b := e
  subst e'
  rw [show W.heap[k]? = _ from h] at hk
  cases hk
  cases ho
theorem keeps_grown {B : Nat} {W W' : World} {v : Value} {t : Nat} (hg : W.grownBy W' v.ownBlock) (ht : ∀ k, v.ownBlock = some k → ∃ cells, W.heap[k]? = some (.cells cells t (0, 0))) : KeepsFrom B W W' := by
  refine ⟨hg.size, fun k o _ hk ho => (hg.block k (Array.getElem?_eq_some_iff.1 hk).1 (fun e => ?_)).trans hk⟩
  obtain ⟨cells, hc⟩ := ht k e.symm
  rw [hc] at hk
  cases hk
  cases ho
theorem KpG.of_below {w0 : World} {ob c4 c5 : Nat} {W W' : World} (h : RowKit.Below W.heap.size W W') (hw : w0.heap.size ≤ W.heap.size) (hob : ob < W.heap.size) : KpG w0 ob c4 c5 W W' :=
  ⟨h.mono hw, fun k hk _ _ => h.block k hk, fun k hk => .inl (hk.of_below h hob)⟩
/-- A round that is done. -/
theorem InvC.done {B : Nat} {kind : Int} {w0 : World} {pre : List Grp} {x : Grp} {W2 W6 W7 : World} {v v9 : Value} (h : InvC kind w0 pre W2 v) (h6 : RowKit.Below W2.heap.size W2 W6) (hg : W6.grownBy W7 v.ownBlock)
    (hR : Kd.R (Kd.slice 25 k25) 22 W7 w0.heap.size (fun _ => True) v9 (outsP kind (pre ++ [x]))) (hat : v9.ownBlock = v.ownBlock ∨ ∃ b, v9.ownBlock = some b ∧ W6.heap.size ≤ b) (hx : (ofP kind x.vs).2 = 0) :
    InvC kind w0 (pre ++ [x]) (W7.setCell ⟨w0.heap.size + 4, 0, none⟩ v9) v9 ∧ KpG w0 (w0.heap.size + 4) (w0.heap.size + 1 + 1) (w0.heap.size + 1 + 1 + 1) W2 (W7.setCell ⟨w0.heap.size + 4, 0, none⟩ v9) ∧ KeepsFrom B W2 (W7.setCell ⟨w0.heap.size + 4, 0, none⟩ v9) := by
  have h' := h.step h6
  obtain ⟨inner, hown⟩ := Kd.R_own h'.out
  have ne : ∀ {b : Nat} {t : TypeId} {u : Value}, t ≠ 22 → Boxed W6 b t u → Boxed W7 b t u := fun ht hb => hb.kept hg (hb.not_row ht hown)
  have kd7 := ne (by decide) h'.kd
  have r47 := ne (by decide) h'.r4
  have r57 := ne (by decide) h'.r5
  have bx7 := ne (by decide) h'.bx
  have hb7 : RowKit.Below w0.heap.size W2 W7 := (h6.mono h.below.size).grown hg h'.below.size (fun k e => own_base hown k e)
  have hb8 : RowKit.Below w0.heap.size W2 (W7.setCell ⟨w0.heap.size + 4, 0, none⟩ v9) := hb7.setCell (by simp) _
  obtain ⟨A, m, c, hv⟩ : ∃ A m c, v = .slice A m c := by
    obtain ⟨A, c, e⟩ := Kd.R_slice h.out
    exact ⟨_, _, _, e⟩
  refine ⟨⟨h.below.trans hb8, ?_, kd7.other (by omega) _, r47.other (by omega) _, r57.other (by omega) _, bx7.set _, Kd.R_set hR bx7 outs_E 0 v9⟩, ⟨hb8, ?_, ?_⟩, ?_⟩
  · intro y hy
    rcases List.mem_append.1 hy with hy | hy
    · exact h.fine y hy
    · rw [List.mem_singleton.1 hy]; exact hx
  · intro k hk hcs hn
    have k1 : k ≠ w0.heap.size + 4 := fun e => hn (.inl e)
    rw [Below.heap_setCell _ _ _ _ k1]
    refine (hg.block k (Nat.lt_of_lt_of_le hk h6.size) (fun e => hn (.inr (.inr (.inr ?_))))).trans (h6.block k hk)
    rw [hv] at e
    cases A with
    | none => simp [Value.ownBlock] at e
    | some a =>
      refine ⟨a, m, c, by rw [← hv]; exact h.bx.cell, ?_⟩
      simpa [Value.ownBlock] using e.symm
  · intro k hk
    rcases hk with e | e | e | ⟨a, m', c', e1, e2⟩
    · exact .inl (.inl e)
    · exact .inl (.inr (.inl e))
    · exact .inl (.inr (.inr (.inl e)))
    · have e3 := (bx7.set v9).cell
      rw [e1] at e3
      have e4 : v9.ownBlock = some k := by
        rw [← Option.some.inj e3]
        simp [Value.ownBlock, e2]
      rcases hat with h1 | ⟨b, h1, h2⟩
      · refine .inl (.inr (.inr (.inr ?_)))
        rw [e4, hv] at h1
        cases A with
        | none => simp [Value.ownBlock] at h1
        | some a' =>
          refine ⟨a', m, c, by rw [← hv]; exact h.bx.cell, ?_⟩
          simpa [Value.ownBlock] using h1.symm
      · rw [e4] at h1
        cases h1
        exact .inr (Nat.le_trans h6.size h2)
  · exact ((keeps_below h6).trans (keeps_grown hg (own_typed hown))).trans (keeps_set bx7 _)
/-- A round that ends the call. -/
theorem InvC.err {B : Nat} {kind : Int} {w0 : World} {pre : List Grp} {x : Grp} {W2 : World} {v : Value} (h : InvC kind w0 pre W2 v) (hx : (ofP kind x.vs).2 ≠ 0) :
    InvX kind w0 (pre ++ [x]) ((W2.setCell ⟨w0.heap.size + 1 + 1, 0, none⟩ (.slice none 0 0)).setCell ⟨w0.heap.size + 1 + 1 + 1, 0, none⟩ (.int .i64 (ofP kind x.vs).2)) ∧
      KeepsFrom B W2 ((W2.setCell ⟨w0.heap.size + 1 + 1, 0, none⟩ (.slice none 0 0)).setCell ⟨w0.heap.size + 1 + 1 + 1, 0, none⟩ (.int .i64 (ofP kind x.vs).2)) := by
  have r5' := h.r5.other (B' := w0.heap.size + 1 + 1) (by omega) (.slice none 0 0)
  refine ⟨⟨(h.below.setCell (by simp only; omega) _).setCell (by simp only; omega) _, pre, x, rfl, h.fine, hx, (h.r4.set _).other (by omega) _, r5'.set _⟩, (keeps_set h.r4 _).trans (keeps_set r5' _)⟩

theorem two_results (w : World) (tmps : Array Value) (g4 g5 : Nat) (v e : Value) (hp4 : tmps.getD 4 undef = .pointer (some ⟨g4, 0, none⟩)) (hp5 : tmps.getD 5 undef = .pointer (some ⟨g5, 0, none⟩)) (h4 : w.cell? ⟨g4, 0, none⟩ = some v) (h5 : w.cell? ⟨g5, 0, none⟩ = some e) :
    (results Tryz.f12 tmps).run Tryz.prog w = .ok (.tuple #[v, e]) w := by
  have a4 := Tryz.isAgg34
  have a5 := Tryz.isAgg26
  have hr : Tryz.f12.results = #[.cell 4 34, .cell 5 26] := rfl
  have hp4' : tmps[4]?.getD undef = .pointer (some ⟨g4, 0, none⟩) := by simpa using hp4
  have hp5' : tmps[5]?.getD undef = .pointer (some ⟨g5, 0, none⟩) := by simpa using hp5
  simp only [results, hr]
  simp [loadVar, asAddr, a4, a5, h4, h5, hp4', hp5']
/-- The four boxes of a call. -/
structure Boxes4 (w W : World) (kind : Int) (s : Value) : Prop where
  g : Grown w W
  size : W.heap.size = w.heap.size + 4
  c0 : Boxed W w.heap.size 3 (.int .i64 kind)
  c1 : W.cell? ⟨w.heap.size + 1, 0, none⟩ = some s
  r4 : Boxed W (w.heap.size + 1 + 1) 34 (.slice none 0 0)
  r5 : Boxed W (w.heap.size + 1 + 1 + 1) 26 (.int .i64 0)
theorem boxes4 (w : World) (kind : Int) (s : Value) : Boxes4 w ((((w.alloc (.cells #[.int .i64 kind] 3)).alloc (.cells #[s] 34)).alloc (.cells #[.slice none 0 0] 34)).alloc (.cells #[.int .i64 0] 26)) kind s := by
  refine ⟨((((Grown.refl w).alloc _).alloc _).alloc _).alloc _, by simp, ?_, ?_, ?_, ?_⟩
  · exact (((Boxed.new w _ _).alloc _).alloc _).alloc _
  · exact cell?_alloc_some _ (cell?_alloc_some _ (box2 w _ _ _ _).2)
  · have h := World.alloc_heap_new ((w.alloc (.cells #[.int .i64 kind] 3)).alloc (.cells #[s] 34)) (.cells #[.slice none 0 0] 34)
    rw [World.size_alloc, World.size_alloc] at h
    exact (Below.heap_alloc _ _ _ (by simp)).trans h
  · have h := World.alloc_heap_new (((w.alloc (.cells #[.int .i64 kind] 3)).alloc (.cells #[s] 34)).alloc (.cells #[.slice none 0 0] 34)) (.cells #[.int .i64 0] 26)
    rw [World.size_alloc, World.size_alloc, World.size_alloc] at h
    exact h

theorem last_mem {n : Nat} {t : List Sv} (h : t.length = n + 1) : lastS n t ∈ t := by
  unfold lastS
  rw [getElem!_pos t n (by omega)]
  exact List.getElem_mem _
theorem last_ok {ts : List (List Sv)} {n : Nat} (hn : n = (ts.headD []).length - 1) (hu : unevenP ts = false) (hok : okLL ts) : ∀ y ∈ ts.map (lastS n), okS y := by
  intro y hy
  obtain ⟨t, ht, rfl⟩ := List.mem_map.1 hy
  exact (hok.2 t ht).2 _ (last_mem (by rw [hn]; exact even_len hu t ht))
theorem outs_E5 : ∀ q, q ∈ 22 :: (Kd.slice 25 k25).E → q ≠ 26 := by
  show ∀ q, q ∈ [22, 25] → q ≠ 26
  decide
theorem Boxed.put {W : World} {B l : Nat} {t : TypeId} {v : Value} {o o' : Obj} (h : Boxed W B t v) (hl : W.heap[l]? = some o) (ho : o.isCells = false) : Boxed (W.putObj l o') B t v :=
  Boxed.from h (grownBy_putObj' W l o') fun r e => by
    cases e
    exact ⟨o, hl, ho⟩
theorem R_put {W : World} {l base : Nat} {o o' : Obj} {v : Value} {xs : List (List Sv)} (h : Kd.R (Kd.slice 25 k25) 22 W base (fun _ => True) v xs) (hl : W.heap[l]? = some o) (ho : o.isCells = false) : Kd.R (Kd.slice 25 k25) 22 (W.putObj l o') base (fun _ => True) v xs := by
  refine Kd.R_mono (Kd.R_step (Kd.R_bound h) (fun k hk hlt => World.putObj_heap_other (fun e => ?_))) (fun _ _ => trivial)
  subst e
  obtain ⟨_, _, _, q, _, cells, hc⟩ := hk
  rw [hc] at hl
  cases hl
  cases ho
theorem below_put {w0 W : World} {l : Nat} {o o' : Obj} (h : RowKit.Below w0.heap.size w0 W) (hl : w0.heap.size ≤ l) (ho : W.heap[l]? = some o) : RowKit.Below w0.heap.size w0 (W.putObj l o') :=
  h.grown (grownBy_putObj' W l o') h.size fun k e => by
    cases e
    exact hl
set_option maxHeartbeats 1000000 in
set_option maxRecDepth 100000 in
theorem iter_empty (A : Option Addr) (c bx l : Nat) (W : World) (hbx : W.cell? ⟨bx, 0, none⟩ = some (.slice A 0 c)) :
    Calls Tryz.prog 51 #[.func (.yield l) #[] #[], .pointer (some ⟨bx, 0, none⟩)] W fun e W' => (∃ v, e = .returned v) ∧ Grown W W' := by
  have HCL := Aside0.mk (cloneVS A 0 c [] W rfl (by omega) (fun j u hj => by simp at hj) (fun u hu => by cases hu) (fun _ => rfl))
  go_enter Tryz.func51, Tryz.ntmps51
  go_wp2_with fail
  refine HCL.out.mono ?_
  rintro e w1 ⟨v, rfl, hown, hvn, hg1⟩
  have HG := Aside0.mk hg1
  have hv : ∃ A' c', v = .slice A' 0 c' := by
    rcases hown.2 with ⟨rfl, _⟩ | ⟨g, cap, _, rfl, _⟩
    · exact ⟨_, _, rfl⟩
    · exact ⟨_, _, rfl⟩
  obtain ⟨A', c', rfl⟩ := hv
  clear hown hvn hg1 HCL
  go_wp2_with fail
  refine bodyPost_ret (results_none rfl _ _ _) rfl ?_
  exact ⟨⟨_, rfl⟩, HG.out⟩
attribute [local go_sem] Oper.semAt_some
set_option maxHeartbeats 4000000 in
set_option maxRecDepth 1000000 in
theorem groups_walk (kind : Int) (A : Option Addr) (c : Nat) (ts : List (List Sv)) (w0 : World) (hok : okLL ts) (hr : Kd.C (Kd.slice 25 k25) w0 A ts.length ts)
    (hOf : ∀ (vs : List Sv) (A : Option Addr) (d : Nat) (W : World), okL vs → vs.length ≤ d → Kd.C k25 W A vs.length vs → Calls Tryz.prog 6 #[.int .i64 kind, .slice A vs.length d] W fun e w' => e = .returned (.tuple #[.agg #[.int .i64 (ofP kind vs).1.f0, .int .i64 (ofP kind vs).1.f1, .string (ofP kind vs).1.f2], .int .i64 (ofP kind vs).2]) ∧ RowKit.Below W.heap.size W w') :
    Calls Tryz.prog 12 #[.int .i64 kind, .slice A ts.length c] w0 fun e w' => ∃ v, e = .returned (.tuple #[v, .int .i64 (groupsP kind ts).2]) ∧ Kd.R (Kd.slice 25 k25) 22 w' w0.heap.size (fun _ => True) v (groupsP kind ts).1 ∧ RowKit.Below w0.heap.size w0 w' := by
  have HOF := Aside0.mk hOf
  clear hOf
  refine (callsIn_wide (n := 8)).1 (callsIn_of_wp_marks Tryz.func12 rfl trivial ?_ rfl)
  simp only [Tryz.ntmps12, List.size_toArray, List.length_cons, List.length_nil, Nat.reduceAdd, Nat.reduceSub, Array.replicate_succ, Array.replicate_zero, List.push_toArray, List.append_toArray, List.nil_append, List.cons_append]
  refine wpIn_wide.2 ?_
  go_wp2_with fail
  have h4 := boxes4 w0 kind (.slice A ts.length c)
  generalize ((((w0.alloc (.cells #[.int .i64 kind] 3)).alloc (.cells #[.slice A ts.length c] 34)).alloc (.cells #[.slice none 0 0] 34)).alloc (.cells #[.int .i64 0] 26)) = w4 at h4 ⊢
  refine (uneven_any A c ts (w0.heap.size + 1) w4 hok.1 (Kd.C_below hr h4.g.below) h4.c1).mono ?_
  rintro e w5 ⟨rfl, q5, rfl⟩
  have HB4 := Aside0.mk h4
  have HR := Aside0.mk hr
  have HOK := Aside0.mk hok
  clear h4 hr hok
  obtain ⟨w5, hw5⟩ : ∃ w5, w5 = w4.drewN q5 := ⟨_, rfl⟩
  rw [← hw5]
  have k1 : w5.cell? ⟨w0.heap.size + 1, 0, none⟩ = some (.slice A ts.length c) := by rw [hw5]; exact HB4.out.c1
  have hs5 : w5.heap.size = w0.heap.size + 4 := by rw [hw5]; exact HB4.out.size
  have K0 : Aside0 (Boxed w5 w0.heap.size 3 (.int .i64 kind)) := ⟨by rw [hw5]; exact HB4.out.c0⟩
  have R4 : Aside0 (Boxed w5 (w0.heap.size + 1 + 1) 34 (.slice none 0 0)) := ⟨by rw [hw5]; exact HB4.out.r4⟩
  have R5 : Aside0 (Boxed w5 (w0.heap.size + 1 + 1 + 1) 26 (.int .i64 0)) := ⟨by rw [hw5]; exact HB4.out.r5⟩
  have HG5 : Aside0 (Grown w0 w5) := ⟨by rw [hw5]; exact HB4.out.g.drewN _⟩
  have HS5 := Aside0.mk hs5
  clear hw5 HB4
  by_cases hu : unevenP ts = true
  · have HU : Aside0 (groupsP kind ts = ([], 1)) := ⟨by unfold groupsP; rw [if_pos hu]⟩
    rw [hu]
    clear hu
    have x4 := R4.out.cell
    have x5 := R5.out.cell
    have f4 := R4.out.frozen
    have f5 := R5.out.frozen
    go_wp2_with fail
    have r5' := R5.out.other (B' := w0.heap.size + 1 + 1) (by omega) (.slice none 0 0)
    refine ⟨_, two_results _ _ (w0.heap.size + 1 + 1) (w0.heap.size + 1 + 1 + 1) (.slice none 0 0) (.int .i64 1) rfl rfl ?_ ?_, ?_⟩
    · exact ((R4.out.set _).other (by omega) _).cell
    · exact (r5'.set _).cell
    · rw [HU.out]
      exact ⟨_, rfl, Kd.R_nil _ _ _ _ _, (HG5.out.below.setCell (by simp only; omega) _).setCell (by simp only; omega) _⟩
  · have hu' : unevenP ts = false := by simpa using hu
    rw [hu']
    have HU := Aside0.mk hu'
    clear hu hu'
    have x1 := cell?_alloc_some (.cells #[.slice none 0 0] 34) k1
    go_wp2_with fail
    refine (grouped_any _ _ _ _).mono ?_
    rintro e w7 ⟨rfl, rfl⟩
    go_wp2_with fail
    have hI0 : InvC kind w0 [] ((w5.alloc (.cells #[.slice none 0 0] 34)).alloc (.cells #[.slice A ts.length c] 34)) (.slice none 0 0) := by
      refine ⟨((HG5.out.alloc _).alloc _).below, (by simp), ((K0.out.alloc _).alloc _), ((R4.out.alloc _).alloc _), ((R5.out.alloc _).alloc _), ?_, Kd.R_nil _ _ _ _ _⟩
      have h := Boxed.new w5 34 (.slice none 0 0)
      rw [HS5.out] at h
      exact h.alloc _
    have hbx := Boxed.new (w5.alloc (.cells #[.slice none 0 0] 34)) 34 (.slice A ts.length c)
    rw [World.size_alloc, HS5.out] at hbx
    obtain ⟨WW, hWW⟩ : ∃ WW, WW = (w5.alloc (.cells #[.slice none 0 0] 34)).alloc (.cells #[.slice A ts.length c] 34) := ⟨_, rfl⟩
    rw [← hWW] at hI0 hbx ⊢
    have hWs : WW.heap.size = w0.heap.size + 6 := by rw [hWW]; simp [HS5.out]
    have HI0 := Aside0.mk hI0
    have HBX := Aside0.mk hbx
    have HWS := Aside0.mk hWs
    clear hWW hI0 hbx hWs x1 k1 hs5 K0 R4 R5 HG5 HS5
    obtain ⟨n, hn⟩ : ∃ n, n = (ts.headD []).length - 1 := ⟨_, rfl⟩
    have HN := Aside0.mk hn
    clear hn
    refine range_M (gf := 51) (lb := #[.pointer (some ⟨w0.heap.size + 4 + 1, 0, none⟩)]) rfl (fun _ _ => rfl)
      (encs := encG) (M := MemG n (ts.map (lastS n))) (Kp := KpG w0 (w0.heap.size + 4) (w0.heap.size + 1 + 1) (w0.heap.size + 1 + 1 + 1))
      (S := fun xs => ∃ us, us.Perm ts ∧ us.Pairwise (fun x y => 0 ≤ lexS (y.take n) (x.take n)) ∧ xs.map (fun x : Grp => (x.h, x.vs)) = spans n us.length us)
      (Sp := fun xs => ∃ us, us.Perm ts ∧ us.Pairwise (fun x y => 0 ≤ lexS (y.take n) (x.take n)) ∧ xs.map (fun x : Grp => (x.h, x.vs)) <+: spans n us.length us)
      (N := ts.length) ?hseq (fun h k => h.trans k) (fun W l o o' hl ho hc _ => KpG.put (w := WW) (by have := HWS.out; omega) (by have := HWS.out; omega) W l o o' hl ho hc) (fun _ => rfl)
      (fun pre W => ∃ v, InvC kind w0 pre W v) (fun c pre W => c = .ret ∧ InvX kind w0 pre W) (invC_own _ _ _ (by have := HWS.out; omega)) (invX_own _ _ _ (by have := HWS.out; omega)) (memG_own _ _ _) ⟨_, HI0.out⟩
      (fun x => { tmps := #[.int .i64 kind, .slice A ts.length c, .pointer (some ⟨w0.heap.size, 0, none⟩), .pointer (some ⟨w0.heap.size + 1, 0, none⟩), .pointer (some ⟨w0.heap.size + 1 + 1, 0, none⟩), .pointer (some ⟨w0.heap.size + 1 + 1 + 1, 0, none⟩), .pointer (some ⟨w0.heap.size + 4, 0, none⟩), x.hv, x.vv, undef, undef, .slice A ts.length c, .func (.func 30) #[] #[.pointer (some ⟨w0.heap.size + 1, 0, none⟩)], .bool false, .slice A ts.length c, .func (.func 51) #[] #[.pointer (some ⟨w0.heap.size + 4 + 1, 0, none⟩)], x.hv, x.vv, undef, undef, undef, undef, undef, undef, undef, undef, undef, undef, undef, undef, undef, undef, undef, undef, undef, undef], defers := [] }) ?hassign ?hbody ?hdone ?hstop
    case hseq =>
      intro l J Jx W hB hJ hJx hY hJ0
      have hsz := HWS.out
      have hW : RowKit.Below w0.heap.size w0 W := HI0.out.below.trans (hB.mono (by omega))
      have hbx := (Boxed.below HBX.out hB).cell
      have hnil := (Boxed.below HI0.out.bx hB).cell
      have hs2 := hB.size
      rcases Nat.eq_zero_or_pos ts.length with h0 | h0
      · obtain rfl := List.eq_nil_of_length_eq_zero h0
        refine (iter_empty A c (w0.heap.size + 4 + 1) l W hbx).mono ?_
        rintro e W' ⟨h1, hg⟩
        exact ⟨h1, .inl ⟨[], ⟨[], .refl _, .nil, rfl⟩, abides_grown hJ (Nat.le_refl _) hJ0 hg⟩⟩
      · have hev : ∀ t ∈ ts, t.length = n + 1 := fun t ht => by rw [HN.out]; exact even_len HU.out t ht
        have hl1 := (HOK.out.2 _ (List.getElem_mem h0)).1
        have hl2 := hev _ (List.getElem_mem h0)
        obtain ⟨rs, hrs, hcell⟩ := refs_of (n := n) HR.out hev
        have hlen : rs.length = ts.length := by rw [← hrs]; simp
        have h := iter_walk w0 n 0 rs A c (w0.heap.size + 4 + 1) (w0.heap.size + 4) (w0.heap.size + 1 + 1) (w0.heap.size + 1 + 1 + 1) l W J Jx (by omega) (by have := HOK.out.1; omega) (by omega) hW hcell (by rw [hlen]; exact hbx) hJ ⟨by omega, by omega, by omega⟩ hnil (by rw [hrs, hlen]; exact hY) hJ0
        rw [hrs] at h
        exact h
    case hassign =>
      intro l x W K hK
      dsimp only [encG]
      gi_wp2
      exact hK
    case hbody =>
      rintro l pre ⟨hv, vv, hh, vs⟩ W ⟨v, hI⟩ hM hlen
      obtain ⟨b, off, c1, A1, d, eh, hhl, hch, hle, ev, hcv, hld, hvl, hmem⟩ := hM
      dsimp only at eh hhl hch hle ev hcv hld hvl hmem
      subst eh ev
      have k0 := hI.kd.cell
      have HCV := Aside0.mk hcv
      have HCH := Aside0.mk hch
      have HI := Aside0.mk hI
      have HLD := Aside0.mk hld
      have HLE := Aside0.mk hle
      have HHL := Aside0.mk hhl
      have HVL := Aside0.mk hvl
      have HLEN := Aside0.mk hlen
      have HME := Aside0.mk hmem
      clear hcv hch hI hld hle hhl hvl hlen hmem
      have HOKV : Aside0 (okL vs) := ⟨HVL.out, fun y hy => last_ok HN.out HU.out HOK.out y (HME.out y hy)⟩
      gi_wp2
      refine ⟨trivial, ?_⟩
      refine (CallsIn.inRound l (callsIn_wide.2 (HOF.out vs A1 d W HOKV.out HLD.out HCV.out.C))).mono ?_
      rintro e w2 ⟨rfl, hb2⟩
      obtain ⟨r, hr⟩ : ∃ r, r = ofP kind vs := ⟨_, rfl⟩
      rw [← hr]
      have HRR := Aside0.mk hr
      have HB2 := Aside0.mk hb2
      clear hr hb2 k0
      obtain ⟨⟨f0, f1, f2⟩, re⟩ := r
      dsimp only
      have hb3 : RowKit.Below W.heap.size W (w2.alloc (.cells #[.int .i64 f0, .int .i64 f1, .string f2] 25)) := HB2.out.alloc HB2.out.size _
      have HI2 := Aside0.mk (HI.out.step hb3)
      have HB3 := Aside0.mk hb3
      clear hb3
      by_cases hre : re = 0
      · subst hre
        have hx : (ofP kind vs).2 = 0 := by rw [← HRR.out]
        have hy : (ofP kind vs).1 = ⟨f0, f1, f2⟩ := by rw [← HRR.out]
        have HX := Aside0.mk hx
        have HY := Aside0.mk hy
        obtain ⟨W2, hW2⟩ : ∃ W2, W2 = w2.alloc (.cells #[.int .i64 f0, .int .i64 f1, .string f2] 25) := ⟨_, rfl⟩
        have hz := World.alloc_heap_new w2 (.cells #[.int .i64 f0, .int .i64 f1, .string f2] 25)
        rw [← hW2] at HI2 HB3 hz
        have z0 : W2.cell? ⟨w2.heap.size, 0, none⟩ = some (.int .i64 f0) := by simp [World.cell?, hz]
        have z1 : W2.cell? ⟨w2.heap.size, 1, none⟩ = some (.int .i64 f1) := by simp [World.cell?, hz]
        have z2 : W2.cell? ⟨w2.heap.size, 2, none⟩ = some (.string f2) := by simp [World.cell?, hz]
        have z3 := HI2.out.bx.cell
        have SK : Aside0 (∀ W', Grown W2 W' → W'.cell? ⟨w0.heap.size + 4, 0, none⟩ = some v ∧ W'.cell? ⟨w2.heap.size, 0, none⟩ = some (.int .i64 f0) ∧ W'.cell? ⟨w2.heap.size, 1, none⟩ = some (.int .i64 f1) ∧ W'.cell? ⟨w2.heap.size, 2, none⟩ = some (.string f2)) :=
          ⟨fun W' h => ⟨grown_cell h _ _ z3, grown_cell h _ _ z0, grown_cell h _ _ z1, grown_cell h _ _ z2⟩⟩
        have HCH2 := Aside0.mk (HCH.out.kept (fun a u hc => (HB3.out.cell (p := a) (lt_of_cell hc)).trans hc))
        have HZ := Aside0.mk hz
        have HN9 : Aside0 (n < 1000000) := ⟨by
          have hl := HLEN.out
          have h0 : 0 < ts.length := by omega
          have h1 := (HOK.out.2 _ (List.getElem_mem h0)).1
          have h2 := even_len HU.out _ (List.getElem_mem h0)
          rw [← HN.out] at h2
          omega⟩
        clear hx hy hz z0 z1 z2 z3
        have mixed : Tryz.prog.follows Departure.mixedOrders = true := by kernel_rfl
        gi_wp2
        rw [← hW2]
        generalize w2.heap.size = vb at SK HZ ⊢
        clear hW2
        refine wpIn_region_lastR (fun W' => W'.cell? ⟨w0.heap.size + 4, 0, none⟩ = some v ∧ W'.cell? ⟨vb, 0, none⟩ = some (.int .i64 f0) ∧ W'.cell? ⟨vb, 1, none⟩ = some (.int .i64 f1) ∧ W'.cell? ⟨vb, 2, none⟩ = some (.string f2)) 8 mixed (by intro o ho c; simp at ho; rcases ho with rfl | rfl | rfl | rfl | rfl | rfl | rfl | rfl | rfl <;> simp) (fun ⟨_, _, h⟩ => h.elim) ?_
        refine (?_ : wpAnyX _ _ _ _ _ _ 9 _ _ _)
        refine wpAnyX_take (i := 0) (oi := { dst := some 27, op := Op.load 34 (Operand.tmp 6), type := 34, pos := "fold.go:137", after := #[], guard := none }) (v := v) rfl (by kernel_rfl) (by kernel_rfl) (by kernel_rfl) (by kernel_rfl) (fun _ _ _ h => h) (Or.inl ⟨by rfl, ?_⟩) (SK.out _ (Grown.refl _).drew) ?_
        · rintro w ⟨s0, s1, s2, s3⟩
          go_simp
        simp only [Act.put, List.setIfInBounds_toArray, List.set_cons_zero, List.set_cons_succ]
        refine wpAnyX_take (i := 1) (oi := { dst := some 28, op := Op.move (Operand.tmp 7), type := 22, pos := "fold.go:137", after := #[], guard := none }) (v := .slice (some ⟨b, off, none⟩) n c1) rfl (by kernel_rfl) (by kernel_rfl) (by kernel_rfl) (by kernel_rfl) (fun _ _ _ h => h) (Or.inl ⟨by rfl, ?_⟩) (SK.out _ (Grown.refl _).drew) ?_
        · rintro w ⟨s0, s1, s2, s3⟩
          go_simp
        simp only [Act.put, List.setIfInBounds_toArray, List.set_cons_zero, List.set_cons_succ]
        refine wpAnyX_take (i := 3) (oi := { dst := some 30, op := Op.load 25 (Operand.tmp 9), type := 25, pos := "fold.go:137", after := #[], guard := none }) (v := .agg #[.int .i64 f0, .int .i64 f1, .string f2]) rfl (by kernel_rfl) (by kernel_rfl) (by kernel_rfl) (by kernel_rfl) (fun _ _ _ h => h) (Or.inl ⟨by rfl, ?_⟩) (SK.out _ (Grown.refl _).drew) ?_
        · rintro w ⟨s0, s1, s2, s3⟩
          go_simp
        simp only [Act.put, List.setIfInBounds_toArray, List.set_cons_zero, List.set_cons_succ]
        obtain ⟨i0, hi0, hz0, hz1, hz2⟩ := info_parts Prog.infoV
        refine wpAnyX_two (i := 2) (j := 4) (by kernel_rfl) ?_ ?_
        · refine wpOp_of_list (o := { dst := some 29, op := Op.call { callee := Callee.value (Operand.func 25), args := #[Operand.tmp 28], argTypes := #[22] }, type := 22, pos := "fold.go:137", after := #[{ on := 1, ground := Ground.data }], guard := none }) rfl ?_
          go_wp2_with fail
          refine (cloneV (some ⟨b, off, none⟩) n c1 (flatS hh) _ (by rw [flatS_len, HHL.out]) (by have := HN9.out; omega) (HCH2.out.kept (grown_cell (Grown.refl _).drew)).2 (flatS_one hh) (fun e => by cases e)).mono ?_
          rintro e w3 ⟨v3, rfl, hown3, hnil3, hg3⟩
          have G3 := Aside0.mk ((Grown.refl W2).drew.trans hg3)
          have O3 := Aside0.mk hown3
          clear hown3 hnil3 hg3
          go_wp2
          refine ⟨fun _ => SK.out _ G3.out, ?_⟩
          try simp only [Act.put, List.setIfInBounds_toArray, List.set_cons_zero, List.set_cons_succ]
          refine wpAnyX_one (i := 4) (by kernel_rfl) ?_
          refine wpOp_of_list (o := { dst := some 31, op := Op.buildSlice 22 1 #[(0, Operand.tmp 30)], type := 22, pos := "fold.go:137", after := #[{ on := 3, ground := Ground.data }], guard := none }) rfl ?_
          go_wp2
          refine ⟨fun _ => SK.out _ (G3.out.alloc _), ?_⟩
          try simp only [Act.put, List.setIfInBounds_toArray, List.set_cons_zero, List.set_cons_succ]
          have G4 := Aside0.mk (G3.out.alloc (.cells #[.int .i64 f0, .int .i64 f1, .string f2] 25))
          have O4 := Aside0.mk (own_weaken (base' := W2.heap.size) (own_step O3.out ((Grown.refl w3).alloc (.cells #[.int .i64 f0, .int .i64 f1, .string f2] 25))) (Nat.le_refl _))
          have B4 := Aside0.mk (cells_new3 w3 ⟨f0, f1, f2⟩ 25)
          dsimp only at B4
          generalize w3.alloc (.cells #[.int .i64 f0, .int .i64 f1, .string f2] 25) = w4 at G4 O4 B4 ⊢
          generalize w3.heap.size = p4 at B4 ⊢
          clear G3 O3
          refine wpAnyX_one (i := 5) (by kernel_rfl) ?_
          refine wpOp_of_step (o := { dst := some 32, op := Op.call { callee := Callee.builtin Builtin.append, args := #[Operand.tmp 29, Operand.tmp 31], argTypes := #[22, 22] }, type := 22, pos := "fold.go:137", after := #[{ on := 2, ground := Ground.data }, { on := 4, ground := Ground.data }, { on := 2, ground := Ground.chain }], guard := none }) rfl ?_
          refine append_step_d _ (by rfl) (.tmp 29) (.tmp 31) 22 (by rfl) W2.heap.size 25 i0 _ 3 32 Tryz.underlying22 hi0 hz0 hz1 hz2 rfl (by decide) v3 n (flatS hh) rfl O4.out ⟨p4, 0, none⟩ 1 1 (encS ⟨f0, f1, f2⟩) rfl rfl B4.out (encS_one _) (by unfold maxLen; have := HN9.out; omega) (by have := HN9.out; omega) G4.out.size ?_
          intro v5 w5 hown5 hgr5 hnil5 hdr5
          have G5 := Aside0.mk (vals_grown G4.out O4.out (Grown.refl _) hgr5 hdr5)
          obtain ⟨g5, cap5, rfl⟩ := own_succ hown5
          have O5 := Aside0.mk hown5
          clear hown5 hgr5 hnil5 hdr5
          refine ⟨fun _ => SK.out _ G5.out, ?_⟩
          simp only [Act.put, List.setIfInBounds_toArray, List.set_cons_zero, List.set_cons_succ]
          refine wpAnyX_one (i := 6) (by kernel_rfl) ?_
          refine wpOp_of_list (o := { dst := some 33, op := Op.buildSlice 34 1 #[(0, Operand.tmp 32)], type := 34, pos := "fold.go:137", after := #[{ on := 5, ground := Ground.data }], guard := none }) rfl ?_
          go_wp2
          refine ⟨fun _ => SK.out _ (G5.out.alloc _), ?_⟩
          try simp only [Act.put, List.setIfInBounds_toArray, List.set_cons_zero, List.set_cons_succ]
          refine wpAnyX_one (i := 7) (by kernel_rfl) ?_
          refine wpOp_of_step (o := { dst := some 34, op := Op.call { callee := Callee.builtin Builtin.append, args := #[Operand.tmp 27, Operand.tmp 33], argTypes := #[34, 34] }, type := 34, pos := "fold.go:137", after := #[{ on := 0, ground := Ground.data }, { on := 6, ground := Ground.data }, { on := 5, ground := Ground.chain }], guard := none }) rfl ?_
          have HO5 := Kd.R_below HI2.out.out G5.out.below
          refine Kd.R_append_step (Kd.slice 25 k25) (w0 := w0) (W := w5) w0.heap.size (by rfl) (.tmp 27) (.tmp 33) 34 22 (.slice none 0 0) 24 (by rfl) Tryz.underlying34 Prog.infoVS rfl (by decide) (by decide) v (outsP kind pre) (hh ++ [⟨f0, f1, f2⟩]) [.slice (some ⟨g5, 0, none⟩) (n + 1) cap5] (fun _ => True) (fun k => some k = (Value.slice (some ⟨g5, 0, none⟩) (n + 1) cap5).ownBlock) rfl rfl ?hp ?hokp (fun _ _ => trivial) HO5 (HI2.out.below.trans (G5.out.below.mono HI2.out.below.size)) (Nat.le_trans HI2.out.below.size G5.out.size) (by have := HLEN.out; have := HOK.out.1; simp [outsP]; omega) ?rest7
          case hp =>
            refine ⟨_, rfl, R_of_own3 (n := n + 1) (own_weaken (by rw [flatS_snoc]; exact O5.out) HI2.out.below.size) (fun k hk => hk.symm)⟩
          case hokp =>
            intro k hk
            refine ⟨trivial, fun e => ?_⟩
            obtain ⟨c9, hc9⟩ := own_typed O5.out k hk.symm
            obtain ⟨c8, hc8⟩ := Kd.R_typed HO5 k e.symm
            rw [hc9] at hc8
            have h9 := congrArg (fun o => match o with | some (Obj.cells _ t _) => t | _ => 0) hc8
            have h10 : (25 : Nat) = 22 := h9
            exact absurd h10 (by decide)
          case rest7 =>
            intro v7 w7 hR7 hb7 hg7 hat7
            have h5 := HI2.out.step G5.out.below
            obtain ⟨inner7, hown7⟩ := Kd.R_own h5.out
            have bx7 := h5.bx.kept hg7 (h5.bx.not_row (by decide) hown7)
            have zz5 := (G5.out.below.block vb (Array.getElem?_eq_some_iff.1 HZ.out).1).trans HZ.out
            have zz7 := (hg7.block vb (Array.getElem?_eq_some_iff.1 zz5).1 (Kd.R_ne h5.out zz5 (by decide))).trans zz5
            obtain ⟨A7, c7, e7⟩ := Kd.R_slice hR7
            rw [List.length_append, List.length_singleton] at e7
            subst e7
            have b7 := bx7.cell
            have b8 := bx7.frozen
            refine ⟨fun _ => ⟨b7, by simp [World.cell?, zz7], by simp [World.cell?, zz7], by simp [World.cell?, zz7]⟩, ?_⟩
            simp only [Act.put, List.setIfInBounds_toArray, List.set_cons_zero, List.set_cons_succ]
            have HR7 := Aside0.mk hR7
            have HG7 := Aside0.mk hg7
            have HAT := Aside0.mk hat7
            clear hR7 hb7 hg7 hat7 h5 hown7 bx7 zz5 zz7 HO5
            refine wpAnyX_one (i := 8) (by kernel_rfl) ?_
            refine wpOp_of_list (o := { dst := none, op := Op.store 34 (Operand.tmp 6) (Operand.tmp 34), type := 0, pos := "fold.go:137", after := #[{ on := 7, ground := Ground.data }, { on := 7, ground := Ground.chain }, { on := 0, ground := Ground.phase }, { on := 1, ground := Ground.phase }, { on := 2, ground := Ground.phase }, { on := 3, ground := Ground.phase }, { on := 4, ground := Ground.phase }, { on := 5, ground := Ground.phase }, { on := 6, ground := Ground.phase }, { on := 7, ground := Ground.phase }], guard := none }) rfl ?_
            go_wp2
            refine ⟨fun h => absurd rfl h, wpAnyX_done (by kernel_rfl) ?_ _⟩
            have hd := HI2.out.done (B := WW.heap.size) (x := ⟨.slice (some ⟨b, off, none⟩) n c1, .slice A1 vs.length d, hh, vs⟩) G5.out.below HG7.out (by simpa [outsP, HY.out] using HR7.out) HAT.out HX.out
            exact ⟨(keeps_below HB3.out).trans hd.2.2, (KpG.of_below HB3.out HI.out.below.size HI.out.bx.lt).trans hd.2.1, _, hd.1⟩
        · refine wpOp_of_list (o := { dst := some 31, op := Op.buildSlice 22 1 #[(0, Operand.tmp 30)], type := 22, pos := "fold.go:137", after := #[{ on := 3, ground := Ground.data }], guard := none }) rfl ?_
          go_wp2
          refine ⟨fun _ => SK.out _ ((Grown.refl _).alloc _).drew, ?_⟩
          try simp only [Act.put, List.setIfInBounds_toArray, List.set_cons_zero, List.set_cons_succ]
          have G3 := Aside0.mk (((Grown.refl W2).alloc (.cells #[.int .i64 f0, .int .i64 f1, .string f2] 25)).drew)
          have B3 := Aside0.mk (fun j u hj => grown_cell (Grown.refl _).drew _ _ (cells_new3 W2 ⟨f0, f1, f2⟩ 25 j u hj))
          dsimp only at B3
          generalize (W2.alloc (.cells #[.int .i64 f0, .int .i64 f1, .string f2] 25)).drew = w3 at G3 B3 ⊢
          refine wpAnyX_one (i := 2) (by kernel_rfl) ?_
          refine wpOp_of_list (o := { dst := some 29, op := Op.call { callee := Callee.value (Operand.func 25), args := #[Operand.tmp 28], argTypes := #[22] }, type := 22, pos := "fold.go:137", after := #[{ on := 1, ground := Ground.data }], guard := none }) rfl ?_
          go_wp2_with fail
          refine (cloneV (some ⟨b, off, none⟩) n c1 (flatS hh) _ (by rw [flatS_len, HHL.out]) (by have := HN9.out; omega) (HCH2.out.kept (grown_cell G3.out)).2 (flatS_one hh) (fun e => by cases e)).mono ?_
          rintro e w4 ⟨v3, rfl, hown3, hnil3, hg3⟩
          have G4 := Aside0.mk (G3.out.trans hg3)
          have O4 := Aside0.mk (own_weaken (base' := W2.heap.size) hown3 G3.out.size)
          have B4 := Aside0.mk (fun j u hj => grown_cell hg3 _ _ (B3.out j u hj))
          clear hown3 hnil3 hg3
          go_wp2
          refine ⟨fun _ => SK.out _ G4.out, ?_⟩
          try simp only [Act.put, List.setIfInBounds_toArray, List.set_cons_zero, List.set_cons_succ]
          generalize hp4 : W2.heap.size = p4 at B4 ⊢
          clear G3 B3
          refine wpAnyX_one (i := 5) (by kernel_rfl) ?_
          refine wpOp_of_step (o := { dst := some 32, op := Op.call { callee := Callee.builtin Builtin.append, args := #[Operand.tmp 29, Operand.tmp 31], argTypes := #[22, 22] }, type := 22, pos := "fold.go:137", after := #[{ on := 2, ground := Ground.data }, { on := 4, ground := Ground.data }, { on := 2, ground := Ground.chain }], guard := none }) rfl ?_
          refine append_step_d _ (by rfl) (.tmp 29) (.tmp 31) 22 (by rfl) W2.heap.size 25 i0 _ 3 32 Tryz.underlying22 hi0 hz0 hz1 hz2 rfl (by decide) v3 n (flatS hh) rfl O4.out ⟨p4, 0, none⟩ 1 1 (encS ⟨f0, f1, f2⟩) rfl rfl B4.out (encS_one _) (by unfold maxLen; have := HN9.out; omega) (by have := HN9.out; omega) G4.out.size ?_
          intro v5 w5 hown5 hgr5 hnil5 hdr5
          have G5 := Aside0.mk (vals_grown G4.out O4.out (Grown.refl _) hgr5 hdr5)
          obtain ⟨g5, cap5, rfl⟩ := own_succ hown5
          have O5 := Aside0.mk hown5
          clear hown5 hgr5 hnil5 hdr5
          refine ⟨fun _ => SK.out _ G5.out, ?_⟩
          simp only [Act.put, List.setIfInBounds_toArray, List.set_cons_zero, List.set_cons_succ]
          refine wpAnyX_one (i := 6) (by kernel_rfl) ?_
          refine wpOp_of_list (o := { dst := some 33, op := Op.buildSlice 34 1 #[(0, Operand.tmp 32)], type := 34, pos := "fold.go:137", after := #[{ on := 5, ground := Ground.data }], guard := none }) rfl ?_
          go_wp2
          refine ⟨fun _ => SK.out _ (G5.out.alloc _), ?_⟩
          try simp only [Act.put, List.setIfInBounds_toArray, List.set_cons_zero, List.set_cons_succ]
          refine wpAnyX_one (i := 7) (by kernel_rfl) ?_
          refine wpOp_of_step (o := { dst := some 34, op := Op.call { callee := Callee.builtin Builtin.append, args := #[Operand.tmp 27, Operand.tmp 33], argTypes := #[34, 34] }, type := 34, pos := "fold.go:137", after := #[{ on := 0, ground := Ground.data }, { on := 6, ground := Ground.data }, { on := 5, ground := Ground.chain }], guard := none }) rfl ?_
          have HO5 := Kd.R_below HI2.out.out G5.out.below
          refine Kd.R_append_step (Kd.slice 25 k25) (w0 := w0) (W := w5) w0.heap.size (by rfl) (.tmp 27) (.tmp 33) 34 22 (.slice none 0 0) 24 (by rfl) Tryz.underlying34 Prog.infoVS rfl (by decide) (by decide) v (outsP kind pre) (hh ++ [⟨f0, f1, f2⟩]) [.slice (some ⟨g5, 0, none⟩) (n + 1) cap5] (fun _ => True) (fun k => some k = (Value.slice (some ⟨g5, 0, none⟩) (n + 1) cap5).ownBlock) rfl rfl ?hp ?hokp (fun _ _ => trivial) HO5 (HI2.out.below.trans (G5.out.below.mono HI2.out.below.size)) (Nat.le_trans HI2.out.below.size G5.out.size) (by have := HLEN.out; have := HOK.out.1; simp [outsP]; omega) ?rest7
          case hp =>
            refine ⟨_, rfl, R_of_own3 (n := n + 1) (own_weaken (by rw [flatS_snoc]; exact O5.out) HI2.out.below.size) (fun k hk => hk.symm)⟩
          case hokp =>
            intro k hk
            refine ⟨trivial, fun e => ?_⟩
            obtain ⟨c9, hc9⟩ := own_typed O5.out k hk.symm
            obtain ⟨c8, hc8⟩ := Kd.R_typed HO5 k e.symm
            rw [hc9] at hc8
            have h9 := congrArg (fun o => match o with | some (Obj.cells _ t _) => t | _ => 0) hc8
            have h10 : (25 : Nat) = 22 := h9
            exact absurd h10 (by decide)
          case rest7 =>
            intro v7 w7 hR7 hb7 hg7 hat7
            have h5 := HI2.out.step G5.out.below
            obtain ⟨inner7, hown7⟩ := Kd.R_own h5.out
            have bx7 := h5.bx.kept hg7 (h5.bx.not_row (by decide) hown7)
            have zz5 := (G5.out.below.block vb (Array.getElem?_eq_some_iff.1 HZ.out).1).trans HZ.out
            have zz7 := (hg7.block vb (Array.getElem?_eq_some_iff.1 zz5).1 (Kd.R_ne h5.out zz5 (by decide))).trans zz5
            obtain ⟨A7, c7, e7⟩ := Kd.R_slice hR7
            rw [List.length_append, List.length_singleton] at e7
            subst e7
            have b7 := bx7.cell
            have b8 := bx7.frozen
            refine ⟨fun _ => ⟨b7, by simp [World.cell?, zz7], by simp [World.cell?, zz7], by simp [World.cell?, zz7]⟩, ?_⟩
            simp only [Act.put, List.setIfInBounds_toArray, List.set_cons_zero, List.set_cons_succ]
            have HR7 := Aside0.mk hR7
            have HG7 := Aside0.mk hg7
            have HAT := Aside0.mk hat7
            clear hR7 hb7 hg7 hat7 h5 hown7 bx7 zz5 zz7 HO5
            refine wpAnyX_one (i := 8) (by kernel_rfl) ?_
            refine wpOp_of_list (o := { dst := none, op := Op.store 34 (Operand.tmp 6) (Operand.tmp 34), type := 0, pos := "fold.go:137", after := #[{ on := 7, ground := Ground.data }, { on := 7, ground := Ground.chain }, { on := 0, ground := Ground.phase }, { on := 1, ground := Ground.phase }, { on := 2, ground := Ground.phase }, { on := 3, ground := Ground.phase }, { on := 4, ground := Ground.phase }, { on := 5, ground := Ground.phase }, { on := 6, ground := Ground.phase }, { on := 7, ground := Ground.phase }], guard := none }) rfl ?_
            go_wp2
            refine ⟨fun h => absurd rfl h, wpAnyX_done (by kernel_rfl) ?_ _⟩
            have hd := HI2.out.done (B := WW.heap.size) (x := ⟨.slice (some ⟨b, off, none⟩) n c1, .slice A1 vs.length d, hh, vs⟩) G5.out.below HG7.out (by simpa [outsP, HY.out] using HR7.out) HAT.out HX.out
            exact ⟨(keeps_below HB3.out).trans hd.2.2, (KpG.of_below HB3.out HI.out.below.size HI.out.bx.lt).trans hd.2.1, _, hd.1⟩
      · have g0 : (re != 0) = true := by simp [hre]
        have x4 := HI2.out.r4.cell
        have x5 := HI2.out.r5.cell
        have f4 := HI2.out.r4.frozen
        have f5 := HI2.out.r5.frozen
        have HRE := Aside0.mk hre
        clear hre
        gi_wp2
        have hx : (ofP kind vs).2 ≠ 0 := by rw [← HRR.out]; exact HRE.out
        have h := HI2.out.err (B := WW.heap.size) (x := ⟨.slice (some ⟨b, off, none⟩) n c1, .slice A1 vs.length d, hh, vs⟩) hx
        dsimp only at h
        rw [← HRR.out] at h
        exact ⟨(keeps_below HB3.out).trans h.2, rfl, h.1⟩
    case hdone =>
      rintro D xs W hD ⟨us, hp, hs, hsp⟩ ⟨v, hI⟩ hK
      obtain ⟨A7, c7, e7⟩ := Kd.R_slice hI.out
      subst e7
      have HI := Aside0.mk hI
      have x6 := hI.bx.cell
      have x4 := hI.r4.cell
      have x5 := hI.r5.cell
      have f4 := hI.r4.frozen
      have f5 := hI.r5.frozen
      have HK := Aside0.mk hK
      have HG := Aside0.mk (groups_fine HN.out HU.out hp hs hsp hI.fine)
      clear hp hs hsp hI hK
      go_wp2_with fail
      have hK := HK.out
      have hI := HI.out
      have hsz := HWS.out
      have r5' := hI.r5.other (B' := w0.heap.size + 1 + 1) (by omega) (.slice A7 (outsP kind xs).length c7)
      have y4 := (hI.r4.set (.slice A7 (outsP kind xs).length c7)).other (B' := w0.heap.size + 1 + 1 + 1) (by omega) (.int .i64 0)
      have y5 := r5'.set (.int .i64 0)
      have yR := Kd.R_set (Kd.R_set hI.out hI.r4 outs_E 0 (.slice A7 (outsP kind xs).length c7)) r5' outs_E5 0 (.int .i64 0)
      have yB : RowKit.Below w0.heap.size w0 _ := (hI.below.setCell (p := ⟨w0.heap.size + 1 + 1, 0, none⟩) (by simp only; omega) (.slice A7 (outsP kind xs).length c7)).setCell (p := ⟨w0.heap.size + 1 + 1 + 1, 0, none⟩) (by simp only; omega) (.int .i64 0)
      have yK := (Below.heap_setCell (W.setCell ⟨w0.heap.size + 1 + 1, 0, none⟩ (.slice A7 (outsP kind xs).length c7)) ⟨w0.heap.size + 1 + 1 + 1, 0, none⟩ (.int .i64 0) D (by simp only; omega)).trans ((Below.heap_setCell W ⟨w0.heap.size + 1 + 1, 0, none⟩ (.slice A7 (outsP kind xs).length c7) D (by simp only; omega)).trans hK)
      refine ⟨by simp, .inl ⟨_, _, rfl, run_takeDeferred yK, ?_⟩⟩
      refine ⟨_, two_results _ _ (w0.heap.size + 1 + 1) (w0.heap.size + 1 + 1 + 1) _ _ rfl rfl (Boxed.put y4 yK rfl).cell (Boxed.put y5 yK rfl).cell, ?_⟩
      rw [HG.out]
      exact ⟨_, rfl, R_put yR yK rfl, below_put yB (by omega) yK⟩
    case hstop =>
      rintro D c pre W hD ⟨us, hp, hs, hsp⟩ ⟨rfl, hX⟩ hK
      obtain ⟨pre', x, rfl, h1, h2, h3, h4⟩ := hX.out
      go_wp2_with fail
      have hsz := HWS.out
      refine ⟨by simp, .inl ⟨_, _, rfl, run_takeDeferred hK, ?_⟩⟩
      refine ⟨_, two_results _ _ (w0.heap.size + 1 + 1) (w0.heap.size + 1 + 1 + 1) _ _ rfl rfl (Boxed.put h3 hK rfl).cell (Boxed.put h4 hK rfl).cell, ?_⟩
      rw [groups_err HN.out HU.out hp hs hsp h1 h2]
      exact ⟨_, rfl, Kd.R_nil _ _ _ _ _, below_put hX.below (by omega) hK⟩
end Go.Proofs.YtolefpeiceiocaaGreat.Ps
/- fold.Groups, as the printed texts ask for it. Condition: fewer than a million tuples of fewer than a million values, as Go may have them. -/
namespace Go.Proofs.YtolefpeiceiocaaGreat.Ps
open Go Go.RowKit Go.Proofs.YtolefpeiceiocaaGreatW.PrintWords Go.Proofs.YtolefpeiceiocaaGreatW.PrintLast
set_option linter.unusedVariables false

theorem fold_Groups.calls (a0 : Int) (A1 : Option Addr) (c1 : Nat) (l1 : List (List Sv)) (r1 : List (List Sv)) (r2 : Int) (w : World) (hr1 : Kd.C (Kd.slice 25 k25) w A1 l1.length l1) (_hc1 : l1.length ≤ c1) (h : fold_Groups.f a0 l1 = some (r1, r2)) :
    Calls Tryz.prog 12 #[.int .i64 a0, .slice A1 l1.length c1] w fun e w' => ∃ v, e = .returned (.tuple #[v, .int .i64 r2]) ∧
      Kd.N (Kd.slice 25 k25) 22 w' w.heap.size (fun k => True ∧ w.heap.size ≤ k ∧ k < w'.heap.size ∧ ∃ q, q ∈ 22 :: (Kd.slice 25 k25).E ∧ ∃ cells, w'.heap[k]? = some (.cells cells q (0, 0))) v r1 ∧ RowKit.Below w.heap.size w w' := by
  unfold fold_Groups.f at h
  split at h
  · rename_i hh
    have e := Option.some.inj h
    rw [Prod.ext_iff] at e
    obtain ⟨rfl, rfl⟩ := e
    refine (groups_walk a0 A1 c1 l1 w hh.1 hr1 (fun vs A d W hok hle hC => ?_)).mono ?_
    · exact fold_Of.calls (vs.length + 1) a0 A d vs _ _ _ _ W hC hle (Of_eq a0 vs hh.2 hok (vs.length + 1) (by omega))
    · rintro e w' ⟨v, rfl, hR, hb⟩
      exact ⟨v, rfl, Kd.R_N (Kd.R_bound hR), hb⟩
  · cases h
end Go.Proofs.YtolefpeiceiocaaGreat.Ps
