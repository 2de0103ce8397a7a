/- fold.grouped's ITERATOR: group by group, what stands ahead and the last values. Condition: fewer than a million tuples, all of one length, fewer than a million columns. -/
import Derived.Test.YtolefpeiceiocaaGreatGtup
import Derived.Test.YtolefpeiceiocaaGreatGheld
import Derived.RangeFuncBox
namespace Go.Proofs.YtolefpeiceiocaaGreat.Ps
open Go Go.RowKit Go.Proofs.YtolefpeiceiocaaGreatW.PrintWords Go.Proofs.YtolefpeiceiocaaGreatW.PrintLast Go.Lib Go.Sort Go.Proofs Go.Shelf
set_option linter.unusedVariables false

/-- A tuple of w0's memory, of n columns and one. -/
structure Ref (w0 : World) (n : Nat) where
  A : Option Addr
  c : Nat
  l : List Sv
  hC : Kd.C k25 w0 A l.length l
  hn : l.length = n + 1
  hc : l.length ≤ c
def encR {w0 : World} {n : Nat} (x : Ref w0 n) : Value := .slice x.A x.l.length x.c
theorem encR_one {w0 : World} {n : Nat} : OneCell (encR (w0 := w0) (n := n)) := fun _ => rfl
/-- How two tuples lie to each other by their heads. -/
def cmpR {w0 : World} {n : Nat} (x y : Ref w0 n) : Int := lexS (x.l.take n) (y.l.take n)
theorem cmpR_swo {w0 : World} {n : Nat} : SWO (ltOf (cmpR (w0 := w0) (n := n))) where
  irrefl x := lexS_ord.swo.irrefl (x.l.take n)
  trans x y z := lexS_ord.swo.trans (x.l.take n) (y.l.take n) (z.l.take n)
  ntrans x y z := lexS_ord.swo.ntrans (x.l.take n) (y.l.take n) (z.l.take n)

theorem refs_of {w0 : World} {A : Option Addr} {ts : List (List Sv)} {n : Nat} (h : Kd.C (Kd.slice 25 k25) w0 A ts.length ts) (hn : ∀ t ∈ ts, t.length = n + 1) :
    ∃ rs : List (Ref w0 n), rs.map Ref.l = ts ∧ ∀ j u, (rs.map encR)[j]? = some u → ∃ ad, A = some ad ∧ w0.cell? (ad.add j) = some u := by
  have key : ∀ i : Fin ts.length, ∃ r : Ref w0 n, r.l = ts[i] ∧ ∃ ad, A = some ad ∧ w0.cell? (ad.add i.1) = some (encR r) := by
    intro i
    obtain ⟨ad, A0, c0, e, hcell, hle, hC⟩ := at_L3 h (i.1 : Int) (by omega) (by omega)
    have er : rd_L3 ts (i.1 : Int) = ts[i] := by
      unfold rd_L3
      rw [List.getD_eq_getElem?_getD, Int.toNat_natCast, List.getElem?_eq_getElem i.2]; rfl
    rw [er, Int.toNat_natCast] at hcell
    rw [er] at hle hC
    exact ⟨⟨A0, c0, ts[i], hC, hn _ (List.getElem_mem i.2), hle⟩, rfl, ad, e, hcell⟩
  refine ⟨List.ofFn fun i => Classical.choose (key i), ?_, ?_⟩
  · apply List.ext_getElem
    · simp
    · intro i h1 h2
      simp only [List.getElem_map, List.getElem_ofFn]
      exact (Classical.choose_spec (key ⟨i, h2⟩)).1
  · intro j u hu
    have hj : j < ts.length := by have := (List.getElem?_eq_some_iff.1 hu).1; simpa using this
    obtain ⟨ad, e, hc⟩ := (Classical.choose_spec (key ⟨j, hj⟩)).2
    refine ⟨ad, e, ?_⟩
    have := (List.getElem?_eq_some_iff.1 hu).2
    simp only [List.getElem_map, List.getElem_ofFn] at this
    rw [← this]; exact hc

/-- What is read of values in a world: their cells. -/
def CellsAt (W : World) (A : Option Addr) (l : List Sv) : Prop := l.length < 9223372036854775807 ∧ ∀ j u, (flatS l)[j]? = some u → ∃ ad, A = some ad ∧ W.cell? (ad.add j) = some u
theorem CellsAt.C {W : World} {A : Option Addr} {l : List Sv} (h : CellsAt W A l) : Kd.C k25 W A l.length l := by
  refine ⟨rfl, by have := h.1; omega, fun h0 => ?_⟩
  obtain ⟨ad, e, _⟩ := h.2 0 _ (by have := flatS_get l 0 0 h0 (by omega); simpa [encS] using this)
  refine ⟨ad, e, fun j p hj => ⟨encS p, rfl, k25_mk W p, fun i u hi => ?_⟩⟩
  have hl := (List.getElem?_eq_some_iff.1 hj).1
  have hp := (List.getElem?_eq_some_iff.1 hj).2
  have h3 : i < 3 := by have := (List.getElem?_eq_some_iff.1 hi).1; rwa [encS_len] at this
  obtain ⟨ad', e', hc⟩ := h.2 (j * 3 + i) u (by rw [flatS_get l j i hl h3, hp]; exact hi)
  rw [e] at e'
  cases e'
  exact hc
theorem CellsAt.of_C {W : World} {A : Option Addr} {l : List Sv} (h : Kd.C k25 W A l.length l) (hl : l.length < 1000000) : CellsAt W A l := ⟨by omega, cells_C h⟩
theorem CellsAt.kept {W W' : World} {A : Option Addr} {l : List Sv} (h : CellsAt W A l) (hk : ∀ a u, W.cell? a = some u → W'.cell? a = some u) : CellsAt W' A l := ⟨h.1, fun j u hj => by
  obtain ⟨ad, e, hc⟩ := h.2 j u hj
  exact ⟨ad, e, hk _ _ hc⟩⟩
theorem grown_cell {W W' : World} (h : Grown W W') : ∀ a u, W.cell? a = some u → W'.cell? a = some u := fun a u hc => (h.below.cell (p := a) (lt_of_cell hc)).trans hc
theorem CellsAt.take {W : World} {A : Option Addr} {l : List Sv} (h : CellsAt W A l) (n : Nat) : CellsAt W A (l.take n) := by
  refine ⟨by have := h.1; simp; omega, fun j u hj => h.2 j u ?_⟩
  obtain ⟨h1, h2⟩ := flatS_split hj
  have h1' : j / 3 < l.length := by simp at h1; omega
  have := flatS_get l (j / 3) (j % 3) h1' (by omega)
  rw [show j / 3 * 3 + j % 3 = j by omega] at this
  rw [this, ← h2, List.getElem_take]

/-- A group, as it is handed on. -/
structure Grp where
  hv : Value
  vv : Value
  h : List Sv
  vs : List Sv
def encG (x : Grp) : Array Value := #[x.hv, x.vv]
/-- What lies in memory when a group is handed on. -/
def MemG (n : Nat) (T : List Sv) (x : Grp) (W : World) : Prop := ∃ b off c A d, x.hv = .slice (some ⟨b, off, none⟩) n c ∧ x.h.length = n ∧ CellsAt W (some ⟨b, off, none⟩) x.h ∧ n ≤ c ∧ x.vv = .slice A x.vs.length d ∧ CellsAt W A x.vs ∧ x.vs.length ≤ d ∧ x.vs.length < 1000000 ∧ ∀ y ∈ x.vs, y ∈ T
theorem memG_own (B n : Nat) (T : List Sv) : OwnFrom B (MemG n T) := by
  rintro x W W' row ⟨b, off, c, A, d, e1, e2, h1, e3, e4, h2, e5⟩ hg hr
  have kk : ∀ a u, W.cell? a = some u → W'.cell? a = some u := fun a u hc => cell_kept hc hg (fun r e => (hr r e).2)
  exact ⟨b, off, c, A, d, e1, e2, h1.kept kk, e3, e4, h2.kept kk, e5⟩

/-- The blocks that a round of the caller's may turn: the slice's box, the results' cells, the slice's row. -/
def Bd (ob c4 c5 : Nat) (W : World) (k : Nat) : Prop := k = ob ∨ k = c4 ∨ k = c5 ∨ ∃ a m c, W.cell? ⟨ob, 0, none⟩ = some (.slice (some a) m c) ∧ a.block = k
/-- What a round of the caller's keeps. -/
structure KpG (w0 : World) (ob c4 c5 : Nat) (W W' : World) : Prop where
  below : RowKit.Below w0.heap.size W W'
  same : ∀ k, k < W.heap.size → (∃ cs t fr, W.heap[k]? = some (.cells cs t fr)) → ¬ Bd ob c4 c5 W k → W'.heap[k]? = W.heap[k]?
  grow : ∀ k, Bd ob c4 c5 W' k → Bd ob c4 c5 W k ∨ W.heap.size ≤ k
theorem KpG.trans {w0 : World} {ob c4 c5 : Nat} {A B C : World} (h : KpG w0 ob c4 c5 A B) (k : KpG w0 ob c4 c5 B C) : KpG w0 ob c4 c5 A C := by
  refine ⟨h.below.trans k.below, fun i hi hc hn => ?_, fun i hi => ?_⟩
  · have e1 := h.same i hi hc hn
    refine (k.same i (Nat.lt_of_lt_of_le hi h.below.size) (by rw [e1]; exact hc) (fun hb => ?_)).trans e1
    rcases h.grow i hb with h1 | h1
    · exact hn h1
    · omega
  · rcases k.grow i hi with h1 | h1
    · exact h.grow i h1
    · have := h.below.size; exact .inr (by omega)
theorem KpG.put {w0 : World} {ob c4 c5 : Nat} {w : World} (hw : w0.heap.size ≤ w.heap.size) (hob : ob < w.heap.size) (W : World) (l : Nat) (o o' : Obj) (hl : w.heap.size ≤ l) (ho : W.heap[l]? = some o) (hc : o.isCells = false) : KpG w0 ob c4 c5 W (W.putObj l o') := by
  have other : ∀ k, k ≠ l → (W.putObj l o').heap[k]? = W.heap[k]? := fun k hk => World.putObj_heap_other hk
  have hcell : (W.putObj l o').cell? ⟨ob, 0, none⟩ = W.cell? ⟨ob, 0, none⟩ := by
    simp only [World.cell?]
    rw [other ob (by omega)]
  refine ⟨⟨rfl, rfl, rfl, by simp, fun k hk => other k (by omega)⟩, fun k hk hcs _ => other k (fun e => ?_), fun k hk => .inl ?_⟩
  · subst e
    obtain ⟨cs, t, fr, e⟩ := hcs
    rw [e] at ho
    cases ho
    simp [Obj.isCells] at hc
  · rcases hk with h | h | h | ⟨a, m, c, h1, h2⟩
    · exact .inl h
    · exact .inr (.inl h)
    · exact .inr (.inr (.inl h))
    · exact .inr (.inr (.inr ⟨a, m, c, by rw [← hcell]; exact h1, h2⟩))

def sameH (n : Nat) (h : List Sv) (t : List Sv) : Bool := decide (t.take n = h)
def lastS (n : Nat) (t : List Sv) : Sv := t[n]!
def spans (n : Nat) : Nat → List (List Sv) → List (List Sv × List Sv)
  | 0, _ => []
  | _ + 1, [] => []
  | f + 1, t :: r => (t.take n, lastS n t :: (r.takeWhile (sameH n (t.take n))).map (lastS n)) :: spans n f (r.dropWhile (sameH n (t.take n)))

theorem cells_at3 {W : World} {b off : Nat} {l : List Sv} (h : Kd.C k25 W (some ⟨b, off, none⟩) l.length l) : ∀ j, j < l.length → ∀ i v, (encS l[j]!)[i]? = some v → W.cell? ⟨b, off + j * 3 + i, none⟩ = some v := by
  intro j hj i v hv
  obtain ⟨b', off', e, _, hc⟩ := C_at h (by omega)
  cases e
  rw [getElem!_pos l j hj] at hv
  exact hc j hj i v hv
theorem allEq_iff : ∀ (xs ys : List Sv), Lib.allEq eqB xs ys = decide (xs = ys)
  | [], [] => rfl
  | [], _ :: _ => by simp [Lib.allEq]
  | _ :: _, [] => by simp [Lib.allEq]
  | x :: xs, y :: ys => by
    have := allEq_iff xs ys
    rw [Bool.eq_iff_iff] at this ⊢
    simp [Lib.allEq, eqB] at this ⊢
    exact fun _ => this
set_option maxHeartbeats 1000000 in
set_option maxRecDepth 100000 in
theorem same_any (n : Nat) (hn : n < 1000000) (b1 o1 c1 : Nat) (xs : List Sv) (b2 o2 c2 : Nat) (ys : List Sv) (W : World) (hx : n ≤ xs.length) (hy : n ≤ ys.length) (h1 : Kd.C k25 W (some ⟨b1, o1, none⟩) xs.length xs) (h2 : Kd.C k25 W (some ⟨b2, o2, none⟩) ys.length ys) :
    Calls Tryz.prog 57 #[.slice (some ⟨b1, o1, none⟩) n c1, .slice (some ⟨b2, o2, none⟩) n c2] W fun e w' => e = .returned (.bool (decide (xs.take n = ys.take n))) ∧ ∃ q, w' = W.drewN q := by
  have h := AnyQ.slices_Equal Tryz.equalV 3 Tryz.isAgg25 Tryz.sizeOf25 encS encS_len eqB neqS b1 o1 n c1 b2 o2 n c2 xs ys W hx hy (by omega) (by omega) (cells_at3 h1) (cells_at3 h2)
  change Calls Tryz.prog 81 _ _ _ at h
  rw [allEq_iff] at h
  have H := Aside0.mk h
  clear h h1 h2
  generalize decide (xs.take n = ys.take n) = r at H ⊢
  go_enter Tryz.func57, Tryz.ntmps57
  go_wp2_with fail
  refine H.out.mono ?_
  rintro e w' ⟨rfl, q, rfl⟩
  go_wp2_with fail
  go_ret
  exact ⟨rfl, q, rfl⟩

theorem while_cut {α : Type} (p : α → Bool) : ∀ (l : List α) (j : Nat), (∀ x ∈ l.take j, p x = true) → (∀ (h : j < l.length), p l[j] = false) → j ≤ l.length → l.takeWhile p = l.take j ∧ l.dropWhile p = l.drop j
  | [], j, _, _, _ => by simp
  | x :: l, 0, _, h2, _ => by
    have := h2 (by simp)
    simp only [List.getElem_cons_zero] at this
    simp [this]
  | x :: l, j + 1, h1, h2, h3 => by
    have hx : p x = true := h1 x (by simp)
    have ih := while_cut p l j (fun y hy => h1 y (by simp [hy])) (fun h => by have := h2 (by simp; omega); simpa using this) (by simpa using h3)
    simp [hx, ih.1, ih.2]
def spansL (n : Nat) (l : List (List Sv)) : List (List Sv × List Sv) := spans n l.length l
theorem dropWhile_len {α : Type} (p : α → Bool) : ∀ l : List α, (l.dropWhile p).length ≤ l.length
  | [] => by simp
  | x :: l => by
    by_cases h : p x = true
    · simp only [List.dropWhile_cons, h, if_true]; have := dropWhile_len p l; simp; omega
    · simp [h]
theorem spans_fuel (n : Nat) : ∀ (f g : Nat) (l : List (List Sv)), l.length ≤ f → l.length ≤ g → spans n f l = spans n g l
  | 0, 0, _, _, _ => rfl
  | 0, g + 1, l, h, _ => by
    obtain rfl := List.eq_nil_of_length_eq_zero (Nat.le_zero.1 h)
    rfl
  | f + 1, 0, l, _, h => by
    obtain rfl := List.eq_nil_of_length_eq_zero (Nat.le_zero.1 h)
    rfl
  | f + 1, g + 1, [], _, _ => rfl
  | f + 1, g + 1, t :: r, h1, h2 => by
    rw [spans, spans]
    congr 1
    have := dropWhile_len (sameH n (t.take n)) r
    exact spans_fuel n f g _ (by simp at h1; omega) (by simp at h2; omega)
theorem spansL_step (n : Nat) (ts : List (List Sv)) (i j : Nat) (hi : i < ts.length) (hj : i + j ≤ ts.length) (h0 : 0 < j) (h1 : ∀ t ∈ (ts.drop i).take j, sameH n (ts[i].take n) t = true) (h2 : ∀ (h : i + j < ts.length), sameH n (ts[i].take n) ts[i + j] = false) :
    spansL n (ts.drop i) = (ts[i].take n, ((ts.drop i).take j).map (lastS n)) :: spansL n (ts.drop (i + j)) := by
  have hw := while_cut (sameH n (ts[i].take n)) (ts.drop i) j h1 (fun h => by rw [List.getElem_drop]; exact h2 (by simp at h; omega)) (by simp; omega)
  have hp : sameH n (ts[i].take n) ts[i] = true := by simp [sameH]
  rw [List.drop_eq_getElem_cons hi, List.takeWhile_cons, List.dropWhile_cons, if_pos hp, if_pos hp] at hw
  have e3 : (ts[i] :: ts.drop (i + 1)).drop j = ts.drop (i + j) := by rw [← List.drop_eq_getElem_cons hi, List.drop_drop]
  rw [e3] at hw
  rw [← List.drop_eq_getElem_cons hi] at hw
  have e4 : (ts.drop i).take j = ts[i] :: (ts.drop (i + 1)).takeWhile (sameH n (ts[i].take n)) := by
    exact hw.1.symm
  rw [e4]
  unfold spansL
  rw [List.drop_eq_getElem_cons hi, List.length_cons, spans, hw.2]
  congr 1
  exact spans_fuel n _ _ _ (by simp; omega) (Nat.le_refl _)

theorem vals_grown {a b b' c : World} {e : TypeId} {size n : Nat} {v : Value} {xs : List Value} (h : Grown a b) (ho : b.ownsRow a.heap.size e size v n xs) (hb : Grown b b') (hg : b'.grownBy c v.ownBlock) (hd : b'.drawn ≤ c.drawn) : Grown a c := by
  have h2 := h.trans hb
  exact ⟨h2.below.grown hg h2.size (fun q hq => own_base ho q hq), Nat.le_trans h2.drawn hd⟩
theorem slice_eq {a b : Addr} {n m c d : Nat} (h1 : a = b) (h2 : n = m) (h3 : c = d) : Value.slice (some a) n c = .slice (some b) m d := by subst h1; subst h2; subst h3; rfl
theorem take_snoc {w0 : World} {n : Nat} {rs : List (Ref w0 n)} {i k : Nat} (hik : i ≤ k) (hk : k < rs.length) : ((rs.map Ref.l).drop i).take (k + 1 - i) = ((rs.map Ref.l).drop i).take (k - i) ++ [rs[k].l] := by
  rw [show k + 1 - i = k - i + 1 by omega, List.take_succ_eq_append_getElem (by simp; omega), List.getElem_drop]
  congr 2
  simp only [show i + (k - i) = k by omega, List.getElem_map]
theorem vals_snoc {w0 w : World} {n : Nat} {rs : List (Ref w0 n)} {i k B : Nat} {v : Value} {y : Sv} (hik : i ≤ k) (hk : k < rs.length) (hy : y = lastS n rs[k].l)
    (h : w.ownsRow B 25 3 v (k - i + 1) (flatS ((((rs.map Ref.l).drop i).take (k - i)).map (lastS n)) ++ encS y)) : w.ownsRow B 25 3 v (k + 1 - i) (flatS ((((rs.map Ref.l).drop i).take (k + 1 - i)).map (lastS n))) := by
  rw [take_snoc hik hk, List.map_append, List.map_singleton, flatS_snoc, ← hy, show k + 1 - i = k - i + 1 by omega]
  exact h
theorem same_snoc {w0 : World} {n : Nat} {rs : List (Ref w0 n)} {i k : Nat} {h : List Sv} (hik : i ≤ k) (hk : k < rs.length) (ht : ∀ t ∈ ((rs.map Ref.l).drop i).take (k - i), sameH n h t = true) (hs : rs[k].l.take n = h) :
    ∀ t ∈ ((rs.map Ref.l).drop i).take (k + 1 - i), sameH n h t = true := by
  rw [take_snoc hik hk]
  intro t hm
  rcases List.mem_append.1 hm with hm | hm
  · exact ht t hm
  · rw [List.mem_singleton.1 hm]
    simp [sameH, hs]
/-- What the iterator keeps of memory between two rounds. -/
structure InvG {w0 : World} {n : Nat} (rs : List (Ref w0 n)) (g bn ob c4 c5 : Nat) (W : World) : Prop where
  below : RowKit.Below w0.heap.size w0 W
  row : ∀ j (hj : j < rs.length), W.cell? ⟨g, j, none⟩ = some (encR rs[j])
  num : W.cell? ⟨bn, 0, none⟩ = some (.int .i64 (n : Int))
  ng : ¬ Bd ob c4 c5 W g
  nb : ¬ Bd ob c4 c5 W bn
  ob : ob < W.heap.size
  gl : g < W.heap.size
theorem cell_of_block {W W' : World} {b off : Nat} (h : W'.heap[b]? = W.heap[b]?) : W'.cell? ⟨b, off, none⟩ = W.cell? ⟨b, off, none⟩ := by simp only [World.cell?, h]
theorem cells_of_cell {W : World} {b off : Nat} {u : Value} (h : W.cell? ⟨b, off, none⟩ = some u) : ∃ cs t fr, W.heap[b]? = some (.cells cs t fr) := by
  obtain ⟨cs, t, fr, h1, _⟩ := Sort.cells_of_cell? h
  exact ⟨cs, t, fr, h1⟩
theorem Bd.of_below {ob c4 c5 : Nat} {W W' : World} (h : RowKit.Below W.heap.size W W') (ho : ob < W.heap.size) {k : Nat} (hk : Bd ob c4 c5 W' k) : Bd ob c4 c5 W k := by
  rcases hk with e | e | e | ⟨a, m, c, h1, h2⟩
  · exact .inl e
  · exact .inr (.inl e)
  · exact .inr (.inr (.inl e))
  · exact .inr (.inr (.inr ⟨a, m, c, by rw [← cell_of_block (h.block ob ho)]; exact h1, h2⟩))
theorem InvG.grown {w0 : World} {n : Nat} {rs : List (Ref w0 n)} {g bn ob c4 c5 : Nat} {W W' : World} (h : InvG rs g bn ob c4 c5 W) (hb : RowKit.Below W.heap.size W W') : InvG rs g bn ob c4 c5 W' :=
  ⟨h.below.trans (hb.mono h.below.size), fun j hj => (hb.cell (p := ⟨g, j, none⟩) (lt_of_cell (h.row j hj))).trans (h.row j hj), (hb.cell (p := ⟨bn, 0, none⟩) (lt_of_cell h.num)).trans h.num,
    fun k => h.ng (k.of_below hb h.ob), fun k => h.nb (k.of_below hb h.ob), Nat.lt_of_lt_of_le h.ob hb.size, Nat.lt_of_lt_of_le h.gl hb.size⟩
theorem InvG.round {w0 : World} {n : Nat} {rs : List (Ref w0 n)} {g bn ob c4 c5 : Nat} {W W' : World} (h : InvG rs g bn ob c4 c5 W) (hk : KpG w0 ob c4 c5 W W') : InvG rs g bn ob c4 c5 W' := by
  have hB := lt_of_cell h.num
  refine ⟨h.below.trans hk.below, fun j hj => ?_, ?_, fun k => ?_, fun k => ?_, Nat.lt_of_lt_of_le h.ob hk.below.size, Nat.lt_of_lt_of_le h.gl hk.below.size⟩
  · rw [cell_of_block (hk.same g (lt_of_cell (h.row j hj)) (cells_of_cell (h.row j hj)) h.ng)]
    exact h.row j hj
  · rw [cell_of_block (hk.same bn hB (cells_of_cell h.num) h.nb)]
    exact h.num
  · rcases hk.grow g k with h1 | h1
    · exact h.ng h1
    · have := h.gl; omega
  · rcases hk.grow bn k with h1 | h1
    · exact h.nb h1
    · simp at hB; omega

theorem abides_grown {J : List Grp → World → Prop} {pre : List Grp} {W wz wy : World} (hJ : AbidesFrom W.heap.size J) (hW : W.heap.size ≤ wz.heap.size) (h : J pre wz) (hg : Grown wz wy) : J pre wy :=
  hJ pre wz wy none h ⟨hg.below.os, hg.below.tape, hg.below.output, hg.below.size, fun k hk _ => hg.below.block k hk⟩ (fun r e => by cases e)
theorem memG_mk {w0 : World} {n : Nat} {rs : List (Ref w0 n)} {g bn ob c4 c5 i k cc b0 o0 B : Nat} {W : World} {Av : Option Addr} {nv cv : Nat} (h : InvG rs g bn ob c4 c5 W) {hi : i < rs.length} (hcc : rs[i].c = cc) (ha : rs[i].A = some ⟨b0, o0, none⟩)
    (ho : W.ownsRow B 25 3 (.slice Av nv cv) (k - i) (flatS ((((rs.map Ref.l).drop i).take (k - i)).map (lastS n)))) (hm : rs.length < 1000000) (hn : n < 1000000) (hl : rs[i].l.length = n + 1) {T : List Sv} (hT : ∀ t ∈ rs.map Ref.l, lastS n t ∈ T) :
    MemG n T ⟨.slice (some ⟨b0, o0, none⟩) n cc, .slice Av nv cv, rs[i].l.take n, (((rs.map Ref.l).drop i).take (k - i)).map (lastS n)⟩ W := by
  have hC := Kd.C_below rs[i].hC h.below
  rw [ha] at hC
  have e1 := C_of_own ho
  have e2 := Kd.R_reads' (R_of_own3 (ok := fun _ => True) ho (fun _ _ => trivial))
  have hlen : ((((rs.map Ref.l).drop i).take (k - i)).map (lastS n)).length < 1000000 := by simp; omega
  refine ⟨b0, o0, cc, Av, cv, rfl, by simp; omega, ?_, by have := rs[i].hc; omega, by rw [e1.1], CellsAt.of_C e1.2 hlen, by rw [← e1.1]; exact e2.2.1, hlen, fun y hy => by
    obtain ⟨t, ht, rfl⟩ := List.mem_map.1 hy
    exact hT t (List.mem_of_mem_drop (List.mem_of_mem_take ht))⟩
  exact (CellsAt.take ⟨by omega, cells_C hC⟩ n)
theorem round_facts {w0 : World} {n : Nat} {rs : List (Ref w0 n)} {i k : Nat} {pre : List Grp} {hi : i < rs.length} (hs : pre.map (fun x => (x.h, x.vs)) ++ spansL n ((rs.map Ref.l).drop i) = spansL n (rs.map Ref.l)) (hik : i < k) (hk : k ≤ rs.length)
    (ht : ∀ t ∈ ((rs.map Ref.l).drop i).take (k - i), sameH n (rs[i].l.take n) t = true) (he : ∀ h : k < rs.length, sameH n (rs[i].l.take n) rs[k].l = false) {hv vv : Value} :
    True ∧ (pre ++ [⟨hv, vv, rs[i].l.take n, (((rs.map Ref.l).drop i).take (k - i)).map (lastS n)⟩] : List Grp).map (fun x => (x.h, x.vs)) ++ spansL n ((rs.map Ref.l).drop k) = spansL n (rs.map Ref.l) := by
  refine ⟨trivial, ?_⟩
  have hst := spansL_step n (rs.map Ref.l) i (k - i) (by simpa using hi) (by simp; omega) (by omega) (by simpa using ht) (fun h => by
    simp only [show i + (k - i) = k by omega, List.getElem_map]
    exact he (by simpa [show i + (k - i) = k by omega] using h))
  rw [hst] at hs
  rw [← hs, show i + (k - i) = k by omega]
  simp
theorem pre_spans {n : Nat} {ts : List (List Sv)} {a b : List (List Sv × List Sv)} (h : a ++ b = spansL n ts) : a <+: spans n ts.length ts := ⟨b, h⟩

set_option maxHeartbeats 4000000 in
set_option maxRecDepth 1000000 in
theorem iter_walk (w0 : World) (n m : Nat) (rs : List (Ref w0 n)) (A : Option Addr) (c bx ob c4 c5 l : Nat) (W : World) (J Jx : List Grp → World → Prop) (hn : n < 999999) (hm : rs.length < 1000000) (h0 : 0 < rs.length)
    (hW : RowKit.Below w0.heap.size w0 W) (hA : ∀ j u, (rs.map encR)[j]? = some u → ∃ ad, A = some ad ∧ w0.cell? (ad.add j) = some u)
    (hbx : W.cell? ⟨bx, 0, none⟩ = some (.slice A rs.length c)) (hJ : AbidesFrom W.heap.size J)
    (hob : ob < W.heap.size ∧ c4 < W.heap.size ∧ c5 < W.heap.size) (hnil : W.cell? ⟨ob, 0, none⟩ = some (.slice none 0 0))
    (hY : ∀ pre x W1, J pre W1 → MemG n ((rs.map Ref.l).map (lastS n)) x W1 → pre.length < rs.length → YieldAt Fence.wide 6 Tryz.prog l (encG x) W1 fun e W' =>
      (e = .returned (.bool true) ∧ J (pre ++ [x]) W' ∧ KpG w0 ob c4 c5 W1 W') ∨ (e = .returned (.bool false) ∧ Jx (pre ++ [x]) W'))
    (hJ0 : J [] W) :
    Calls Tryz.prog 51 #[.func (.yield l) #[] #[], .pointer (some ⟨bx, 0, none⟩)] W fun e W' => (∃ v, e = .returned v) ∧
      ((∃ xs : List Grp, (∃ ts, ts.Perm (rs.map Ref.l) ∧ ts.Pairwise (fun x y => 0 ≤ lexS (y.take n) (x.take n)) ∧ xs.map (fun x => (x.h, x.vs)) = spans n ts.length ts) ∧ J xs W') ∨
       (∃ pre : List Grp, (∃ ts, ts.Perm (rs.map Ref.l) ∧ ts.Pairwise (fun x y => 0 ≤ lexS (y.take n) (x.take n)) ∧ pre.map (fun x => (x.h, x.vs)) <+: spans n ts.length ts) ∧ Jx pre W')) := by
  letI : Inhabited (Ref w0 n) := ⟨rs[0]⟩
  have hcl := cloneVS A rs.length c (rs.map encR) W (by simp) (by omega) (fun j u hj => by
    obtain ⟨ad, e, h⟩ := hA j u hj
    exact ⟨ad, e, (hW.cell (lt_of_cell' h)).trans h⟩) (by intro u hu; obtain ⟨x, _, rfl⟩ := List.mem_map.1 hu; rfl) (fun e => by
      subst e
      obtain ⟨ad, e, _⟩ := hA 0 _ (List.getElem?_eq_getElem (by simpa using h0))
      cases e)
  have HCL := Aside0.mk hcl
  have HY := Aside0.mk hY
  clear hcl hY
  go_enter Tryz.func51, Tryz.ntmps51
  go_wp2_with fail
  refine HCL.out.mono ?_
  rintro e w1 ⟨v, rfl, hown, hvn, hg1⟩
  have hv : v ≠ .slice none 0 0 := fun e => by
    rcases hown.2 with ⟨_, e0⟩ | ⟨g, _, _, e2, _⟩
    · omega
    · rw [e] at e2; cases e2
  obtain ⟨g, cap, rfl, hgb, hgl, hgc, hcm, _, hH⟩ := holds_of_ownsRow hown hv
  have e0 : rs.map encR = encR rs[0] :: (rs.tail.map encR) := by cases rs with | nil => simp at h0 | cons _ _ => rfl
  have c0 : w1.cell? ⟨g, 0, none⟩ = some (encR rs[0]) := by
    have h := (hH 0 (by simpa using h0)).1
    rw [getElem!_pos _ 0 (by simpa using h0)] at h
    simpa using h
  unfold encR at c0
  have hl0 : rs[0].l.length = n + 1 := rs[0].hn
  rw [hl0] at c0
  have g0 : ((rs.length : Int) == 0) = false := beq_eq_false_iff_ne.2 (by omega)
  have g1 : (0 : Int) < (rs.length : Int) := by omega
  go_wp2_with fail
  clear c0 hl0 g0 g1 e0
  have hG1 : Grown W (w1.alloc (.cells #[.int .i64 (n : Int)] 3)) := hg1.alloc _
  have hH2 : Holds (encR (w0 := w0) (n := n)) (w1.alloc (.cells #[.int .i64 (n : Int)] 3)) g 0 rs.toArray := fun j hj => ⟨cell?_alloc_some _ (hH j hj).1, by rw [World.frozen?_alloc_old _ _ _ (by show g ≠ w1.heap.size; omega)]; exact (hH j hj).2⟩
  have hbn : (w1.alloc (.cells #[.int .i64 (n : Int)] 3)).cell? ⟨w1.heap.size, 0, none⟩ = some (.int .i64 (n : Int)) := by simp
  have hsz : (w1.alloc (.cells #[.int .i64 (n : Int)] 3)).heap.size = w1.heap.size + 1 := by simp
  generalize hwa : w1.alloc (.cells #[.int .i64 (n : Int)] 3) = wa at hG1 hH2 hbn hsz ⊢
  generalize hbn0 : w1.heap.size = bn at hbn hsz hgl ⊢
  have hWa : RowKit.Below w0.heap.size w0 wa := hW.trans (hG1.below.mono hW.size)
  have hgW : w0.heap.size ≤ g := Nat.le_trans hW.size hgb
  have hbW : W.heap.size ≤ bn := by rw [← hbn0]; exact hg1.size
  have hcmp : CmpLays1 Tryz.prog 54 #[.pointer (some ⟨bn, 0, none⟩)] (encR (w0 := w0) (n := n)) cmpR g 0 rs.toArray.size wa := by
    intro q os dk hdk x y
    have hb1 : RowKit.Below w0.heap.size w0 (putRow encR (Sort.ahead wa q) g 0 dk) := below_putRow hWa hgW
    have hb2 : RowKit.Below w0.heap.size w0 (sortWorld encR wa g 0 q dk os) := hb1.trans ((Grown.of_eq ⟨0, os, rfl⟩).below.mono hb1.size)
    have hcell : (sortWorld encR wa g 0 q dk os).cell? ⟨bn, 0, none⟩ = some (.int .i64 (n : Int)) := by
      unfold sortWorld
      rw [cell?_grow _ _ _ (by show bn < (putRow _ _ _ _ _).heap.size; rw [size_putRow]; show bn < wa.heap.size; omega), cell?_putRow_other _ _ g 0 _ _ (Or.inl (by show bn ≠ g; omega))]
      exact hbn
    exact (byHead_any bn n x.A x.c x.l y.A y.c y.l _ (by omega) hcell (Kd.C_below x.hC hb2) (Kd.C_below y.hC hb2) (by have := x.hn; omega) (by have := y.hn; omega)).mono fun _ _ ⟨h1, h2⟩ => ⟨h1, h2.eq⟩
  have hs := Any.slices_SortFunc Tryz.sortVS (encR (w0 := w0) (n := n)) encR_one cmpR cmpR_swo 54 #[.pointer (some ⟨bn, 0, none⟩)] g 0 cap rs.toArray wa (enters_of Tryz.func54 (by kernel_rfl) rfl) hcmp hH2 (by omega) (by simp; omega)
  change Calls Tryz.prog 53 _ _ _ at hs
  simp only [List.size_toArray] at hs
  refine hs.mono ?_
  clear hs hcmp
  rintro e w2 ⟨rfl, d', q, os, hp, hsrt, hw2⟩
  have hd : d'.size = rs.length := by have := hp.1; simpa using this
  have hbel2 : RowKit.Below W.heap.size W w2 := by
    have h1 : RowKit.Below W.heap.size W (putRow encR (Sort.ahead wa q) g 0 d') := below_putRow hG1.below hgb
    rw [hw2]
    exact h1.trans ((Grown.of_eq ⟨0, os, rfl⟩).below.mono h1.size)
  have hH3 : Holds (encR (w0 := w0) (n := n)) (putRow encR (Sort.ahead wa q) g 0 d') g 0 d' := holds_putRow encR _ g 0 rs.toArray d' (holds_ahead _ _ _ _ _ _ hH2) (by simpa using hd)
  have hglt : g < (putRow encR (Sort.ahead wa q) g 0 d').heap.size := by rw [size_putRow]; show g < wa.heap.size; omega
  obtain ⟨rs', hrs'⟩ : ∃ r, r = d'.toList := ⟨_, rfl⟩
  have hlen : rs'.length = rs.length := by rw [hrs']; simpa using hd
  have hrow : ∀ j (hj : j < rs'.length), w2.cell? ⟨g, j, none⟩ = some (encR rs'[j]) := by
    intro j hj
    have hj' : j < d'.size := by omega
    have h := (hH3 j hj').1
    rw [hw2]
    unfold sortWorld
    rw [cell?_grow _ _ _ hglt]
    rw [Nat.zero_add, getElem!_pos d' j hj'] at h
    rw [h]
    subst hrs'
    simp
  have hnum : w2.cell? ⟨bn, 0, none⟩ = some (.int .i64 (n : Int)) := by
    rw [hw2]
    unfold sortWorld
    rw [cell?_grow _ _ _ (by show bn < (putRow _ _ _ _ _).heap.size; rw [size_putRow]; show bn < wa.heap.size; omega), cell?_putRow_other _ _ g 0 _ _ (Or.inl (by show bn ≠ g; omega))]
    exact hbn
  have hnb : ∀ k, W.heap.size ≤ k → ¬ Bd ob c4 c5 w2 k := by
    intro k hk hb
    rcases hb.of_below hbel2 hob.1 with e | e | e | ⟨a, m', c', e1, _⟩
    · omega
    · omega
    · omega
    · rw [hnil] at e1; cases e1
  have hInv : InvG rs' g bn ob c4 c5 w2 := ⟨hW.trans (hbel2.mono hW.size), hrow, hnum, hnb g hgb, hnb bn hbW, Nat.lt_of_lt_of_le hob.1 hbel2.size, Nat.lt_of_lt_of_le hglt (by rw [hw2]; simp [sortWorld])⟩
  have hJ2 : J [] w2 := hJ [] W w2 none hJ0 ⟨hbel2.os, hbel2.tape, hbel2.output, hbel2.size, fun k hk _ => hbel2.block k hk⟩ (fun r e => by cases e)
  have hperm : (rs'.map Ref.l).Perm (rs.map Ref.l) := by
    have p3 := hp.2.2
    have e1 : d'.extract 0 rs.length = d' := by rw [← hd]; simp
    have e2 : rs.toArray.extract 0 rs.length = rs.toArray := by simp
    rw [e1, e2] at p3
    rw [hrs']
    exact p3.map _
  have hsorted : (rs'.map Ref.l).Pairwise (fun x y => 0 ≤ lexS (y.take n) (x.take n)) := by
    rw [List.pairwise_map, List.pairwise_iff_getElem]
    intro a b ha hb hab
    have h := hsrt a b (Nat.zero_le _) hab (by omega)
    have ga : d'[a]! = rs'[a] := by subst hrs'; rw [getElem!_pos d' a (by omega)]; simp
    have gb : d'[b]! = rs'[b] := by subst hrs'; rw [getElem!_pos d' b (by omega)]; simp
    rw [ga, gb] at h
    exact Int.not_lt.1 (of_decide_eq_false h)
  have HTT : Aside0 (∀ t ∈ rs'.map Ref.l, lastS n t ∈ (rs.map Ref.l).map (lastS n)) := ⟨fun t ht => List.mem_map.2 ⟨t, hperm.mem_iff.1 ht, rfl⟩⟩
  have hcap : rs'.length ≤ cap := by omega
  have HINV := Aside0.mk hInv
  have HJ2 := Aside0.mk hJ2
  have HP := Aside0.mk hperm
  have HSO := Aside0.mk hsorted
  have HN := Aside0.mk hn
  have HJ := Aside0.mk hJ
  have HM := Aside0.mk (show rs'.length < 1000000 by omega)
  rw [← hlen] at HY ⊢
  have HS : Aside0 (W.heap.size ≤ w2.heap.size) := ⟨hbel2.size⟩
  clear hInv hJ2 hperm hsorted hn hJ hd hbel2 hH3 hglt hrow hnum hnb hrs' hp hsrt hw2 hwa hbn hsz hWa hgW hbW hG1 hH2 hH hg1 hown hvn hv hgb hgl hgc hcm hbx hnil hJ0 hW hA HCL hbn0
  clear hlen
  go_wp2_with fail
  go_loopg [3, 5, 6] rs'.length (fun gg s3 _ _ wr => ∃ (i : Nat) (pre : List Grp) (adr : Addr), i ≤ rs'.length ∧ rs'.length - i ≤ gg ∧ s3 = .slice (some adr) (rs'.length - i) (cap - i) ∧ (i < rs'.length → adr = ⟨g, i, none⟩) ∧ pre.length ≤ i ∧ Aside0 (J pre wr) ∧ Aside0 (InvG rs' g bn ob c4 c5 wr) ∧
    Aside0 (pre.map (fun x => (x.h, x.vs)) ++ spansL n ((rs'.map Ref.l).drop i) = spansL n (rs'.map Ref.l)) ∧ Aside0 (W.heap.size ≤ wr.heap.size))
  case atStart => exact ⟨0, [], _, Nat.zero_le _, by omega, rfl, fun _ => rfl, Nat.zero_le _, HJ2, HINV, ⟨rfl⟩, HS⟩
  case round =>
    obtain ⟨i, pre, adr, hi, hgg, rfl, hadr, hpl, HJ3, HI3, HS3, HW3⟩ := hrel
    obtain ⟨wz, rfl⟩ : ∃ z, z = wr := ⟨_, rfl⟩
    by_cases hlt : i < rs'.length
    · obtain rfl := hadr hlt
      have g1 : (0 : Int) < ((rs'.length - i : Nat) : Int) := by omega
      have c0 := HI3.out.row i hlt
      have cn := HI3.out.num
      obtain ⟨b0, o0, ha0, _, _⟩ := C_at rs'[i].hC (by have := rs'[i].hn; omega)
      unfold encR at c0
      rw [ha0] at c0
      have hl0 := rs'[i].hn
      have hc0 := rs'[i].hc
      rw [hl0] at c0 hc0
      have mixed : Tryz.prog.follows Departure.mixedOrders = true := by kernel_rfl
      clear hadr
      have hle : (n : Int) ≤ (rs'[i].c : Int) := by omega
      generalize hcc : rs'[i].c = cc at c0 hle
      have HCC := Aside0.mk hcc
      clear hcc hc0
      go_wp2_with fail
      go_quiet_o (fail)
      go_wp2_with fail
      have hg5 : Grown wz (wz.drewN nq) := (Grown.refl _).drewN _
      go_loopg [3, 6] (rs'.length - i) (fun gg2 s3 s6 wx => ∃ (k : Nat) (adr : Addr) (v : Value), i ≤ k ∧ k ≤ rs'.length ∧ rs'.length - k ≤ gg2 ∧ s3 = .slice (some adr) (rs'.length - k) (cap - k) ∧ (k < rs'.length → adr = ⟨g, k, none⟩) ∧ s6 = v ∧ (∃ A n c, v = .slice A n c) ∧
        Aside0 (wx.ownsRow wz.heap.size 25 3 v (k - i) (flatS ((((rs'.map Ref.l).drop i).take (k - i)).map (lastS n)))) ∧ Aside0 (Grown wz wx) ∧ Aside0 (∀ t ∈ ((rs'.map Ref.l).drop i).take (k - i), sameH n (rs'[i].l.take n) t = true))
      case atStart => exact ⟨i, _, _, Nat.le_refl _, hi, by omega, rfl, fun _ => rfl, rfl, ⟨_, _, _, rfl⟩, ⟨by simpa [flatS, flatK] using World.ownsRow_nil _ _ _ _⟩, ⟨hg5⟩, ⟨by simp⟩⟩
      case round =>
        obtain ⟨k, adr, v, hik, hk, hgg2, rfl, hadr, rfl, ⟨Av, nv, cv, rfl⟩, HO6, HG6, HT6⟩ := hrel
        by_cases hlt2 : k < rs'.length
        · obtain rfl := hadr hlt2
          have hadrk : k < rs'.length → (⟨g, k, none⟩ : Addr) = ⟨g, k, none⟩ := fun _ => rfl
          clear hadr
          have HI6 := Aside0.mk (HI3.out.grown HG6.out.below)
          have k1 : (0 : Int) < ((rs'.length - k : Nat) : Int) := by omega
          have k2 : 0 < rs'.length - k := by omega
          have d0 := HI6.out.row k hlt2
          have dn := HI6.out.num
          obtain ⟨b2, o2, ha2, _, _⟩ := C_at rs'[k].hC (by have := rs'[k].hn; omega)
          unfold encR at d0
          rw [ha2] at d0
          have hl2 := rs'[k].hn
          have hc2 := rs'[k].hc
          rw [hl2] at d0 hc2
          have hle2 : (n : Int) ≤ (rs'[k].c : Int) := by omega
          have hcx := Kd.C_below rs'[k].hC HI6.out.below
          have hcy := Kd.C_below rs'[i].hC HI6.out.below
          rw [ha2] at hcx
          rw [ha0] at hcy
          have HC43 := Aside0.mk (fun q => same_any n (by have := HN.out; omega) b2 o2 rs'[k].c rs'[k].l b0 o0 cc rs'[i].l (wr.drewN q) (by omega) (by omega) (Kd.C_below hcx ((Grown.refl _).drewN q).below) (Kd.C_below hcy ((Grown.refl _).drewN q).below))
          clear hcx hcy hc2 c0 cn
          by_cases hsm : rs'[k].l.take n = rs'[i].l.take n
          · simp only [hsm, decide_true] at HC43
            go_wp2_with fail
            go_quiet_o (first | (go_at_call 57; refine Calls.quiet_of (HC43.out _)))
            go_wp2_with fail
            have hlast := cells_at3 (by have h := Kd.C_below rs'[k].hC HI3.out.below; rw [ha2] at h; exact h) n (by omega)
            have z2 := hlast 0 _ rfl
            have z3 := hlast 1 _ rfl
            have z4 := hlast 2 _ rfl
            have z0 := HI3.out.row k hlt2
            have z1 := HI3.out.num
            unfold encR at z0
            rw [ha2, hl2] at z0
            have hy : rs'[k].l[n]! = lastS n rs'[k].l := rfl
            rw [hy] at z2 z3 z4
            rw [Nat.add_zero] at z2
            have HY8 := Aside0.mk (show lastS n rs'[k].l = lastS n rs'[k].l from rfl)
            obtain ⟨y, hyy⟩ : ∃ y, y = lastS n rs'[k].l := ⟨_, rfl⟩
            rw [← hyy] at z2 z3 z4
            have HYY := Aside0.mk hyy
            clear hlast hy HC43 HY8 hyy d0 dn
            have kn : (n : Int) < ((n + 1 : Nat) : Int) := by omega
            generalize hw8 : wr.drewN _ = w8
            have hg8 : Grown wr w8 := by rw [← hw8]; exact (Grown.refl _).drewN _
            have HO8 := Aside0.mk (own_step HO6.out hg8)
            have HG8 := Aside0.mk (HG6.out.trans hg8)
            have KEEP : Aside0 (∀ W', Grown wz W' → W'.cell? ⟨g, k, none⟩ = some (Value.slice (some { block := b2, off := o2 }) (n + 1) rs'[k].c) ∧ W'.cell? ⟨bn, 0, none⟩ = some (.int .i64 (n : Int)) ∧ W'.cell? ⟨b2, o2 + n * 3, none⟩ = some (.int .i64 y.f0) ∧ W'.cell? ⟨b2, o2 + n * 3 + 1, none⟩ = some (.int .i64 y.f1) ∧ W'.cell? ⟨b2, o2 + n * 3 + 2, none⟩ = some (.string y.f2) ∧ Grown wz W') :=
              ⟨fun W' h => ⟨grown_cell h _ _ z0, grown_cell h _ _ z1, grown_cell h _ _ z2, grown_cell h _ _ z3, grown_cell h _ _ z4, h⟩⟩
            obtain ⟨i0, hi0, hz0, hz1, hz2⟩ := info_parts Prog.infoV
            have p0 := eq_true (show (0 : Int) ≤ (n : Int) by omega)
            have p1 := eq_true (show (n : Int) < ((n + 1 : Nat) : Int) by omega)
            have p2 := eq_true (show (n : Int) < (n : Int) + 1 by omega)
            clear hw8 hg8 kn z0 z1 z2 z3 z4
            go_region_held3 (fun W' => W'.cell? ⟨g, k, none⟩ = some (Value.slice (some { block := b2, off := o2 }) (n + 1) rs'[k].c) ∧ W'.cell? ⟨bn, 0, none⟩ = some (.int .i64 (n : Int)) ∧ W'.cell? ⟨b2, o2 + n * 3, none⟩ = some (.int .i64 y.f0) ∧ W'.cell? ⟨b2, o2 + n * 3 + 1, none⟩ = some (.int .i64 y.f1) ∧ W'.cell? ⟨b2, o2 + n * 3 + 2, none⟩ = some (.string y.f2) ∧ Grown wz W')
              (exact KEEP.out _ (by repeat (first | assumption | exact HG8.out | apply Grown.alloc | apply Grown.drew | apply Grown.drewN)))
              (first | (refine append_step_d _ (by rfl) (.tmp 40) (.tmp 47) 22 (by rfl) wz.heap.size 25 i0 _ 3 32 Tryz.underlying22 hi0 hz0 hz1 hz2 rfl (by decide) (.slice Av nv cv) (k - i) _ rfl (own_step HO8.out (by repeat (first | assumption | exact Grown.refl _ | apply Grown.alloc | apply Grown.drew | apply Grown.drewN))) ⟨w8.heap.size, 0, none⟩ 1 1 (encS y) rfl rfl (cells_new3 _ _ _) (encS_one y) (by unfold maxLen; have := HM.out; omega) (by have := HM.out; omega) (by have := HG8.out.size; simp; omega) ?_; intro v' w9 hown hgrow hnil9 hdr; have hG9 : Grown wz w9 := vals_grown HG8.out HO8.out (by repeat (first | assumption | exact Grown.refl _ | apply Grown.alloc | apply Grown.drew | apply Grown.drewN)) hgrow hdr))
            obtain ⟨g', cap', rfl⟩ := own_succ hown
            have HO9 := Aside0.mk hown
            have HG9 := Aside0.mk hG9
            clear hown hgrow hnil9 hdr hG9
            go_wp2_with fail
            all_goals go_roundg (rs'.length - (k + 1))
            all_goals first
              | omega
              | exact ⟨k + 1, _, _, by omega, by omega, Nat.le_refl _, slice_eq rfl (by omega) (by omega), (fun h => by first | rfl | omega), rfl, ⟨_, _, _, rfl⟩, ⟨vals_snoc (n := n) hik hlt2 HYY.out HO9.out⟩, HG9, ⟨same_snoc hik hlt2 HT6.out hsm⟩⟩
              | trace_state
          · have hsm' : decide (rs'[k].l.take n = rs'[i].l.take n) = false := decide_eq_false hsm
            rw [hsm'] at HC43
            have hik' : i < k := by
              rcases Nat.lt_or_ge i k with h | h
              · exact h
              · exfalso
                have : k = i := by omega
                subst this
                exact hsm rfl
            have HEND : Aside0 (∀ h : k < rs'.length, sameH n (rs'[i].l.take n) rs'[k].l = false) := ⟨fun _ => decide_eq_false hsm⟩
            clear hsm hsm'
            go_wp2_with fail
            go_quiet_o (first | (go_at_call 57; refine Calls.quiet_of (HC43.out _)))
            go_upto_region 10 with (fail)
            generalize hwy : wr.drewN _ = wy
            have hgy : Grown wr wy := by rw [← hwy]; exact (Grown.refl _).drewN _
            have HOY := Aside0.mk (own_step HO6.out hgy)
            have HGY := Aside0.mk (HG6.out.trans hgy)
            clear hwy hgy HO6 HG6
            have HJY := Aside0.mk (abides_grown HJ.out HW3.out HJ3.out HGY.out)
            have HIY := Aside0.mk (HI3.out.grown HGY.out.below)
            obtain ⟨e1, hspan⟩ := round_facts HS3.out hik' hk HT6.out HEND.out
            obtain ⟨fn, tmps, assign, body, hy, hR⟩ := HY.out pre ⟨.slice (some ⟨b0, o0, none⟩) n cc, .slice Av nv cv, rs'[i].l.take n, (((rs'.map Ref.l).drop i).take (k - i)).map (lastS n)⟩ wy HJY.out (memG_mk HIY.out HCC.out ha0 HOY.out (by have := HM.out; omega) (by have := HN.out; omega) hl0 HTT.out) (by omega)
            dsimp only [encG] at hy
            have HSPAN := Aside0.mk hspan
            clear hspan
            refine (wpIn_wide (n := 7)).1 (wpIn_region_lit ?_)
            gi_wp2
            refine hR.mono ?_
            rintro e W3 (⟨rfl, hJ9, hk9⟩ | ⟨rfl, hJx9⟩)
            · have HJ9 := Aside0.mk hJ9
              have HK9 := Aside0.mk hk9
              clear hJ9 hk9 hR hy
              gi_wp2
              go_wp2
              go_roundg (rs'.length - k)
              case measure => omega
              case rel => exact ⟨k, _, _, hk, Nat.le_refl _, rfl, (fun h => by first | rfl | exact hadrk h | omega), by simp; omega, HJ9, ⟨HIY.out.round HK9.out⟩, HSPAN, ⟨Nat.le_trans HW3.out (Nat.le_trans HGY.out.size HK9.out.below.size)⟩⟩
            · have HJX := Aside0.mk hJx9
              clear hJx9 hR hy
              gi_wp2
              go_wp2
              refine bodyPost_ret (results_none rfl _ _ _) rfl ?_
              exact ⟨⟨_, rfl⟩, .inr ⟨_, ⟨_, HP.out, HSO.out, pre_spans HSPAN.out⟩, HJX.out⟩⟩
        · have hkk : k = rs'.length := by omega
          have hik' : i < k := by omega
          have hadrk : k < rs'.length → adr = ⟨g, k, none⟩ := fun h => by omega
          have HEND : Aside0 (∀ h : k < rs'.length, sameH n (rs'[i].l.take n) rs'[k].l = false) := ⟨fun h => by omega⟩
          have k1 : ((rs'.length - k : Nat) : Int) = 0 := by omega
          have k2 : rs'.length - k = 0 := by omega
          clear c0 cn
          go_wp2_with fail
          go_big_region_o
          go_upto_region 10 with (fail)
          generalize hwy : wr.drew = wy
          have hgy : Grown wr wy := by rw [← hwy]; exact (Grown.refl _).drew
          have HOY := Aside0.mk (own_step HO6.out hgy)
          have HGY := Aside0.mk (HG6.out.trans hgy)
          clear hwy hgy HO6 HG6
          have HJY := Aside0.mk (abides_grown HJ.out HW3.out HJ3.out HGY.out)
          have HIY := Aside0.mk (HI3.out.grown HGY.out.below)
          obtain ⟨e1, hspan⟩ := round_facts HS3.out hik' hk HT6.out HEND.out
          obtain ⟨fn, tmps, assign, body, hy, hR⟩ := HY.out pre ⟨.slice (some ⟨b0, o0, none⟩) n cc, .slice Av nv cv, rs'[i].l.take n, (((rs'.map Ref.l).drop i).take (k - i)).map (lastS n)⟩ wy HJY.out (memG_mk HIY.out HCC.out ha0 HOY.out (by have := HM.out; omega) (by have := HN.out; omega) hl0 HTT.out) (by omega)
          dsimp only [encG] at hy
          have HSPAN := Aside0.mk hspan
          clear hspan
          refine (wpIn_wide (n := 7)).1 (wpIn_region_lit ?_)
          gi_wp2
          refine hR.mono ?_
          rintro e W3 (⟨rfl, hJ9, hk9⟩ | ⟨rfl, hJx9⟩)
          · have HJ9 := Aside0.mk hJ9
            have HK9 := Aside0.mk hk9
            clear hJ9 hk9 hR hy
            gi_wp2
            go_wp2
            go_roundg (rs'.length - k)
            case measure => omega
            case rel => exact ⟨k, _, adr, hk, Nat.le_refl _, slice_eq rfl (by omega) (by omega), (fun h => by omega), by simp; omega, HJ9, ⟨HIY.out.round HK9.out⟩, HSPAN, ⟨Nat.le_trans HW3.out (Nat.le_trans HGY.out.size HK9.out.below.size)⟩⟩
          · have HJX := Aside0.mk hJx9
            clear hJx9 hR hy
            gi_wp2
            go_wp2
            refine bodyPost_ret (results_none rfl _ _ _) rfl ?_
            exact ⟨⟨_, rfl⟩, .inr ⟨_, ⟨_, HP.out, HSO.out, pre_spans HSPAN.out⟩, HJX.out⟩⟩
    · have hii : i = rs'.length := by omega
      have k1 : ((rs'.length - i : Nat) : Int) = 0 := by omega
      have k2 : rs'.length - i = 0 := by omega
      have HS4 : Aside0 (pre.map (fun x => (x.h, x.vs)) = spansL n (rs'.map Ref.l)) := ⟨by
        have h := HS3.out
        rw [hii, List.drop_eq_nil_of_le (by simp)] at h
        simpa [spansL, spans] using h⟩
      clear hadr
      go_wp2
      go_end0
      exact ⟨⟨_, rfl⟩, .inl ⟨_, ⟨_, HP.out, HSO.out, HS4.out⟩, HJ3.out⟩⟩
end Go.Proofs.YtolefpeiceiocaaGreat.Ps
