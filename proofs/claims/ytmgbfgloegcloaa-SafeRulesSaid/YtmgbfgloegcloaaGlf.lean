/- HOW A STRUCT OF MANY CELLS IS LOADED AT ONCE: its cells are told in a list. No condition. -/
import Derived.Test.YtmgbfgloegcloaaWWords
import Derived.WalkKit
import Derived.Laws.IdiomCopy
namespace Go.Proofs.Ytmgbfgloegcloaa.Ps
open Go Go.RowKit Go.Proofs.YtmgbfgloegcloaaW
def CellsAt (w : World) (p : Addr) : Nat → List Value → Prop
  | _, [] => True
  | 0, v :: r => w.cell? p = some v ∧ CellsAt w p 1 r
  | k + 1, v :: r => w.cell? ⟨p.block, p.off + (k + 1), none⟩ = some v ∧ CellsAt w p (k + 2) r
theorem CellsAt.get {w : World} {p : Addr} : ∀ {vs : List Value} {k : Nat}, CellsAt w p k vs → ∀ j v, vs[j]? = some v → w.cell? (p.add (k + j)) = some v
  | [], _, _, j, v, hv => by simp at hv
  | u :: r, 0, h, 0, v, hv => by
    simp only [List.getElem?_cons_zero, Option.some.injEq] at hv
    subst hv
    exact h.1
  | u :: r, 0, h, j + 1, v, hv => by
    have := CellsAt.get h.2 j v (by simpa using hv)
    rwa [show 0 + (j + 1) = 1 + j by omega]
  | u :: r, k + 1, h, 0, v, hv => by
    simp only [List.getElem?_cons_zero, Option.some.injEq] at hv
    subst hv
    exact h.1
  | u :: r, k + 1, h, j + 1, v, hv => by
    have := CellsAt.get h.2 j v (by simpa using hv)
    rwa [show k + 1 + (j + 1) = k + 2 + j by omega]
theorem run_loadVar_cells {P : Program} (w : World) (p : Addr) (ty : TypeId) (cs : List Value) (d : TypeDesc) (hg : CellsAt w p 0 cs)
    (hu : P.underlying ty = some d) (hd : (match d with | .struct _ | .array _ _ => true | _ => false) = true) (hi : (P.info? ty).map (·.size) = some cs.length) :
    (loadVar ty p).run P w = .ok (.agg cs.toArray) w := by
  have hl : (loadCells p cs.length).run P w = .ok cs.toArray w := run_loadCells_list (P := P) w p cs (fun j v hv => by
    have := hg.get j v hv
    rwa [Nat.zero_add] at this)
  cases hq : P.info? ty with
  | none => simp [hq] at hi
  | some i =>
    have hs : i.size = cs.length := by simpa [hq] using hi
    have hagg : (isAgg ty).run P w = .ok true w := by
      unfold isAgg
      rw [Sem.run_bind, run_underlying hu w]
      cases d <;> simp_all
    simp [loadVar, Sem.run_bind, hagg, sizeOf, typeInfo, hq, hs, hl]
theorem wp_load_cells {P : Program} {o : Oper} {a : Act} {w : World} {K : Act → World → Prop} {Q : Exit → Act → World → Prop} (ty : TypeId) (x : Operand) (ho : o.op = .load ty x)
    (p : Addr) (hx : a.eval x = .pointer (some p)) (cs : List Value) (d : TypeDesc) (hg : CellsAt w p 0 cs)
    (hu : P.underlying ty = some d) (hd : (match d with | .struct _ | .array _ _ => true | _ => false) = true) (hi : (P.info? ty).map (·.size) = some cs.length)
    (h : K (a.put o.dst (.agg cs.toArray)) w) : o.wp P a w K Q := by
  unfold Oper.wp execOp
  simp only [ho, hx, Instr.loadAt, Instr.sureAddr, Sem.run_bind, Sem.run_pure, Result.andThen_ok, run_loadVar_cells w p ty cs d hg hu hd hi]
  exact h
theorem qG {g : Nat} {t : TypeId} : ∀ (vs : List Value) (i : Nat) (cur : List Value) (w : World), w.heap[g]? = some (.cells cur.toArray t (0, 0)) → i + vs.length = cur.length →
    (w.setCells g i vs).heap[g]? = some (.cells (cur.take i ++ vs).toArray t (0, 0))
  | [], i, cur, w, hg, hl => by
    have : cur.take i = cur := List.take_of_length_le (by simp at hl; omega)
    rw [this, List.append_nil]; exact hg
  | v :: r, i, cur, w, hg, hl => by
    have hi : i < cur.length := by simp at hl; omega
    have h1 : (w.setCell ⟨g, i, none⟩ v).heap[g]? = some (.cells (cur.set i v).toArray t (0, 0)) := by
      have := PrintWords.blk_set hg i v
      rwa [List.setIfInBounds_toArray] at this
    have ih := qG r (i + 1) (cur.set i v) (w.setCell ⟨g, i, none⟩ v) h1 (by simp at hl ⊢; omega)
    have e : (cur.set i v).take (i + 1) ++ r = cur.take i ++ v :: r := by
      apply List.ext_getElem?
      intro k
      simp only [List.getElem?_append, List.length_take, List.length_set]
      by_cases hk : k < i
      · simp [hk, show k < i + 1 by omega, show min (i + 1) cur.length = i + 1 by omega, show min i cur.length = i by omega, show i ≠ k by omega]
      · by_cases hk2 : k = i
        · subst hk2
          simp [show min (k + 1) cur.length = k + 1 by omega, show min k cur.length = k by omega]
        · simp [hk, show ¬ k < i + 1 by omega, show min (i + 1) cur.length = i + 1 by omega, show min i cur.length = i by omega, show k - i = (k - (i + 1)) + 1 by omega]
    rw [← e]
    exact ih
theorem wp_store_cells {P : Program} {o : Oper} {a : Act} {w : World} {K : Act → World → Prop} {Q : Exit → Act → World → Prop} (ty : TypeId) (x y : Operand) (ho : o.op = .store ty x y)
    (g : Nat) (vs : List Value) (hx : a.eval x = .pointer (some ⟨g, 0, none⟩)) (hy : a.eval y = .agg vs.toArray)
    (t : TypeId) (old : Array Value) (hg : w.heap[g]? = some (.cells old t (0, 0))) (hi : (P.info? ty).map (·.size) = some vs.length)
    (hold : old.size = vs.length) (h1 : vs.all (·.oneCell') = true)
    (h : K (a.put o.dst undef) (w.setCells g 0 vs)) : o.wp P a w K Q := by
  have hc : ∀ j, j < vs.length → (w.cell? ⟨g, 0 + 0 + j, none⟩).isSome = true := fun j hj => by
    have : j < old.size := by omega
    rw [cell_of_row w g _ old t (0, 0) hg]
    simp [this]
  have hf : ∀ j, j < vs.length → w.frozen? ⟨g, 0 + 0 + j, none⟩ = false := fun j _ => by simp [World.frozen?, hg]
  have hst := run_storeCells_cells (P := P) g 0 vs 0 w hc hf (fun v hv => (List.all_eq_true.1 h1) v hv)
  have hsv : (storeVar ty ⟨g, 0, none⟩ (.agg vs.toArray)).run P w = .ok () (w.setCells g 0 vs) := by
    cases hq : P.info? ty with
    | none => simp [hq] at hi
    | some i =>
      have hs : vs.length = i.size := by simp [hq] at hi; omega
      simp [storeVar, sizeOf, typeInfo, hq, Value.cells, hs, hst]
  unfold Oper.wp execOp
  simp only [ho, hx, hy, Instr.storeAt, Instr.sureAddr, Sem.run_bind, Sem.run_pure, Result.andThen_ok, hsv]
  exact h
end Go.Proofs.Ytmgbfgloegcloaa.Ps
namespace Go.Proofs.Ytmgbfgloegcloaa.Ps
open Go Go.RowKit Go.Proofs.YtmgbfgloegcloaaW
theorem exec_load_cells {P : Program} {o : Oper} {a : Act} {w : World} {ty : TypeId} {x : Operand} {p : Addr} {cs : List Value} {d : TypeDesc} (ho : o.op = .load ty x)
    (hx : a.eval x = .pointer (some p)) (hg : CellsAt w p 0 cs)
    (hu : P.underlying ty = some d) (hd : (match d with | .struct _ | .array _ _ => true | _ => false) = true) (hi : (P.info? ty).map (·.size) = some cs.length) :
    (execOp a.eval o).run P w = .ok (.value (.agg cs.toArray)) w := by
  unfold execOp
  simp only [ho, hx, Instr.loadAt, Instr.sureAddr, Sem.run_bind, Sem.run_pure, Result.andThen_ok, run_loadVar_cells w p ty cs d hg hu hd hi]
open Go.Proofs.YtmgbfgloegcloaaW.PrintWords
theorem blk17 {w : World} {g : Nat} {t : TypeId} {v0 v1 v2 v3 v4 v5 v6 v7 v8 v9 v10 v11 v12 v13 v14 v15 v16 : Value} (h : w.heap[g]? = some (.cells #[v0, v1, v2, v3, v4, v5, v6, v7, v8, v9, v10, v11, v12, v13, v14, v15, v16] t (0, 0))) :
    w.cell? ⟨g, 0, none⟩ = some v0 ∧ w.cell? ⟨g, 1, none⟩ = some v1 ∧ w.cell? ⟨g, 2, none⟩ = some v2 ∧ w.cell? ⟨g, 3, none⟩ = some v3 ∧ w.cell? ⟨g, 4, none⟩ = some v4 ∧ w.cell? ⟨g, 5, none⟩ = some v5 ∧ w.cell? ⟨g, 6, none⟩ = some v6 ∧ w.cell? ⟨g, 7, none⟩ = some v7 ∧ w.cell? ⟨g, 8, none⟩ = some v8 ∧ w.cell? ⟨g, 9, none⟩ = some v9 ∧ w.cell? ⟨g, 10, none⟩ = some v10 ∧ w.cell? ⟨g, 11, none⟩ = some v11 ∧ w.cell? ⟨g, 12, none⟩ = some v12 ∧ w.cell? ⟨g, 13, none⟩ = some v13 ∧ w.cell? ⟨g, 14, none⟩ = some v14 ∧ w.cell? ⟨g, 15, none⟩ = some v15 ∧ w.cell? ⟨g, 16, none⟩ = some v16 :=
  ⟨(zf h 0).trans rfl, (zf h 1).trans rfl, (zf h 2).trans rfl, (zf h 3).trans rfl, (zf h 4).trans rfl, (zf h 5).trans rfl, (zf h 6).trans rfl, (zf h 7).trans rfl, (zf h 8).trans rfl, (zf h 9).trans rfl, (zf h 10).trans rfl, (zf h 11).trans rfl, (zf h 12).trans rfl, (zf h 13).trans rfl, (zf h 14).trans rfl, (zf h 15).trans rfl, (zf h 16).trans rfl⟩
end Go.Proofs.Ytmgbfgloegcloaa.Ps
set_option linter.unusedVariables false
namespace Go.Proofs.Ytmgbfgloegcloaa.Ps
open Go Go.RowKit Go.Proofs.YtmgbfgloegcloaaW Go.Proofs.YtmgbfgloegcloaaW.PrintWords
theorem exec_store_cells {P : Program} {o : Oper} {a : Act} {w : World} {ty : TypeId} {x y : Operand} {g : Nat} {vs : List Value} {t : TypeId} {old : Array Value} (ho : o.op = .store ty x y)
    (hx : a.eval x = .pointer (some ⟨g, 0, none⟩)) (hy : a.eval y = .agg vs.toArray)
    (hg : w.heap[g]? = some (.cells old t (0, 0))) (hi : (P.info? ty).map (·.size) = some vs.length)
    (hold : old.size = vs.length) (h1 : vs.all (·.oneCell') = true) :
    (execOp a.eval o).run P w = .ok .skip (w.setCells g 0 vs) := by
  have hc : ∀ j, j < vs.length → (w.cell? ⟨g, 0 + 0 + j, none⟩).isSome = true := fun j hj => by
    have : j < old.size := by omega
    rw [cell_of_row w g _ old t (0, 0) hg]
    simp [this]
  have hf : ∀ j, j < vs.length → w.frozen? ⟨g, 0 + 0 + j, none⟩ = false := fun j _ => by simp [World.frozen?, hg]
  have hst := run_storeCells_cells (P := P) g 0 vs 0 w hc hf (fun v hv => (List.all_eq_true.1 h1) v hv)
  have hsv : (storeVar ty ⟨g, 0, none⟩ (.agg vs.toArray)).run P w = .ok () (w.setCells g 0 vs) := by
    cases hq : P.info? ty with
    | none => simp [hq] at hi
    | some i =>
      have hs : vs.length = i.size := by simp [hq] at hi; omega
      simp [storeVar, sizeOf, typeInfo, hq, Value.cells, hs, hst]
  unfold execOp
  simp only [ho, hx, hy, Instr.storeAt, Instr.sureAddr, Sem.run_bind, Sem.run_pure, Result.andThen_ok, hsv]
theorem yJ : ∀ (vs : List Value) (i : Nat) (w : World) {g b : Nat}, b ≠ g → (w.setCells g i vs).heap[b]? = w.heap[b]?
  | [], _, _, _, _, _ => rfl
  | v :: r, i, w, g, b, h => (yJ r (i + 1) (w.setCell ⟨g, i, none⟩ v) h).trans (Below.heap_setCell w ⟨g, i, none⟩ v b h)
theorem farS {vs : List Value} {i : Nat} {w : World} {g : Nat} {a : Addr} (h : a.block ≠ g) : (w.setCells g i vs).cell? a = w.cell? a := by
  have := yJ vs i w h
  simp [World.cell?, this]
theorem blkS {vs : List Value} {w : World} {g : Nat} {old : Array Value} {t : TypeId} (h : w.heap[g]? = some (.cells old t (0, 0))) (hl : old.size = vs.length) : (w.setCells g 0 vs).heap[g]? = some (.cells vs.toArray t (0, 0)) := by
  have := qG vs 0 old.toList w (by simpa using h) (by simpa using hl.symm)
  simpa using this
theorem belowS {W : World} {B : Nat} : ∀ {vs : List Value} {i : Nat} {w : World} {g : Nat}, B ≤ g → Below B W w → Below B W (w.setCells g i vs)
  | [], _, _, _, _, h => h
  | v :: r, i, w, g, hg, h => belowS (vs := r) hg (h.setCell (p := ⟨g, i, none⟩) hg v)
end Go.Proofs.Ytmgbfgloegcloaa.Ps
