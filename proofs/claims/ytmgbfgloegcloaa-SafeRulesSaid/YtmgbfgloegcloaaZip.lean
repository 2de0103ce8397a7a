/- HOW FACTS GO OVER FROM A WORLD TO A LATER ONE, in few words. No condition. -/
import Derived.Test.YtmgbfgloegcloaaWMore
import Derived.Test.YtmgbfgloegcloaaWN
import Derived.Test.YtmgbfgloegcloaaWShare
set_option linter.unusedVariables false
namespace Go.Proofs.YtmgbfgloegcloaaW.PrintWords
open Go Go.RowKit
class Up (w W : World) : Prop where up : Below w.heap.size w W
instance up_refl (w : World) : Up w w := ⟨Below.refl _ _⟩
instance up_alloc (w W : World) (o : Obj) [h : Up w W] : Up w (W.alloc o) := ⟨zd h.up o⟩
instance up_drew (w W : World) [h : Up w W] : Up w W.drew := ⟨below_drew h.up⟩
instance up_drewN (w W : World) (n : Nat) [h : Up w W] : Up w (W.drewN n) := ⟨zc h.up n⟩
section
variable {α : Type} {d : Kd α} {e base n : Nat} {w w0 W : World} {ok : Nat → Prop} {A : Option Addr} {v : Value} {xs : List α}
theorem uv (h : Kd.V d e w base ok v xs) [u : Up w W] : Kd.V d e W base ok v xs := Kd.zN h u.up
theorem ur (h : Kd.R d e w base ok v xs) [u : Up w W] : Kd.R d e W base ok v xs := Kd.yb h u.up
theorem un (h : Kd.N d e w base ok v xs) [u : Up w W] : Kd.N d e W base ok v xs := Kd.yG h u.up
theorem uc (h : Kd.C d w A n xs) [u : Up w W] : Kd.C d W A n xs := Kd.zL h u.up
theorem ul {g : Nat} {o : Obj} (h : w.heap[g]? = some o) [u : Up w W] : W.heap[g]? = some o := zo h u.up
theorem ub (h : Below w0.heap.size w0 w) [u : Up w W] : Below w0.heap.size w0 W := yg h h.size u.up
end
theorem zh {w W : World} {g j : Nat} {v : Value} (h : Below w.heap.size w W) (hg : zb (w.heap.size ≤ g)) : Below w.heap.size w (W.setCell ⟨g, j, none⟩ v) := below_set h hg.out
theorem blk2 {w : World} {g : Nat} {t : TypeId} {v0 v1 : Value} (h : w.heap[g]? = some (.cells #[v0, v1] t (0, 0))) : w.cell? ⟨g, 0, none⟩ = some v0 ∧ w.cell? ⟨g, 1, none⟩ = some v1 := ⟨zf h 0, zf h 1⟩
theorem blk3 {w : World} {g : Nat} {t : TypeId} {v0 v1 v2 : Value} (h : w.heap[g]? = some (.cells #[v0, v1, v2] t (0, 0))) : w.cell? ⟨g, 0, none⟩ = some v0 ∧ w.cell? ⟨g, 1, none⟩ = some v1 ∧ w.cell? ⟨g, 2, none⟩ = some v2 := ⟨zf h 0, zf h 1, zf h 2⟩
theorem blk4 {w : World} {g : Nat} {t : TypeId} {v0 v1 v2 v3 : Value} (h : w.heap[g]? = some (.cells #[v0, v1, v2, v3] t (0, 0))) : w.cell? ⟨g, 0, none⟩ = some v0 ∧ w.cell? ⟨g, 1, none⟩ = some v1 ∧ w.cell? ⟨g, 2, none⟩ = some v2 ∧ w.cell? ⟨g, 3, none⟩ = some v3 := ⟨zf h 0, zf h 1, zf h 2, zf h 3⟩
theorem frz2 {w : World} {g : Nat} {t : TypeId} {cs : Array Value} (h : w.heap[g]? = some (.cells cs t (0, 0))) : w.frozen? ⟨g, 0, none⟩ = false ∧ w.frozen? ⟨g, 1, none⟩ = false := ⟨zX h 0, zX h 1⟩
theorem frz3 {w : World} {g : Nat} {t : TypeId} {cs : Array Value} (h : w.heap[g]? = some (.cells cs t (0, 0))) : w.frozen? ⟨g, 0, none⟩ = false ∧ w.frozen? ⟨g, 1, none⟩ = false ∧ w.frozen? ⟨g, 2, none⟩ = false := ⟨zX h 0, zX h 1, zX h 2⟩
theorem frz4 {w : World} {g : Nat} {t : TypeId} {cs : Array Value} (h : w.heap[g]? = some (.cells cs t (0, 0))) : w.frozen? ⟨g, 0, none⟩ = false ∧ w.frozen? ⟨g, 1, none⟩ = false ∧ w.frozen? ⟨g, 2, none⟩ = false ∧ w.frozen? ⟨g, 3, none⟩ = false := ⟨zX h 0, zX h 1, zX h 2, zX h 3⟩
theorem blk17 {w : World} {g : Nat} {t : TypeId} {v0 v1 v2 v3 v4 v5 v6 v7 v8 v9 v10 v11 v12 v13 v14 v15 v16 : Value} (h : w.heap[g]? = some (.cells #[v0, v1, v2, v3, v4, v5, v6, v7, v8, v9, v10, v11, v12, v13, v14, v15, v16] t (0, 0))) : w.cell? ⟨g, 0, none⟩ = some v0 ∧ w.cell? ⟨g, 1, none⟩ = some v1 ∧ w.cell? ⟨g, 2, none⟩ = some v2 ∧ w.cell? ⟨g, 3, none⟩ = some v3 ∧ w.cell? ⟨g, 4, none⟩ = some v4 ∧ w.cell? ⟨g, 5, none⟩ = some v5 ∧ w.cell? ⟨g, 6, none⟩ = some v6 ∧ w.cell? ⟨g, 7, none⟩ = some v7 ∧ w.cell? ⟨g, 8, none⟩ = some v8 ∧ w.cell? ⟨g, 9, none⟩ = some v9 ∧ w.cell? ⟨g, 10, none⟩ = some v10 ∧ w.cell? ⟨g, 11, none⟩ = some v11 ∧ w.cell? ⟨g, 12, none⟩ = some v12 ∧ w.cell? ⟨g, 13, none⟩ = some v13 ∧ w.cell? ⟨g, 14, none⟩ = some v14 ∧ w.cell? ⟨g, 15, none⟩ = some v15 ∧ w.cell? ⟨g, 16, none⟩ = some v16 := ⟨zf h 0, zf h 1, zf h 2, zf h 3, zf h 4, zf h 5, zf h 6, zf h 7, zf h 8, zf h 9, zf h 10, zf h 11, zf h 12, zf h 13, zf h 14, zf h 15, zf h 16⟩
theorem frz17 {w : World} {g : Nat} {t : TypeId} {cs : Array Value} (h : w.heap[g]? = some (.cells cs t (0, 0))) : w.frozen? ⟨g, 0, none⟩ = false ∧ w.frozen? ⟨g, 1, none⟩ = false ∧ w.frozen? ⟨g, 2, none⟩ = false ∧ w.frozen? ⟨g, 3, none⟩ = false ∧ w.frozen? ⟨g, 4, none⟩ = false ∧ w.frozen? ⟨g, 5, none⟩ = false ∧ w.frozen? ⟨g, 6, none⟩ = false ∧ w.frozen? ⟨g, 7, none⟩ = false ∧ w.frozen? ⟨g, 8, none⟩ = false ∧ w.frozen? ⟨g, 9, none⟩ = false ∧ w.frozen? ⟨g, 10, none⟩ = false ∧ w.frozen? ⟨g, 11, none⟩ = false ∧ w.frozen? ⟨g, 12, none⟩ = false ∧ w.frozen? ⟨g, 13, none⟩ = false ∧ w.frozen? ⟨g, 14, none⟩ = false ∧ w.frozen? ⟨g, 15, none⟩ = false ∧ w.frozen? ⟨g, 16, none⟩ = false := ⟨zX h 0, zX h 1, zX h 2, zX h 3, zX h 4, zX h 5, zX h 6, zX h 7, zX h 8, zX h 9, zX h 10, zX h 11, zX h 12, zX h 13, zX h 14, zX h 15, zX h 16⟩
theorem lift4 {w W : World} {a0 a1 a2 a3 : Addr} {v0 v1 v2 v3 : Value} (hb : Below w.heap.size w W) (h0 : w.cell? a0 = some v0) (h1 : w.cell? a1 = some v1) (h2 : w.cell? a2 = some v2) (h3 : w.cell? a3 = some v3) : W.cell? a0 = some v0 ∧ W.cell? a1 = some v1 ∧ W.cell? a2 = some v2 ∧ W.cell? a3 = some v3 := ⟨zg hb h0, zg hb h1, zg hb h2, zg hb h3⟩
theorem lift17 {w W : World} {a0 a1 a2 a3 a4 a5 a6 a7 a8 a9 a10 a11 a12 a13 a14 a15 a16 : Addr} {v0 v1 v2 v3 v4 v5 v6 v7 v8 v9 v10 v11 v12 v13 v14 v15 v16 : Value} (hb : Below w.heap.size w W) (h0 : w.cell? a0 = some v0) (h1 : w.cell? a1 = some v1) (h2 : w.cell? a2 = some v2) (h3 : w.cell? a3 = some v3) (h4 : w.cell? a4 = some v4) (h5 : w.cell? a5 = some v5) (h6 : w.cell? a6 = some v6) (h7 : w.cell? a7 = some v7) (h8 : w.cell? a8 = some v8) (h9 : w.cell? a9 = some v9) (h10 : w.cell? a10 = some v10) (h11 : w.cell? a11 = some v11) (h12 : w.cell? a12 = some v12) (h13 : w.cell? a13 = some v13) (h14 : w.cell? a14 = some v14) (h15 : w.cell? a15 = some v15) (h16 : w.cell? a16 = some v16) : W.cell? a0 = some v0 ∧ W.cell? a1 = some v1 ∧ W.cell? a2 = some v2 ∧ W.cell? a3 = some v3 ∧ W.cell? a4 = some v4 ∧ W.cell? a5 = some v5 ∧ W.cell? a6 = some v6 ∧ W.cell? a7 = some v7 ∧ W.cell? a8 = some v8 ∧ W.cell? a9 = some v9 ∧ W.cell? a10 = some v10 ∧ W.cell? a11 = some v11 ∧ W.cell? a12 = some v12 ∧ W.cell? a13 = some v13 ∧ W.cell? a14 = some v14 ∧ W.cell? a15 = some v15 ∧ W.cell? a16 = some v16 := ⟨zg hb h0, zg hb h1, zg hb h2, zg hb h3, zg hb h4, zg hb h5, zg hb h6, zg hb h7, zg hb h8, zg hb h9, zg hb h10, zg hb h11, zg hb h12, zg hb h13, zg hb h14, zg hb h15, zg hb h16⟩
theorem zdd {p : Prop} [Decidable p] (h : decide p = true := by first | (with_reducible assumption) | assumption) : p := of_decide_eq_true h
end Go.Proofs.YtmgbfgloegcloaaW.PrintWords
