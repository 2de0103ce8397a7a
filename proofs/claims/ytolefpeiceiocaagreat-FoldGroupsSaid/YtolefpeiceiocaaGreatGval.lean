/- VALUES AND ROWS OF VALUES, as the walks of layer 20 tell them. No condition. -/
import Derived.Test.YtolefpeiceiocaaGreatGclone
import Derived.Test.YtolefpeiceiocaaGreatV3
import Derived.Lib.OwnBridge
import Derived.Lib.RowBridge
import Derived.Shelf.SlicesQ.Reverse
import Derived.Shelf.SlicesE.Compact
import Derived.Laws.StructEq
namespace Go.Proofs.YtolefpeiceiocaaGreat.Ps
open Go Go.RowKit Go.Proofs.YtolefpeiceiocaaGreatW.PrintWords Go.Lib Go.Sort Go.Proofs
set_option linter.unusedVariables false

instance : Inhabited Sv := ⟨z25⟩
instance : DecidableEq Sv := fun a b => if h : a.f0 = b.f0 ∧ a.f1 = b.f1 ∧ a.f2 = b.f2 then isTrue (by cases a; cases b; obtain ⟨h1, h2, h3⟩ := h; simp only at h1 h2 h3; subst h1; subst h2; subst h3; rfl) else isFalse (fun e => h (by subst e; exact ⟨rfl, rfl, rfl⟩))
/-- A value's three cells. -/
def encS (x : Sv) : List Value := [.int .i64 x.f0, .int .i64 x.f1, .string x.f2]
theorem encS_len (x : Sv) : (encS x).length = 3 := rfl
theorem encS_one (x : Sv) : ∀ v ∈ encS x, v.oneCell' = true := fun v hv => by simp [encS] at hv; rcases hv with rfl | rfl | rfl <;> rfl
def eqB (x y : Sv) : Bool := decide (x = y)
theorem eqB_iff (x y : Sv) : eqB x y = (x.f0 == y.f0 && (x.f1 == y.f1 && x.f2.toList == y.f2.toList)) := by
  cases x with | mk a b c =>
  cases y with | mk a' b' c' =>
  unfold eqB
  have hc : c = c' ↔ c.toList = c'.toList := ⟨fun h => by rw [h], fun h => by
    have := AnteVal.V.ext' (a := ⟨0, 0, c⟩) (b := ⟨0, 0, c'⟩) rfl rfl h
    injection this⟩
  rw [Bool.eq_iff_iff]
  simp [hc]

theorem eqlS : EqlAt Tryz.prog 25 (fun x => .agg (encS x).toArray) eqB := by
  refine ⟨fun x y w => ?_, GuardAt.agg _ (by kernel_rfl)⟩
  have u3 := Tryz.underlying3
  have a3 := Tryz.isAgg3
  have z3 := Tryz.sizeOf3
  have u2 := Tryz.underlying2
  have a2 := Tryz.isAgg2
  have z2 := Tryz.sizeOf2
  have u9 := Tryz.underlying9
  have a9 := Tryz.isAgg9
  have z9 := Tryz.sizeOf9
  have hS : Tryz.prog.underlying 25 = some (.struct (Tryz.prog.fieldsOf 25)) := by kernel_rfl
  have hp : Tryz.prog.stoodInHeld 25 = false := by kernel_rfl
  rw [eqB_iff]
  simp only [encS]
  rw [run_eql_struct, show (10000 : Nat) = 9999 + 1 from rfl, run_equalIn_agg w 9999 25 _ _ hS hp]
  simp only [Program.fieldsOf, Tryz.underlying25]
  go_simp
  by_cases h1 : x.f0 = y.f0 <;> by_cases h2 : x.f1 = y.f1 <;> by_cases h3 : x.f2.toList = y.f2.toList <;> simp [h1, h2, h3]
end Go.Proofs.YtolefpeiceiocaaGreat.Ps
