/- WHAT '+', '-', '*', '/' ON float64 GIVE, WHETHER OR NOT THE OUTCOME IS A NaN (whose bits the tape chooses), as equations of the walk. No condition. -/
import Derived.Test.YtolefpeiceiocaaGreatPlain
import Derived.WalkKit
import Derived.WalkLawsBesides
import Derived.Deep.Draws
namespace Go.Proofs.YtolefpeiceiocaaGreat
open AnteFlo

/-- the NaN that the tape chooses -/
def nanq (w : World) (x y : Nat) : Nat := Question.cut (.nanBits .f64 x y) (w.tape w.drawn (.nanBits .f64 x y))
def fbits (op x y : Nat) (w : World) : Nat := (fop op x y).getD (nanq w x y)
def fworld (op x y : Nat) (w : World) : World := if (fop op x y).isSome then w else w.drew

theorem nan_of {u v b : Nat} (h : b = u * 2 ^ 63 + 9218868437227405312 + 1 + v) (hu : u < 2) (hv : v < 4503599627370495) : isNan b = true ∧ b < 18446744073709551616 := by
  unfold isNan
  rw [decide_eq_true_eq]
  omega

theorem nanq_nan (w : World) (x y : Nat) : isNan (nanq w x y) = true ∧ nanq w x y < 18446744073709551616 :=
  nan_of (u := w.tape w.drawn (.nanBits .f64 x y) % 2) (v := w.tape w.drawn (.nanBits .f64 x y) / 2 % (2 ^ 52 - 1)) rfl (by omega) (by omega)

theorem fworld_drewN (op x y : Nat) (w : World) : ∃ n, fworld op x y w = w.drewN n := by
  unfold fworld; split
  · exact ⟨0, rfl⟩
  · exact ⟨1, rfl⟩

theorem fop_lt {op x y r : Nat} (h : fop op x y = some r) : r < 18446744073709551616 := by
  unfold fop at h
  split at h
  · exact Ieee.Format.add_lt D h
  · split at h
    · exact Ieee.Format.sub_lt D h
    · split at h
      · exact Ieee.Format.mul_lt D h
      · exact Ieee.Format.div_lt D h

theorem fbits_lt (op x y : Nat) (w : World) : fbits op x y w < 18446744073709551616 := by
  unfold fbits
  cases h : fop op x y with
  | none => exact (nanq_nan w x y).2
  | some r => exact fop_lt h

theorem fbits_code (op x y : Nat) (w : World) : code (fbits op x y w) = ocode (fop op x y) := ocode_getD (nanq_nan w x y).1

theorem fbits_none {op x y : Nat} (h : fop op x y = none) (w : World) : isNan (fbits op x y w) = true := by unfold fbits; rw [h]; exact (nanq_nan w x y).1

section
variable {P : Program}
theorem run_fadd (t : TypeId) (x y : Nat) (w : World) : (binOp .add t (.float .f64 x) (.float .f64 y)).run P w = .ok (.float .f64 (fbits 0 x y w)) (fworld 0 x y w) := by
  unfold fbits fworld fop nanq
  have h : ∃ o, Ieee.double.add x y = o := ⟨_, rfl⟩
  obtain ⟨o, h⟩ := h
  cases o <;> simp [binOp, Op.floatArith, FloatKind.format, h, Question.forced] <;> rfl
theorem run_fdiv (t : TypeId) (x y : Nat) (w : World) : (binOp .quo t (.float .f64 x) (.float .f64 y)).run P w = .ok (.float .f64 (fbits 3 x y w)) (fworld 3 x y w) := by
  unfold fbits fworld fop nanq
  have h : ∃ o, Ieee.double.div x y = o := ⟨_, rfl⟩
  obtain ⟨o, h⟩ := h
  cases o <;> simp [binOp, Op.floatArith, FloatKind.format, h, Question.forced] <;> rfl
end
end Go.Proofs.YtolefpeiceiocaaGreat
