/- LAYER 20: whole numbers as values. Plain. -/
import Derived.Test.YtolefpeiceiocaaPaw
import Derived.Test.YtolefpeiceiocaaArgs1
namespace Go.Proofs.Ytolefpeiceiocaa.Ps
open Go Go.RowKit Go.Proofs.YtolefpeiceiocaaW.PrintWords Go.Proofs.YtolefpeiceiocaaW.PrintLast
set_option linter.unusedVariables false

def vI (n : Int) : Sv := ⟨1, n, emp⟩
theorem vI_inj {a b : Int} (h : vI a = vI b) : a = b := by
  unfold vI at h
  injection h
theorem rd_int {l : List Int} {i : Nat} (h : i < l.length) : rd l (i : Int) = l[i] := by
  unfold rd
  rw [List.getD_eq_getElem?_getD, Int.toNat_natCast, List.getElem?_eq_getElem h]; rfl
theorem take_snoc_int {l : List Int} {i : Nat} (h : i < l.length) : l.take (i + 1) = l.take i ++ [l[i]] := by
  rw [List.take_succ_eq_append_getElem h]
end Go.Proofs.Ytolefpeiceiocaa.Ps
