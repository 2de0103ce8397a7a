/- WHAT THE REFERENCES' Compare, Order AND FEW COMPUTE: plain, no program in sight. No condition but lengths that Go may have. -/
import Derived.Test.YtolefpeiceiocaaPs3
import Derived.Test.YtolefpeiceiocaaGgroups
import Derived.Test.YtolefpeiceiocaaPaw
import Derived.Test.YtolefpeiceiocaaArgs
namespace Go.Proofs.Ytolefpeiceiocaa.Ps
open Go Go.RowKit Go.Proofs.YtolefpeiceiocaaW.PrintWords Go.Proofs.YtolefpeiceiocaaW.PrintLast
set_option linter.unusedVariables false

theorem rcmp_eq (x y : Sv) : antecedentref02_Compare.f x.f0 x.f1 x.f2 y.f0 y.f1 y.f2 = some (cmpS x y) := by
  unfold antecedentref02_Compare.f cmpS
  rw [AnteVal.vcmp_walk]
  show _ = some (if (x.f0 != y.f0) = true then (if x.f0 < y.f0 then (-1 : Int) else 1) else if (x.f1 != y.f1) = true then (if x.f1 < y.f1 then (-1 : Int) else 1) else if Op.bytesLess x.f2.toList y.f2.toList = true then (-1 : Int) else if (!x.f2.toList == y.f2.toList) = true then (1 : Int) else 0)
  have b0 : ((x.f0 != y.f0) = true) = ¬ (x.f0 = y.f0) := by simp
  have b1 : ((x.f1 != y.f1) = true) = ¬ (x.f1 = y.f1) := by simp
  have b2 : ((!x.f2.toList == y.f2.toList) = true) = ¬ (x.f2.toList = y.f2.toList) := by simp
  have b3 : ((Op.bytesLess x.f2.toList y.f2.toList || (x.f2.toList == y.f2.toList)) = true) = (Op.bytesLess x.f2.toList y.f2.toList = true ∨ x.f2.toList = y.f2.toList) := by simp
  simp only [b0, b1, b2, b3]
  by_cases h0 : x.f0 = y.f0
  · by_cases h1 : x.f1 = y.f1
    · by_cases h2 : Op.bytesLess x.f2.toList y.f2.toList = true
      · simp [h0, h1, h2]
      · by_cases h3 : x.f2.toList = y.f2.toList
        · rw [if_pos h0, if_pos h1, if_neg h2, if_pos (.inr h3), if_neg (not_not_intro h0), if_neg (not_not_intro h1), if_neg h2, if_neg (not_not_intro h3)]
        · rw [if_pos h0, if_pos h1, if_neg h2, if_neg (fun h => h.elim h2 h3), if_neg (not_not_intro h0), if_neg (not_not_intro h1), if_neg h2, if_pos h3]
    · rw [if_pos h0, if_neg h1, if_neg (not_not_intro h0), if_pos h1]
      split <;> rfl
  · rw [if_neg h0, if_pos h0]
    split <;> rfl

end Go.Proofs.Ytolefpeiceiocaa.Ps
