/- LAYER 20: awake is true; a few words on sets. Plain. -/
import Derived.Test.YtolefpeiceiocaaGreatPsAw
import Derived.Test.YtolefpeiceiocaaGreatPof
namespace Go.Proofs.YtolefpeiceiocaaGreat.Ps
open Go Go.RowKit Go.Proofs.YtolefpeiceiocaaGreatW.PrintWords Go.Proofs.YtolefpeiceiocaaGreatW.PrintLast
set_option linter.unusedVariables false

def w3 : List Sv := [⟨1, 5, emp⟩, ⟨1, 3, emp⟩, ⟨1, 5, emp⟩]
theorem emp_le : emp.size ≤ maxLen := by unfold maxLen emp; decide
theorem okS_int {n : Int} (h : inI n) : okS ⟨1, n, emp⟩ := ⟨by show inI 1; decide, h, emp_le⟩
theorem w3_ok : okL w3 := ⟨by decide, fun x hx => by
  unfold w3 at hx
  simp only [List.mem_cons, List.not_mem_nil, or_false] at hx
  rcases hx with rfl | rfl | rfl <;> exact okS_int (by decide)⟩
theorem w3_of : four (ofP 1 w3) = (1, 2, emp, 0) := by kernel_rfl
theorem w3_set : (setL w3).length = 2 := by kernel_rfl
theorem w3_groups : (groupsP 2 [w3.take 2, w3.drop 1]).2 = 0 ∧ (groupsP 2 [w3.take 2, w3.drop 1]).1.length = 2 := ⟨by kernel_rfl, by kernel_rfl⟩
theorem awake_eq (k : Nat) (hk : 4 ≤ k) : antecedentlaw20_awake.f k = some true := by
  unfold antecedentlaw20_awake.f
  rw [Option.bind_some, show ([(⟨1, 5, (⟨#[]⟩ : ByteArray)⟩ : Sv), (⟨1, 3, (⟨#[]⟩ : ByteArray)⟩ : Sv), (⟨1, 5, (⟨#[]⟩ : ByteArray)⟩ : Sv)] : List Sv) = w3 from rfl, Of_eq 1 w3 (by decide) w3_ok k (by show 3 < k; omega), Option.bind_some, w3_of, if_pos (show (2 : Int) ≤ (w3.length : Int) by decide), if_pos (show (1 : Int) ≤ (w3.length : Int) by decide)]
  have h : fold_Groups.f 2 [w3.take 2, w3.drop 1] = some (groupsP 2 [w3.take 2, w3.drop 1]) := by
    have hok : okLL [w3.take 2, w3.drop 1] := by
      refine ⟨by decide, fun x hx => ?_⟩
      simp only [List.mem_cons, List.not_mem_nil, or_false] at hx
      rcases hx with rfl | rfl
      · exact ⟨by decide, fun y hy => w3_ok.2 y (List.mem_of_mem_take hy)⟩
      · exact ⟨by decide, fun y hy => w3_ok.2 y (List.mem_of_mem_drop hy)⟩
    unfold fold_Groups.f
    rw [if_pos ⟨hok, by decide⟩]
  rw [h, Option.bind_some, if_pos rfl, if_pos rfl, if_pos w3_groups.1, if_pos (by rw [w3_groups.2]; rfl)]
  have h2 : fold_Set.f w3 = some (setL w3) := by unfold fold_Set.f; rw [if_pos w3_ok]
  rw [h2, Option.bind_some, w3_set]
  rfl

end Go.Proofs.YtolefpeiceiocaaGreat.Ps
