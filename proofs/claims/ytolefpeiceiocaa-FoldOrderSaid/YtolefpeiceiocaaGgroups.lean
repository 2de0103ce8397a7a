/- fold.Groups, as the printed texts ask for it. Condition: fewer than a million tuples of fewer than a million values, as Go may have them. -/
import Derived.Test.YtolefpeiceiocaaGgrp
import Derived.Test.YtolefpeiceiocaaPof
namespace Go.Proofs.Ytolefpeiceiocaa.Ps
open Go Go.RowKit Go.Proofs.YtolefpeiceiocaaW.PrintWords Go.Proofs.YtolefpeiceiocaaW.PrintLast
set_option linter.unusedVariables false

theorem fold_Groups.calls (a0 : Int) (A1 : Option Addr) (c1 : Nat) (l1 : List (List Sv)) (r1 : List (List Sv)) (r2 : Int) (w : World) (hr1 : Kd.C (Kd.slice 27 k27) w A1 l1.length l1) (_hc1 : l1.length ≤ c1) (h : fold_Groups.f a0 l1 = some (r1, r2)) :
    Calls Try.prog 11 #[.int .i64 a0, .slice A1 l1.length c1] w fun e w' => ∃ v, e = .returned (.tuple #[v, .int .i64 r2]) ∧
      Kd.N (Kd.slice 27 k27) 22 w' w.heap.size (fun k => True ∧ w.heap.size ≤ k ∧ k < w'.heap.size ∧ ∃ q, q ∈ 22 :: (Kd.slice 27 k27).E ∧ ∃ cells, w'.heap[k]? = some (.cells cells q (0, 0))) v r1 ∧ RowKit.Below w.heap.size w w' := by
  unfold fold_Groups.f at h
  split at h
  · rename_i hh
    have e := Option.some.inj h
    rw [Prod.ext_iff] at e
    obtain ⟨rfl, rfl⟩ := e
    refine (groups_walk a0 A1 c1 l1 w hh.1 hr1 (fun vs A d W hok hle hC => ?_)).mono ?_
    · exact fold_Of.calls (vs.length + 1) a0 A d vs _ _ _ _ W hC hle (Of_eq a0 vs hh.2 hok (vs.length + 1) (by omega))
    · rintro e w' ⟨v, rfl, hR, hb⟩
      exact ⟨v, rfl, Kd.R_N (Kd.R_bound hR), hb⟩
  · cases h
end Go.Proofs.Ytolefpeiceiocaa.Ps
