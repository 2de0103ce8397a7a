/- FoldGroups: THE STATEMENT: any tuples' groups, each with what its last values are folded to, or the first error, are as the document says. No condition. -/
import Derived.Test.YtolefpeiceiocaaGreatRows
import Derived.Test.YtolefpeiceiocaaGreatKit
import Derived.Test.YtolefpeiceiocaaGreatArgs
import Derived.Test.YtolefpeiceiocaaGreatPsFG
import Derived.Test.YtolefpeiceiocaaGreatPgroups
namespace Go.Proofs.YtolefpeiceiocaaGreat.foldGroups
open Go.ChangeShapes Go.WideShapes Go.ChangeAt Go.RowKit Go.Proofs.YtolefpeiceiocaaGreatW.PrintWords

theorem own : ownKnob Tryz.prog.godebug = none := by kernel_rfl
theorem laid_out : laidOutB Tryz.prog = true := by kernel_rfl

set_option maxRecDepth 100000 in
theorem lifted (os : Os) (started : os.Started) (H : Type) (enc : TypeId × Value → H) :
    ReturnsInHanded {} Tryz.checked os 4 .any (Rows.foldGroupsSpec.pre6 enc Tryz.prog Tryz.f4 Rows.foldGroupsRow.domain false) (Rows.foldGroupsSpec.post enc Tryz.prog Tryz.f4 false true false false) := by
  refine returnsInHanded_of_change (C := Tryz.checked) own started (by kernel_rfl) Tryz.func4
    (ChangeSpec.witness6 (enc := enc) (C := Tryz.checked) false ⟨#[], #[.int .i64 0, .slice none 0 0], []⟩ 8 (by kernel_rfl) (by kernel_rfl) (by kernel_rfl) (by kernel_rfl)) ?_
  intro W base args ds gs before hval0 hW hcnd _
  have hval : ∀ (j : Nat) t v, Tryz.f4.params[j]? = some t → args[j]? = some v → Value.okWide Tryz.prog W .any base t v := hval0
  have hW' := hW
  obtain ⟨p, q, hA0, hV, rfl, hfz, hnd⟩ := hW
  have hA : DataW.TrodAll enc Tryz.prog W 0 (fun _ => true) true Tryz.f4.params.toList args.toList ds p := hA0
  rw [Tryz.params4] at hA hval
  obtain ⟨v0, vs0, d0, ds0, p0, q0, hargs, rfl, rfl, h0, r0⟩ := trodAll_cons hA
  obtain ⟨v1, vs1, d1, ds1, p1, q1, rfl, rfl, rfl, h1, r1⟩ := trodAll_cons r0
  obtain ⟨rfl, rfl, rfl⟩ := trodAll_nil r1
  obtain rfl : args = #[v0, v1] := by cases args; simp_all
  obtain ⟨rfl, rfl⟩ := trodVars_none hV
  obtain ⟨n0, rfl⟩ := okWide_int Tryz.underlying3 (hval 0 3 v0 rfl rfl)
  have hm0 := Ps.open_i64 Tryz.underlying3 h0
  obtain ⟨A1, c1, l1, rfl, e1, g1, f1⟩ := Ps.open_slice_wf Ps.opens34 Tryz.underlying34 (hval 1 34 v1 rfl rfl) h1
  clear hA0 hval0
  obtain ⟨k, hk⟩ := Ps.FoldGroups_plain n0 l1 hm0 f1
  refine (Ps.antecedentlaw20_FoldGroups.calls k n0 A1 c1 l1 true W g1 e1 hk).mono fun e W' ⟨he, hg⟩ => ?_
  subst he
  exact ⟨_, rfl, LawKit.post_law laid_out (by kernel_rfl) rfl Tryz.underlying4 rfl hW' ⟨rfl, rfl, rfl⟩ hg⟩

theorem over : Rows.foldGroupsRow.holds Tryz.pinned (OpenSpec.ofChange Rows.foldGroupsSpec) :=
  OpenClaim.holds_of_wide 4 Tryz.f4 rfl rfl rfl rfl rfl rfl rfl ⟨rfl, rfl, rfl, rfl, rfl⟩ rfl rfl rfl rfl rfl (by kernel_rfl) Tryz.func4 (by kernel_rfl)
    (of_decide_eq_true (by kernel_rfl)) (by unfold Func.isWrapper; first | (rw [if_pos (by decide +kernel)]; kernel_rfl) | (rw [if_neg (by decide +kernel)]; exact ⟨rfl, rfl⟩))
    (fun os started H enc _ => lifted os started H enc)

/-- THE STATEMENT -/
theorem proved : Rows.FoldGroupsSaid := over
end Go.Proofs.YtolefpeiceiocaaGreat.foldGroups
