/- FoldWide: THE STATEMENT: a sum that fits is told, though parts of it do not. No condition. -/
import Derived.Test.YtolefpeiceiocaaRows
import Derived.Test.YtolefpeiceiocaaKit
import Derived.Test.YtolefpeiceiocaaArgs1
import Derived.Test.YtolefpeiceiocaaPs7
import Derived.Test.YtolefpeiceiocaaPwide
namespace Go.Proofs.Ytolefpeiceiocaa.foldWide
open Go.ChangeShapes Go.WideShapes Go.ChangeAt Go.RowKit Go.Proofs.YtolefpeiceiocaaW.PrintWords

theorem own : ownKnob Try.prog.godebug = none := by kernel_rfl
theorem laid_out : laidOutB Try.prog = true := by kernel_rfl

set_option maxRecDepth 100000 in
theorem lifted (os : Os) (started : os.Started) (H : Type) (enc : TypeId × Value → H) :
    ReturnsInHanded {} Try.checked os 6 .any (Rows.foldWideSpec.pre6 enc Try.prog Try.f6 Rows.foldWideRow.domain false) (Rows.foldWideSpec.post enc Try.prog Try.f6 false true false false) := by
  refine returnsInHanded_of_change (C := Try.checked) own started (by kernel_rfl) Try.func6
    (ChangeSpec.witness6 (enc := enc) (C := Try.checked) false ⟨#[], #[.slice none 0 0, .int .i64 0], []⟩ 8 (by kernel_rfl) (by kernel_rfl) (by kernel_rfl) (by kernel_rfl)) ?_
  intro W base args ds gs before hval0 hW hcnd _
  have hval : ∀ (j : Nat) t v, Try.f6.params[j]? = some t → args[j]? = some v → Value.okWide Try.prog W .any base t v := hval0
  have hW' := hW
  obtain ⟨p, q, hA0, hV, rfl, hfz, hnd⟩ := hW
  have hA : DataW.TrodAll enc Try.prog W 0 (fun _ => true) true Try.f6.params.toList args.toList ds p := hA0
  rw [Try.params6] at hA hval
  obtain ⟨v0, vs0, d0, ds0, p0, q0, hargs, rfl, rfl, h0, r0⟩ := trodAll_cons hA
  obtain ⟨v1, vs1, d1, ds1, p1, q1, rfl, rfl, rfl, h1, r1⟩ := trodAll_cons r0
  obtain ⟨rfl, rfl, rfl⟩ := trodAll_nil r1
  obtain rfl : args = #[v0, v1] := by cases args; simp_all
  obtain ⟨rfl, rfl⟩ := trodVars_none hV
  obtain ⟨A0, c0, l0, rfl, e0, g0, f0⟩ := Ps.open_slice_wf Ps.opens41 Try.underlying41 (hval 0 41 v0 rfl rfl) h0
  obtain ⟨n1, rfl⟩ := okWide_int Try.underlying2 (hval 1 2 v1 rfl rfl)
  have hm1 := Ps.open_i64 Try.underlying2 h1
  clear hA0 hval0
  obtain ⟨k, hk⟩ := Ps.FoldWide_plain l0 n1 f0 hm1
  refine (Ps.antecedentlaw20_FoldWide.calls k A0 c0 l0 n1 true W g0 e0 hk).mono fun e W' ⟨he, hg⟩ => ?_
  subst he
  exact ⟨_, rfl, LawKit.post_law laid_out (by kernel_rfl) rfl Try.underlying4 rfl hW' ⟨rfl, rfl, rfl⟩ hg⟩

theorem over : Rows.foldWideRow.holds Try.pinned (OpenSpec.ofChange Rows.foldWideSpec) :=
  OpenClaim.holds_of_wide 6 Try.f6 rfl rfl rfl rfl rfl rfl rfl ⟨rfl, rfl, rfl, rfl, rfl⟩ rfl rfl rfl rfl rfl (by kernel_rfl) Try.func6 (by kernel_rfl)
    (of_decide_eq_true (by kernel_rfl)) (by unfold Func.isWrapper; first | (rw [if_pos (by decide +kernel)]; kernel_rfl) | (rw [if_neg (by decide +kernel)]; exact ⟨rfl, rfl⟩))
    (fun os started H enc _ => lifted os started H enc)

/-- THE STATEMENT -/
theorem proved : Rows.FoldWideSaid := over
end Go.Proofs.Ytolefpeiceiocaa.foldWide
