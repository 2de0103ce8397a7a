/- SafeRules: THE STATEMENT: any program's rules, in order, or that one isn't safe, is as the document says. No condition. -/
import Derived.Test.YtmgbfgloegcloaaRows
import Derived.Test.YtmgbfgloegcloaaKit
import Derived.Test.YtmgbfgloegcloaaArgsB
import Derived.Test.YtmgbfgloegcloaaPt35
import Derived.Test.YtmgbfgloegcloaaPu13
namespace Go.Proofs.Ytmgbfgloegcloaa.safeRules
open Go.ChangeShapes Go.WideShapes Go.ChangeAt Go.RowKit Go.Proofs.YtmgbfgloegcloaaW.PrintWords
theorem own : ownKnob Try.prog.godebug = none := by kernel_rfl
theorem laid_out : laidOutB Try.prog = true := by kernel_rfl
set_option maxRecDepth 100000 in
theorem lifted (os : Os) (started : os.Started) (H : Type) (enc : TypeId × Value → H) :
    ReturnsInHanded {} Try.checked os 8 .any (Rows.safeRulesSpec.pre6 enc Try.prog Try.f8 Rows.safeRulesRow.domain false) (Rows.safeRulesSpec.post enc Try.prog Try.f8 false true false false) := by
  refine returnsInHanded_of_change (C := Try.checked) own started (by kernel_rfl) Try.func8
    (ChangeSpec.witness6 (enc := enc) (C := Try.checked) false ⟨#[], #[.agg #[.slice none 0 0, .string (⟨#[]⟩ : ByteArray), .slice none 0 0]], []⟩ 8 (by kernel_rfl) (by kernel_rfl) (by kernel_rfl) (by kernel_rfl)) ?_
  intro W base args ds gs before hval0 hW hcnd _
  have hval : ∀ (j : Nat) t v, Try.f8.params[j]? = some t → args[j]? = some v → Value.okWide Try.prog W .any base t v := hval0
  have hW' := hW
  obtain ⟨p, q, hA0, hV, rfl, hfz, hnd⟩ := hW
  have hA : DataW.TrodAll enc Try.prog W 0 (fun _ => true) true Try.f8.params.toList args.toList ds p := hA0
  rw [Try.params8] at hA hval
  obtain ⟨v0, vs0, d0, ds0, p0, q0, hargs, rfl, rfl, h0, r0⟩ := trodAll_cons hA
  obtain ⟨rfl, rfl, rfl⟩ := trodAll_nil r0
  obtain rfl : args = #[v0] := by cases args; simp_all
  obtain ⟨rfl, rfl⟩ := trodVars_none hV
  obtain ⟨cs0, rfl, _⟩ := okWide_struct Try.underlying59 (hval 0 59 v0 rfl rfl)
  obtain ⟨Wf0, ho0⟩ := Ps.opens59
  obtain ⟨f0, hf0⟩ := h0
  obtain ⟨x0, hK0, _⟩ := ho0 enc W 0 _ _ f0 _ _ hf0
  obtain ⟨A0_0, c0_0, A0_2, c0_2, e0, l0_0, g0_0, l0_2, g0_2⟩ := Ps.k59_open hK0
  obtain rfl : cs0 = #[.slice A0_0 (x0.1).length c0_0, .string (x0.2.f0), .slice A0_2 (x0.2.f1).length c0_2] := by cases cs0; exact congrArg Array.mk e0
  clear hA0 hval0
  obtain ⟨k, hk⟩ := Pu.SafeRules_plain x0.1 x0.2.f0 x0.2.f1
  refine (Ps.zm.calls k A0_0 c0_0 (x0.1) (x0.2.f0) A0_2 c0_2 (x0.2.f1) true W g0_0 l0_0 g0_2 l0_2 hk).mono fun e W' ⟨he, hg⟩ => ?_
  subst he
  exact ⟨_, rfl, LawKit.post_law laid_out (by kernel_rfl) rfl Try.underlying4 rfl hW' ⟨rfl, rfl, rfl⟩ hg⟩
theorem over : Rows.safeRulesRow.holds Try.pinned (OpenSpec.ofChange Rows.safeRulesSpec) :=
  OpenClaim.holds_of_wide 8 Try.f8 rfl rfl rfl rfl rfl rfl rfl ⟨rfl, rfl, rfl, rfl, rfl⟩ rfl rfl rfl rfl rfl (by kernel_rfl) Try.func8 (by kernel_rfl)
    (of_decide_eq_true (by kernel_rfl)) (by unfold Func.isWrapper; first | (rw [if_pos (by decide +kernel)]; kernel_rfl) | (rw [if_neg (by decide +kernel)]; exact ⟨rfl, rfl⟩))
    (fun os started H enc _ => lifted os started H enc)
theorem proved : Rows.SafeRulesSaid := over
end Go.Proofs.Ytmgbfgloegcloaa.safeRules
