/- SafeAgain: THE STATEMENT: a rule that is in order stays so; a rule that is safe is so whatever order its literals stood in. No condition. -/
import Derived.Test.YtmgbfgloegcloaaRows
import Derived.Test.YtmgbfgloegcloaaKit
import Derived.Test.YtmgbfgloegcloaaArgsB
import Derived.Test.YtmgbfgloegcloaaPt29
import Derived.Test.YtmgbfgloegcloaaPu12
namespace Go.Proofs.Ytmgbfgloegcloaa.safeAgain
open Go.ChangeShapes Go.WideShapes Go.ChangeAt Go.RowKit Go.Proofs.YtmgbfgloegcloaaW.PrintWords

theorem own : ownKnob Try.prog.godebug = none := by kernel_rfl
theorem laid_out : laidOutB Try.prog = true := by kernel_rfl

set_option maxRecDepth 100000 in
theorem lifted (os : Os) (started : os.Started) (H : Type) (enc : TypeId × Value → H) :
    ReturnsInHanded {} Try.checked os 6 .any (Rows.safeAgainSpec.pre6 enc Try.prog Try.f6 Rows.safeAgainRow.domain false) (Rows.safeAgainSpec.post enc Try.prog Try.f6 false true false false) := by
  refine returnsInHanded_of_change (C := Try.checked) own started (by kernel_rfl) Try.func6
    (ChangeSpec.witness6 (enc := enc) (C := Try.checked) false ⟨#[], #[.agg #[.string (⟨#[]⟩ : ByteArray), .slice none 0 0, .int .i64 0, .slice none 0 0], .int .u8 0], []⟩ 8 (by kernel_rfl) (by kernel_rfl) (by kernel_rfl) (by kernel_rfl)) ?_
  intro W base args ds gs before hval0 hW hcnd _
  have hval : ∀ (j : Nat) t v, Try.f6.params[j]? = some t → args[j]? = some v → Value.okWide Try.prog W .any base t v := hval0
  have hW' := hW
  obtain ⟨p, q, hA0, hV, rfl, hfz, hnd⟩ := hW
  have hA : DataW.TrodAll enc Try.prog W 0 (fun _ => true) true Try.f6.params.toList args.toList ds p := hA0
  rw [Try.params6] at hA hval
  obtain ⟨v0, vs0, d0, ds0, p0, q0, hargs, rfl, rfl, h0, r0⟩ := trodAll_cons hA
  obtain ⟨v1, vs1, d1, ds1, p1, q1, rfl, rfl, rfl, h1, r1⟩ := trodAll_cons r0
  obtain ⟨rfl, rfl, rfl⟩ := trodAll_nil r1
  obtain rfl : args = #[v0, v1] := by cases args; simp_all
  obtain ⟨rfl, rfl⟩ := trodVars_none hV
  obtain ⟨cs0, rfl, _⟩ := okWide_struct Try.underlying51 (hval 0 51 v0 rfl rfl)
  obtain ⟨Wf0, ho0⟩ := Ps.opens51
  obtain ⟨f0, hf0⟩ := h0
  obtain ⟨x0, hK0, _⟩ := ho0 enc W 0 _ _ f0 _ _ hf0
  obtain ⟨A0_1, c0_1, A0_3, c0_3, e0, l0_1, g0_1, l0_3, g0_3⟩ := Ps.k51_open hK0
  obtain rfl : cs0 = #[.string (x0.f0.f0), .slice A0_1 (x0.f0.f1).length c0_1, .int .i64 (x0.f1), .slice A0_3 (x0.f2).length c0_3] := by cases cs0; exact congrArg Array.mk e0
  obtain ⟨n1, rfl⟩ := okWide_int Try.underlying5 (hval 1 5 v1 rfl rfl)
  obtain ⟨m1, rfl, hm1⟩ := Ps.open_u8 Try.underlying5 h1
  clear hA0 hval0
  obtain ⟨k, hk⟩ := Pu.SafeAgain_plain x0.f0.f0 x0.f0.f1 x0.f1 x0.f2 m1 hm1
  refine (Ps.antecedentlaw11_SafeAgainB.calls k (x0.f0.f0) (fun k_ => k_ < W.heap.size) A0_1 c0_1 (x0.f0.f1) (x0.f1) (fun k_ => k_ < W.heap.size) A0_3 c0_3 (x0.f2) (m1 : Int) true W (Kd.V_mk l0_1 (Kd.C_F Ps.k40_heap g0_1)) (Kd.V_mk l0_3 (Kd.C_F Ps.k43_heap g0_3)) hk).mono fun e W' ⟨he, hg⟩ => ?_
  subst he
  exact ⟨_, rfl, LawKit.post_law laid_out (by kernel_rfl) rfl Try.underlying4 rfl hW' ⟨rfl, rfl, rfl⟩ hg⟩

theorem over : Rows.safeAgainRow.holds Try.pinned (OpenSpec.ofChange Rows.safeAgainSpec) :=
  OpenClaim.holds_of_wide 6 Try.f6 rfl rfl rfl rfl rfl rfl rfl ⟨rfl, rfl, rfl, rfl, rfl⟩ rfl rfl rfl rfl rfl (by kernel_rfl) Try.func6 (by kernel_rfl)
    (of_decide_eq_true (by kernel_rfl)) (by unfold Func.isWrapper; first | (rw [if_pos (by decide +kernel)]; kernel_rfl) | (rw [if_neg (by decide +kernel)]; exact ⟨rfl, rfl⟩))
    (fun os started H enc _ => lifted os started H enc)

/-- THE STATEMENT -/
theorem proved : Rows.SafeAgainSaid := over
end Go.Proofs.Ytmgbfgloegcloaa.safeAgain
