/- SafeBinds: THE STATEMENT: what is bound behind a literal is what was, and its variables, in order, each once; bound again it is the same. No condition. -/
import Derived.Test.YtmgbfgloegcloaaRows
import Derived.Test.YtmgbfgloegcloaaKit
import Derived.Test.YtmgbfgloegcloaaArgs
import Derived.Test.YtmgbfgloegcloaaPs26
import Derived.Test.YtmgbfgloegcloaaPu9
namespace Go.Proofs.Ytmgbfgloegcloaa.safeBinds
open Go.ChangeShapes Go.WideShapes Go.ChangeAt Go.RowKit Go.Proofs.YtmgbfgloegcloaaW.PrintWords

theorem own : ownKnob Try.prog.godebug = none := by kernel_rfl
theorem laid_out : laidOutB Try.prog = true := by kernel_rfl

set_option maxRecDepth 100000 in
theorem lifted (os : Os) (started : os.Started) (H : Type) (enc : TypeId × Value → H) :
    ReturnsInHanded {} Try.checked os 7 .any (Rows.safeBindsSpec.pre6 enc Try.prog Try.f7 Rows.safeBindsRow.domain false) (Rows.safeBindsSpec.post enc Try.prog Try.f7 false true false false) := by
  refine returnsInHanded_of_change (C := Try.checked) own started (by kernel_rfl) Try.func7
    (ChangeSpec.witness6 (enc := enc) (C := Try.checked) false ⟨#[], #[.agg #[.int .i64 0, .string (⟨#[]⟩ : ByteArray), .slice none 0 0, .string (⟨#[]⟩ : ByteArray), .string (⟨#[]⟩ : ByteArray), .int .i64 0, .int .i64 0, .string (⟨#[]⟩ : ByteArray), .string (⟨#[]⟩ : ByteArray), .int .i64 0, .int .i64 0, .string (⟨#[]⟩ : ByteArray), .string (⟨#[]⟩ : ByteArray), .int .i64 0, .int .i64 0, .string (⟨#[]⟩ : ByteArray), .slice none 0 0], .slice none 0 0], []⟩ 8 (by kernel_rfl) (by kernel_rfl) (by kernel_rfl) (by kernel_rfl)) ?_
  intro W base args ds gs before hval0 hW hcnd _
  have hval : ∀ (j : Nat) t v, Try.f7.params[j]? = some t → args[j]? = some v → Value.okWide Try.prog W .any base t v := hval0
  have hW' := hW
  obtain ⟨p, q, hA0, hV, rfl, hfz, hnd⟩ := hW
  have hA : DataW.TrodAll enc Try.prog W 0 (fun _ => true) true Try.f7.params.toList args.toList ds p := hA0
  rw [Try.params7] at hA hval
  obtain ⟨v0, vs0, d0, ds0, p0, q0, hargs, rfl, rfl, h0, r0⟩ := trodAll_cons hA
  obtain ⟨v1, vs1, d1, ds1, p1, q1, rfl, rfl, rfl, h1, r1⟩ := trodAll_cons r0
  obtain ⟨rfl, rfl, rfl⟩ := trodAll_nil r1
  obtain rfl : args = #[v0, v1] := by cases args; simp_all
  obtain ⟨rfl, rfl⟩ := trodVars_none hV
  obtain ⟨cs0, rfl, _⟩ := okWide_struct Try.underlying43 (hval 0 43 v0 rfl rfl)
  obtain ⟨Wf0, ho0⟩ := Ps.opens43
  obtain ⟨f0, hf0⟩ := h0
  obtain ⟨x0, hK0, _⟩ := ho0 enc W 0 _ _ f0 _ _ hf0
  obtain ⟨A0_2, c0_2, A0_16, c0_16, e0, l0_2, g0_2, l0_16, g0_16⟩ := Ps.k43_open hK0
  obtain rfl : cs0 = #[.int .i64 (x0.f0), .string (x0.f1.f0), .slice A0_2 (x0.f1.f1).length c0_2, .string (x0.f2), .string (x0.f3.f0), .int .i64 (x0.f3.f1.f0), .int .i64 (x0.f3.f1.f1), .string (x0.f3.f1.f2), .string (x0.f4.f0), .int .i64 (x0.f4.f1.f0), .int .i64 (x0.f4.f1.f1), .string (x0.f4.f1.f2), .string (x0.f5.f0), .int .i64 (x0.f5.f1.f0), .int .i64 (x0.f5.f1.f1), .string (x0.f5.f1.f2), .slice A0_16 (x0.f6).length c0_16] := by cases cs0; exact congrArg Array.mk e0
  obtain ⟨A1, c1, l1, rfl, e1, g1⟩ := Ps.open_slice_of Ps.opens23 Try.underlying23 (hval 1 23 v1 rfl rfl) h1
  clear hA0 hval0
  obtain ⟨k, hk⟩ := Pu.SafeBinds_plain x0 l1
  refine (Ps.antecedentlaw11_SafeBinds.calls k (x0.f0) (x0.f1.f0) (fun k_ => k_ < W.heap.size) A0_2 c0_2 (x0.f1.f1) (x0.f2) (x0.f3.f0) (x0.f3.f1.f0) (x0.f3.f1.f1) (x0.f3.f1.f2) (x0.f4.f0) (x0.f4.f1.f0) (x0.f4.f1.f1) (x0.f4.f1.f2) (x0.f5.f0) (x0.f5.f1.f0) (x0.f5.f1.f1) (x0.f5.f1.f2) (fun k_ => k_ < W.heap.size) A0_16 c0_16 (x0.f6) A1 c1 l1 true W (Kd.V_mk l0_2 (Kd.C_F Ps.k40_heap g0_2)) (Kd.V_mk l0_16 (Kd.C_F Ps.k82_heap g0_16)) g1 e1 hk).mono fun e W' ⟨he, hg⟩ => ?_
  subst he
  exact ⟨_, rfl, LawKit.post_law laid_out (by kernel_rfl) rfl Try.underlying4 rfl hW' ⟨rfl, rfl, rfl⟩ hg⟩

theorem over : Rows.safeBindsRow.holds Try.pinned (OpenSpec.ofChange Rows.safeBindsSpec) :=
  OpenClaim.holds_of_wide 7 Try.f7 rfl rfl rfl rfl rfl rfl rfl ⟨rfl, rfl, rfl, rfl, rfl⟩ rfl rfl rfl rfl rfl (by kernel_rfl) Try.func7 (by kernel_rfl)
    (of_decide_eq_true (by kernel_rfl)) (by unfold Func.isWrapper; first | (rw [if_pos (by decide +kernel)]; kernel_rfl) | (rw [if_neg (by decide +kernel)]; exact ⟨rfl, rfl⟩))
    (fun os started H enc _ => lifted os started H enc)

/-- THE STATEMENT -/
theorem proved : Rows.SafeBindsSaid := over
end Go.Proofs.Ytmgbfgloegcloaa.safeBinds
