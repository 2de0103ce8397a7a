/- ChainWhole: THE STATEMENT: the whole order cut at the numbers told. No condition. -/
import Derived.Test.YtliocmjeglbpiaaRows
import Derived.Test.YtliocmjeglbpiaaKit
import Derived.Test.YtliocmjeglbpiaaArgs
import Derived.Test.YtliocmjeglbpiaaPs15
import Derived.Test.YtliocmjeglbpiaaPlaw2
namespace Go.Proofs.Ytliocmjeglbpiaa.chainWhole
open Go.ChangeShapes Go.WideShapes Go.ChangeAt Go.RowKit Go.Proofs.YtliocmjeglbpiaaW.PrintWords

theorem own : ownKnob Try.prog.godebug = none := by kernel_rfl
theorem laid_out : laidOutB Try.prog = true := by kernel_rfl

set_option maxRecDepth 100000 in
theorem lifted (os : Os) (started : os.Started) (H : Type) (enc : TypeId × Value → H) :
    ReturnsInHanded {} Try.checked os 6 .any (Rows.chainWholeSpec.pre6 enc Try.prog Try.f6 Rows.chainWholeRow.domain false) (Rows.chainWholeSpec.post enc Try.prog Try.f6 false true false false) := by
  refine returnsInHanded_of_change (C := Try.checked) own started (by kernel_rfl) Try.func6
    (ChangeSpec.witness6 (enc := enc) (C := Try.checked) false ⟨#[], #[.int .u8 0, .slice none 0 0, .slice none 0 0], []⟩ 8 (by kernel_rfl) (by kernel_rfl) (by kernel_rfl) (by kernel_rfl)) ?_
  intro W base args ds gs before hval0 hW hcnd _
  have hval : ∀ (j : Nat) t v, Try.f6.params[j]? = some t → args[j]? = some v → Value.okWide Try.prog W .any base t v := hval0
  have hW' := hW
  obtain ⟨p, q, hA0, hV, rfl, hfz, hnd⟩ := hW
  have hA : DataW.TrodAll enc Try.prog W 0 (fun _ => true) true Try.f6.params.toList args.toList ds p := hA0
  rw [Try.params6] at hA hval
  obtain ⟨v0, vs0, d0, ds0, p0, q0, hargs, rfl, rfl, h0, r0⟩ := trodAll_cons hA
  obtain ⟨v1, vs1, d1, ds1, p1, q1, rfl, rfl, rfl, h1, r1⟩ := trodAll_cons r0
  obtain ⟨v2, vs2, d2, ds2, p2, q2, rfl, rfl, rfl, h2, r2⟩ := trodAll_cons r1
  obtain ⟨rfl, rfl, rfl⟩ := trodAll_nil r2
  obtain rfl : args = #[v0, v1, v2] := by cases args; simp_all
  obtain ⟨rfl, rfl⟩ := trodVars_none hV
  obtain ⟨n0, rfl⟩ := okWide_int Try.underlying5 (hval 0 5 v0 rfl rfl)
  obtain ⟨m0, rfl, hm0⟩ := Ps.open_u8 Try.underlying5 h0
  obtain ⟨A1, c1, l1, rfl, e1, g1⟩ := Ps.open_slice_of Ps.opens31 Try.underlying31 (hval 1 31 v1 rfl rfl) h1
  obtain ⟨A2, c2, l2, rfl, e2, g2, f2⟩ := Ps.open_slice_wf Ps.opens34 Try.underlying34 (hval 2 34 v2 rfl rfl) h2
  clear hA0 hval0
  obtain ⟨k, hk⟩ := Ps.ChainWhole_plain m0 hm0 l1 l2 (fun v hv => Ps.u8_wf (f2.2 v hv))
  refine (Ps.antecedentlaw18_ChainWhole.calls k (m0 : Int) (fun k_ => k_ < W.heap.size) A1 c1 l1 A2 c2 l2 true W (Kd.V_mk e1 (Kd.C_F (Kd.heap_int .i64) g1)) g2 e2 hk).mono fun e W' ⟨he, hg⟩ => ?_
  subst he
  exact ⟨_, rfl, LawKit.post_law laid_out (by kernel_rfl) rfl Try.underlying4 rfl hW' ⟨rfl, rfl, rfl⟩ hg⟩

theorem over : Rows.chainWholeRow.holds Try.pinned (OpenSpec.ofChange Rows.chainWholeSpec) :=
  OpenClaim.holds_of_wide 6 Try.f6 rfl rfl rfl rfl rfl rfl rfl ⟨rfl, rfl, rfl, rfl, rfl⟩ rfl rfl rfl rfl rfl (by kernel_rfl) Try.func6 (by kernel_rfl)
    (of_decide_eq_true (by kernel_rfl)) (by unfold Func.isWrapper; first | (rw [if_pos (by decide +kernel)]; kernel_rfl) | (rw [if_neg (by decide +kernel)]; exact ⟨rfl, rfl⟩))
    (fun os started H enc _ => lifted os started H enc)

/-- THE STATEMENT -/
theorem proved : Rows.ChainWholeSaid := over
end Go.Proofs.Ytliocmjeglbpiaa.chainWhole
