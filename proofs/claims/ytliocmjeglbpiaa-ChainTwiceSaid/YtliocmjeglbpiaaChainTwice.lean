/- ChainTwice: THE STATEMENT: sets that stand twice, turned about, and an empty one, change nothing. No condition. -/
import Derived.Test.YtliocmjeglbpiaaRows
import Derived.Test.YtliocmjeglbpiaaKit
import Derived.Test.YtliocmjeglbpiaaArgs
import Derived.Test.YtliocmjeglbpiaaPs8
import Derived.Test.YtliocmjeglbpiaaPlaw5
namespace Go.Proofs.Ytliocmjeglbpiaa.chainTwice
open Go.ChangeShapes Go.WideShapes Go.ChangeAt Go.RowKit Go.Proofs.YtliocmjeglbpiaaW.PrintWords

theorem own : ownKnob Try.prog.godebug = none := by kernel_rfl
theorem laid_out : laidOutB Try.prog = true := by kernel_rfl

set_option maxRecDepth 100000 in
theorem lifted (os : Os) (started : os.Started) (H : Type) (enc : TypeId × Value → H) :
    ReturnsInHanded {} Try.checked os 5 .any (Rows.chainTwiceSpec.pre6 enc Try.prog Try.f5 Rows.chainTwiceRow.domain false) (Rows.chainTwiceSpec.post enc Try.prog Try.f5 false true false false) := by
  refine returnsInHanded_of_change (C := Try.checked) own started (by kernel_rfl) Try.func5
    (ChangeSpec.witness6 (enc := enc) (C := Try.checked) false ⟨#[], #[.int .i64 0, .slice none 0 0, .slice none 0 0], []⟩ 8 (by kernel_rfl) (by kernel_rfl) (by kernel_rfl) (by kernel_rfl)) ?_
  intro W base args ds gs before hval0 hW hcnd _
  have hval : ∀ (j : Nat) t v, Try.f5.params[j]? = some t → args[j]? = some v → Value.okWide Try.prog W .any base t v := hval0
  have hW' := hW
  obtain ⟨p, q, hA0, hV, rfl, hfz, hnd⟩ := hW
  have hA : DataW.TrodAll enc Try.prog W 0 (fun _ => true) true Try.f5.params.toList args.toList ds p := hA0
  rw [Try.params5] at hA hval
  obtain ⟨v0, vs0, d0, ds0, p0, q0, hargs, rfl, rfl, h0, r0⟩ := trodAll_cons hA
  obtain ⟨v1, vs1, d1, ds1, p1, q1, rfl, rfl, rfl, h1, r1⟩ := trodAll_cons r0
  obtain ⟨v2, vs2, d2, ds2, p2, q2, rfl, rfl, rfl, h2, r2⟩ := trodAll_cons r1
  obtain ⟨rfl, rfl, rfl⟩ := trodAll_nil r2
  obtain rfl : args = #[v0, v1, v2] := by cases args; simp_all
  obtain ⟨rfl, rfl⟩ := trodVars_none hV
  obtain ⟨n0, rfl⟩ := okWide_int Try.underlying3 (hval 0 3 v0 rfl rfl)
  obtain ⟨A1, c1, l1, rfl, e1, g1⟩ := Ps.open_slice_of Ps.opens22 Try.underlying22 (hval 1 22 v1 rfl rfl) h1
  obtain ⟨A2, c2, l2, rfl, e2, g2⟩ := Ps.open_slice_of Ps.opens31 Try.underlying31 (hval 2 31 v2 rfl rfl) h2
  clear hA0 hval0
  obtain ⟨k, hk⟩ := Ps.ChainTwice_plain n0 l1 l2 g1.2.1
  refine (Ps.antecedentlaw18_ChainTwice.calls k n0 (fun k_ => k_ < W.heap.size) A1 c1 l1 (fun k_ => k_ < W.heap.size) A2 c2 l2 true W (Kd.V_mk e1 (Kd.C_F (Kd.heap_slice 3 (Kd.heap_int .i64)) g1)) (Kd.V_mk e2 (Kd.C_F (Kd.heap_int .i64) g2)) hk).mono fun e W' ⟨he, hg⟩ => ?_
  subst he
  exact ⟨_, rfl, LawKit.post_law laid_out (by kernel_rfl) rfl Try.underlying4 rfl hW' ⟨rfl, rfl, rfl⟩ hg⟩

theorem over : Rows.chainTwiceRow.holds Try.pinned (OpenSpec.ofChange Rows.chainTwiceSpec) :=
  OpenClaim.holds_of_wide 5 Try.f5 rfl rfl rfl rfl rfl rfl rfl ⟨rfl, rfl, rfl, rfl, rfl⟩ rfl rfl rfl rfl rfl (by kernel_rfl) Try.func5 (by kernel_rfl)
    (of_decide_eq_true (by kernel_rfl)) (by unfold Func.isWrapper; first | (rw [if_pos (by decide +kernel)]; kernel_rfl) | (rw [if_neg (by decide +kernel)]; exact ⟨rfl, rfl⟩))
    (fun os started H enc _ => lifted os started H enc)

/-- THE STATEMENT -/
theorem proved : Rows.ChainTwiceSaid := over
end Go.Proofs.Ytliocmjeglbpiaa.chainTwice
