/- FoldOrder: THE STATEMENT: what stands twice, and in what order, plays no part: not of values, and not of tuples. No condition. -/
import Derived.Test.YtolefpeiceiocaaRows
import Derived.Test.YtolefpeiceiocaaKit
import Derived.Test.YtolefpeiceiocaaArgs
import Derived.Test.YtolefpeiceiocaaPs4
import Derived.Test.YtolefpeiceiocaaPord
namespace Go.Proofs.Ytolefpeiceiocaa.foldOrder
open Go.ChangeShapes Go.WideShapes Go.ChangeAt Go.RowKit Go.Proofs.YtolefpeiceiocaaW.PrintWords

theorem own : ownKnob Try.prog.godebug = none := by kernel_rfl
theorem laid_out : laidOutB Try.prog = true := by kernel_rfl

set_option maxRecDepth 100000 in
theorem lifted (os : Os) (started : os.Started) (H : Type) (enc : TypeId × Value → H) :
    ReturnsInHanded {} Try.checked os 3 .any (Rows.foldOrderSpec.pre6 enc Try.prog Try.f3 Rows.foldOrderRow.domain false) (Rows.foldOrderSpec.post enc Try.prog Try.f3 false true false false) := by
  refine returnsInHanded_of_change (C := Try.checked) own started (by kernel_rfl) Try.func3
    (ChangeSpec.witness6 (enc := enc) (C := Try.checked) false ⟨#[], #[.int .i64 0, .slice none 0 0, .slice none 0 0, .int .u8 0], []⟩ 8 (by kernel_rfl) (by kernel_rfl) (by kernel_rfl) (by kernel_rfl)) ?_
  intro W base args ds gs before hval0 hW hcnd _
  have hval : ∀ (j : Nat) t v, Try.f3.params[j]? = some t → args[j]? = some v → Value.okWide Try.prog W .any base t v := hval0
  have hW' := hW
  obtain ⟨p, q, hA0, hV, rfl, hfz, hnd⟩ := hW
  have hA : DataW.TrodAll enc Try.prog W 0 (fun _ => true) true Try.f3.params.toList args.toList ds p := hA0
  rw [Try.params3] at hA hval
  obtain ⟨v0, vs0, d0, ds0, p0, q0, hargs, rfl, rfl, h0, r0⟩ := trodAll_cons hA
  obtain ⟨v1, vs1, d1, ds1, p1, q1, rfl, rfl, rfl, h1, r1⟩ := trodAll_cons r0
  obtain ⟨v2, vs2, d2, ds2, p2, q2, rfl, rfl, rfl, h2, r2⟩ := trodAll_cons r1
  obtain ⟨v3, vs3, d3, ds3, p3, q3, rfl, rfl, rfl, h3, r3⟩ := trodAll_cons r2
  obtain ⟨rfl, rfl, rfl⟩ := trodAll_nil r3
  obtain rfl : args = #[v0, v1, v2, v3] := by cases args; simp_all
  obtain ⟨rfl, rfl⟩ := trodVars_none hV
  obtain ⟨n0, rfl⟩ := okWide_int Try.underlying3 (hval 0 3 v0 rfl rfl)
  have hm0 := Ps.open_i64 Try.underlying3 h0
  obtain ⟨A1, c1, l1, rfl, e1, g1, f1⟩ := Ps.open_slice_wf Ps.opens22 Try.underlying22 (hval 1 22 v1 rfl rfl) h1
  obtain ⟨A2, c2, l2, rfl, e2, g2, f2⟩ := Ps.open_slice_wf Ps.opens23 Try.underlying23 (hval 2 23 v2 rfl rfl) h2
  obtain ⟨n3, rfl⟩ := okWide_int Try.underlying5 (hval 3 5 v3 rfl rfl)
  have hm3 := Ps.open_u8 Try.underlying5 h3
  clear hA0 hval0
  obtain ⟨k, hk⟩ := Ps.FoldOrder_plain n0 l1 l2 n3 hm0 f1 f2 hm3
  refine (Ps.antecedentlaw20_FoldOrder.calls k n0 A1 c1 l1 (fun k_ => k_ < W.heap.size) A2 c2 l2 n3 true W g1 e1 (Kd.V_mk e2 (Kd.C_F (Kd.heap_slice 27 (Kd.heap_iso _ (Kd.heap_pair (Kd.heap_int .i64) (Kd.heap_pair (Kd.heap_int .i64) Kd.heap_string)))) g2)) hk).mono fun e W' ⟨he, hg⟩ => ?_
  subst he
  exact ⟨_, rfl, LawKit.post_law laid_out (by kernel_rfl) rfl Try.underlying4 rfl hW' ⟨rfl, rfl, rfl⟩ hg⟩

theorem over : Rows.foldOrderRow.holds Try.pinned (OpenSpec.ofChange Rows.foldOrderSpec) :=
  OpenClaim.holds_of_wide 3 Try.f3 rfl rfl rfl rfl rfl rfl rfl ⟨rfl, rfl, rfl, rfl, rfl⟩ rfl rfl rfl rfl rfl (by kernel_rfl) Try.func3 (by kernel_rfl)
    (of_decide_eq_true (by kernel_rfl)) (by unfold Func.isWrapper; first | (rw [if_pos (by decide +kernel)]; kernel_rfl) | (rw [if_neg (by decide +kernel)]; exact ⟨rfl, rfl⟩))
    (fun os started H enc _ => lifted os started H enc)

/-- THE STATEMENT -/
theorem proved : Rows.FoldOrderSaid := over
end Go.Proofs.Ytolefpeiceiocaa.foldOrder
