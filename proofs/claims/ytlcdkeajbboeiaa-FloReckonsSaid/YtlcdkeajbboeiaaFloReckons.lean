/- THE LAW FloReckons: whatever the arguments, the call returns true, and they read as they did. No condition. -/
import Derived.Test.YtlcdkeajbboeiaaRows
import Derived.Test.YtlcdkeajbboeiaaW4
import Derived.Test.YtlcdkeajbboeiaaKit
namespace Go.Proofs.Ytlcdkeajbboeiaa.floReckons
open Go.ChangeShapes Go.WideShapes Go.ChangeAt Go.RowKit AnteFlo
set_option linter.unusedVariables false

theorem code_op (op : Nat) {x y : Nat} {a b : Int} (hx : x < 18446744073709551616) (hy : y < 18446744073709551616) (h1 : alike x (back a)) (h2 : alike y (back b)) (w : World) :
    code (fbits op x y w) = ocode (fop op (back a) (back b)) := by
  rw [fbits_code, fop_alike op hx hy (back_lt _) (back_lt _) h1 h2]

theorem walk (a0 a1 a2 : Int) (w0 : (Lit.int .i64 a0).wf = true) (w1 : (Lit.int .i64 a1).wf = true) (w2 : (Lit.int .i64 a2).wf = true) (w : World) :
    Calls Try.prog 8 #[.int .i64 a0, .int .i64 a1, .int .i64 a2] w fun e w' => e = .returned (.bool true) ∧ Below w.heap.size w w' := by
  have H0 := Lib.hid (bounds_i64 w0)
  have H1 := Lib.hid (bounds_i64 w1)
  have hB : ∀ (op x y : Nat) (u : World), Below w.heap.size w u → Below w.heap.size w (fworld op x y u) := fun op x y u h => by
    obtain ⟨n, e⟩ := fworld_drewN op x y u; rw [e]; exact below_drewN h n
  have HBel := Lib.hid hB
  have ho := float_of
  clear w0 w1 w2 hB
  go_enter Try.func8, Try.ntmps8
  go_wp2_with fail
  refine (awake_any _).mono ?_; rintro e w' ⟨rfl, rfl⟩
  go_wp2_with fail
  refine (refBack_any _ H0.out _).mono ?_; rintro e w' ⟨x, rfl, xal, xlt, k1, rfl⟩
  have X1 := Lib.hid xal
  have X2 := Lib.hid xlt
  clear xal xlt
  go_wp2_with fail
  refine (refBack_any _ H1.out _).mono ?_; rintro e w' ⟨y, rfl, yal, ylt, k2, rfl⟩
  have Y1 := Lib.hid yal
  have Y2 := Lib.hid ylt
  clear yal ylt
  have W1 : Hid (Below w.heap.size w ((w.drewN k1).drewN k2)) := below_drewN (below_drewN (Below.refl _ _) _) _
  generalize (w.drewN k1).drewN k2 = u at *
  have f1 := @run_fadd Try.prog
  have f2 := @run_fsub Try.prog
  have f3 := @run_fmul Try.prog
  have f4 := @run_fdiv Try.prog
  have c1 : ∀ u, code (fbits 0 x y u) = gAdd a0 a1 := code_op 0 X2.out Y2.out X1.out Y1.out
  have c2 : ∀ u, code (fbits 1 x y u) = gSub a0 a1 := code_op 1 X2.out Y2.out X1.out Y1.out
  have c3 : ∀ u, code (fbits 2 x y u) = gMul a0 a1 := code_op 2 X2.out Y2.out X1.out Y1.out
  have c4 : ∀ u, code (fbits 3 x y u) = gDiv a0 a1 := code_op 3 X2.out Y2.out X1.out Y1.out
  have c5 : code (ofInt a2) = gOf a2 := rfl
  go_wp2_with fail
  refine (add_c H0.out H1.out _).mono ?_; rintro e w' ⟨rfl, j1, rfl⟩
  have W2 : Hid (Below w.heap.size w (u.drewN j1)) := below_drewN W1.out _
  generalize u.drewN j1 = u1 at *
  go_wp2_with fail
  have W3 : Hid (Below w.heap.size w (fworld 0 x y u1)) := HBel.out _ _ _ _ W2.out
  refine (refCode_any (fbits_lt _ _ _ _) _).mono ?_; rintro e w' ⟨rfl, rfl⟩
  go_wp2_with fail
  generalize fworld 0 x y u1 = u2 at *
  refine (sub_c H0.out H1.out _).mono ?_; rintro e w' ⟨rfl, j2, rfl⟩
  have W4 : Hid (Below w.heap.size w (u2.drewN j2)) := below_drewN W3.out _
  generalize u2.drewN j2 = u3 at *
  go_wp2_with fail
  have W5 : Hid (Below w.heap.size w (fworld 1 x y u3)) := HBel.out _ _ _ _ W4.out
  refine (refCode_any (fbits_lt _ _ _ _) _).mono ?_; rintro e w' ⟨rfl, rfl⟩
  go_wp2_with fail
  generalize fworld 1 x y u3 = u4 at *
  refine (mul_c H0.out H1.out _).mono ?_; rintro e w' ⟨rfl, j3, rfl⟩
  have W6 : Hid (Below w.heap.size w (u4.drewN j3)) := below_drewN W5.out _
  generalize u4.drewN j3 = u5 at *
  go_wp2_with fail
  have W7 : Hid (Below w.heap.size w (fworld 2 x y u5)) := HBel.out _ _ _ _ W6.out
  refine (refCode_any (fbits_lt _ _ _ _) _).mono ?_; rintro e w' ⟨rfl, rfl⟩
  go_wp2_with fail
  generalize fworld 2 x y u5 = u6 at *
  refine (div_c H0.out H1.out _).mono ?_; rintro e w' ⟨rfl, j4, rfl⟩
  have W8 : Hid (Below w.heap.size w (u6.drewN j4)) := below_drewN W7.out _
  generalize u6.drewN j4 = u7 at *
  go_wp2_with fail
  have W9 : Hid (Below w.heap.size w (fworld 3 x y u7)) := HBel.out _ _ _ _ W8.out
  refine (refCode_any (fbits_lt _ _ _ _) _).mono ?_; rintro e w' ⟨rfl, rfl⟩
  go_wp2_with fail
  generalize fworld 3 x y u7 = u8 at *
  refine (of_c _ _).mono ?_; rintro e w' ⟨rfl, rfl⟩
  go_wp2_with fail
  refine (refCode_any (ofInt_lt _) _).mono ?_; rintro e w' ⟨rfl, rfl⟩
  go_wp2_with fail
  go_ret
  exact ⟨rfl, W9.out⟩

theorem own : ownKnob Try.prog.godebug = none := by kernel_rfl
theorem laid_out : laidOutB Try.prog = true := by kernel_rfl

set_option maxRecDepth 100000 in
theorem lifted (os : Os) (started : os.Started) (H : Type) (enc : TypeId × Value → H) :
    ReturnsInHanded {} Try.checked os 8 .any (Rows.floReckonsSpec.pre6 enc Try.prog Try.f8 Rows.floReckonsRow.domain false) (Rows.floReckonsSpec.post enc Try.prog Try.f8 false true false false) := by
  refine returnsInHanded_of_change (C := Try.checked) own started (by kernel_rfl) Try.func8
    (ChangeSpec.witness6 (enc := enc) (C := Try.checked) false ⟨#[], #[.int .i64 0, .int .i64 0, .int .i64 0], []⟩ 8 (by kernel_rfl) (by kernel_rfl) (by kernel_rfl) (by kernel_rfl)) ?_
  intro W base args ds gs before hval0 hW hcnd _
  have hval : ∀ (j : Nat) t v, Try.f8.params[j]? = some t → args[j]? = some v → Value.okWide Try.prog W .any base t v := hval0
  have hW' := hW
  obtain ⟨p, q, hA0, hV, rfl, hfz, hnd⟩ := hW
  have hA : DataW.TrodAll enc Try.prog W 0 (fun _ => true) true Try.f8.params.toList args.toList ds p := hA0
  rw [Try.params8] at hA hval
  obtain ⟨v0, vs0, d0, ds0, p0, q0, hargs, rfl, rfl, h0, r0⟩ := trodAll_cons hA
  obtain ⟨v1, vs1, d1, ds1, p1, q1, rfl, rfl, rfl, h1, r1⟩ := trodAll_cons r0
  obtain ⟨v2, vs2, d2, ds2, p2, q2, rfl, rfl, rfl, h2, r2⟩ := trodAll_cons r1
  obtain ⟨rfl, rfl, rfl⟩ := trodAll_nil r2
  obtain rfl : args = #[v0, v1, v2] := by cases args; simp_all
  obtain ⟨rfl, rfl⟩ := trodVars_none hV
  obtain ⟨a0, rfl, rfl, rfl, w0⟩ := open_int Try.underlying2 (hval 0 2 v0 rfl rfl) h0
  obtain ⟨a1, rfl, rfl, rfl, w1⟩ := open_int Try.underlying2 (hval 1 2 v1 rfl rfl) h1
  obtain ⟨a2, rfl, rfl, rfl, w2⟩ := open_int Try.underlying2 (hval 2 2 v2 rfl rfl) h2
  clear hA0 hval0
  refine (walk a0 a1 a2 w0 w1 w2 W).mono fun e W' ⟨he, hg⟩ => ?_
  subst he
  exact ⟨_, rfl, LawKit.post_law laid_out (by kernel_rfl) rfl Try.underlying4 rfl hW' ⟨rfl, rfl, rfl⟩ hg⟩

theorem over : Rows.floReckonsRow.holds Try.pinned (OpenSpec.ofChange Rows.floReckonsSpec) :=
  OpenClaim.holds_of_wide 8 Try.f8 rfl rfl rfl rfl rfl rfl rfl ⟨rfl, rfl, rfl, rfl, rfl⟩ rfl rfl rfl rfl rfl (by kernel_rfl) Try.func8 (by kernel_rfl)
    (of_decide_eq_true (by kernel_rfl)) (by unfold Func.isWrapper; first | (rw [if_pos (by decide +kernel)]; kernel_rfl) | (rw [if_neg (by decide +kernel)]; exact ⟨rfl, rfl⟩))
    (fun os started H enc _ => lifted os started H enc)

/-- THE STATEMENT -/
theorem proved : Rows.FloReckonsSaid := over
#print axioms proved
end Go.Proofs.Ytlcdkeajbboeiaa.floReckons
