/- THE LAW OpsReckon: whatever the arguments, the call returns true, and they read as they did. No condition. -/
import Derived.Test.YtcoidmkaddnkdaaRows
import Derived.Test.YtcoidmkaddnkdaaQ2
import Derived.Test.YtcoidmkaddnkdaaKit
import Derived.Lib.SmallJoins
namespace Go.Proofs.Ytcoidmkaddnkdaa.opsReckon
open Go.ChangeShapes Go.WideShapes Go.ChangeAt Go.RowKit AnteFlo AnteVal AnteOps
set_option linter.unusedVariables false

theorem bytes_self (s : ByteArray) : (s.toList == s.toList) = true := by simp

set_option maxHeartbeats 4000000 in
theorem walk (a0 : ByteArray) (a1 a2 : V) (w0 : a0.size ≤ maxLen) (wk1 : (Lit.int .i64 a1.k).wf = true) (wn1 : (Lit.int .i64 a1.n).wf = true) (ws1 : a1.s.size ≤ maxLen)
    (wk2 : (Lit.int .i64 a2.k).wf = true) (wn2 : (Lit.int .i64 a2.n).wf = true) (ws2 : a2.s.size ≤ maxLen) (w : World) :
    Calls Try.prog 3 #[.string a0, ev a1, ev a2] w fun e w' => e = .returned (.bool true) ∧ Below w.heap.size w w' := by
  have s1 := reckon_any a0 a1 a2 ws1 ws2 (bounds_i64 wn1) (bounds_i64 wn2)
  have s2 := refReckon_any a0 a1 a2 ws1 ws2 (bounds_i64 wn1) (bounds_i64 wn2)
  have h1 := hold_any a0 a1 a2
  have h2 := refHold_any a0 a1 a2
  generalize rk a0 a1 a2 = r at s1 s2
  generalize hold a0 a1 a2 = h at h1 h2
  obtain ⟨⟨rk, rn, rs⟩, re⟩ := r
  obtain ⟨k, n, s⟩ := a1
  obtain ⟨k', n', s'⟩ := a2
  unfold ev at s1 s2 h1 h2 ⊢
  simp only at s1 s2 h1 h2 ⊢
  have S1 := Lib.hid s1
  have S2 := Lib.hid s2
  have H1 := Lib.hid h1
  have H2 := Lib.hid h2
  clear s1 s2 h1 h2 wk1 wn1 ws1 wk2 wn2 ws2
  have bs := bytes_self rs
  rcases Classical.em (20 < a0.size) with hl | hl
  · have d1 : decide (20 < (a0.size : Int)) = true := by simp; omega
    clear hl w0
    go_enter Try.func3, Try.ntmps3
    go_wp2_with fail
    have c0 : ((w.alloc (.cells #[.int .i64 k, .int .i64 n, .string s] 23)).alloc (.cells #[.int .i64 k', .int .i64 n', .string s'] 23)).cell? ⟨w.heap.size, 0, none⟩ = some (.int .i64 k) := by simp [go_sem]
    have c1 : ((w.alloc (.cells #[.int .i64 k, .int .i64 n, .string s] 23)).alloc (.cells #[.int .i64 k', .int .i64 n', .string s'] 23)).cell? ⟨w.heap.size, 1, none⟩ = some (.int .i64 n) := by simp [go_sem]
    have c2 : ((w.alloc (.cells #[.int .i64 k, .int .i64 n, .string s] 23)).alloc (.cells #[.int .i64 k', .int .i64 n', .string s'] 23)).cell? ⟨w.heap.size, 2, none⟩ = some (.string s) := by simp [go_sem]
    have d0 : ((w.alloc (.cells #[.int .i64 k, .int .i64 n, .string s] 23)).alloc (.cells #[.int .i64 k', .int .i64 n', .string s'] 23)).cell? ⟨w.heap.size + 1, 0, none⟩ = some (.int .i64 k') := by simp [go_sem]
    have d1 : ((w.alloc (.cells #[.int .i64 k, .int .i64 n, .string s] 23)).alloc (.cells #[.int .i64 k', .int .i64 n', .string s'] 23)).cell? ⟨w.heap.size + 1, 1, none⟩ = some (.int .i64 n') := by simp [go_sem]
    have d2 : ((w.alloc (.cells #[.int .i64 k, .int .i64 n, .string s] 23)).alloc (.cells #[.int .i64 k', .int .i64 n', .string s'] 23)).cell? ⟨w.heap.size + 1, 2, none⟩ = some (.string s') := by simp [go_sem]
    have HB : Hid (Below w.heap.size w ((w.alloc (.cells #[.int .i64 k, .int .i64 n, .string s] 23)).alloc (.cells #[.int .i64 k', .int .i64 n', .string s'] 23))) := below2 w _ _
    generalize ((w.alloc (.cells #[.int .i64 k, .int .i64 n, .string s] 23)).alloc (.cells #[.int .i64 k', .int .i64 n', .string s'] 23)) = W1 at *
    go_wp2_with fail
    refine (awake_any _).mono ?_; rintro e W2 ⟨rfl, hb⟩
    replace HB := Lib.hid (below_next HB.out hb)
    replace c0 := cell_keep c0 hb
    replace c1 := cell_keep c1 hb
    replace c2 := cell_keep c2 hb
    replace d0 := cell_keep d0 hb
    replace d1 := cell_keep d1 hb
    replace d2 := cell_keep d2 hb
    clear hb
    go_wp2_with fail
    refine (awake_any _).mono ?_; rintro e W3 ⟨rfl, hb⟩
    replace HB := Lib.hid (below_next HB.out hb)
    replace c0 := cell_keep c0 hb
    replace c1 := cell_keep c1 hb
    replace c2 := cell_keep c2 hb
    replace d0 := cell_keep d0 hb
    replace d1 := cell_keep d1 hb
    replace d2 := cell_keep d2 hb
    clear hb
    go_wp2_with fail
    go_ret
    exact ⟨rfl, HB.out⟩
  · have d1 : decide (20 < (a0.size : Int)) = false := by simp; omega
    clear hl w0
    go_enter Try.func3, Try.ntmps3
    go_wp2_with fail
    have c0 : ((w.alloc (.cells #[.int .i64 k, .int .i64 n, .string s] 23)).alloc (.cells #[.int .i64 k', .int .i64 n', .string s'] 23)).cell? ⟨w.heap.size, 0, none⟩ = some (.int .i64 k) := by simp [go_sem]
    have c1 : ((w.alloc (.cells #[.int .i64 k, .int .i64 n, .string s] 23)).alloc (.cells #[.int .i64 k', .int .i64 n', .string s'] 23)).cell? ⟨w.heap.size, 1, none⟩ = some (.int .i64 n) := by simp [go_sem]
    have c2 : ((w.alloc (.cells #[.int .i64 k, .int .i64 n, .string s] 23)).alloc (.cells #[.int .i64 k', .int .i64 n', .string s'] 23)).cell? ⟨w.heap.size, 2, none⟩ = some (.string s) := by simp [go_sem]
    have d0 : ((w.alloc (.cells #[.int .i64 k, .int .i64 n, .string s] 23)).alloc (.cells #[.int .i64 k', .int .i64 n', .string s'] 23)).cell? ⟨w.heap.size + 1, 0, none⟩ = some (.int .i64 k') := by simp [go_sem]
    have d1 : ((w.alloc (.cells #[.int .i64 k, .int .i64 n, .string s] 23)).alloc (.cells #[.int .i64 k', .int .i64 n', .string s'] 23)).cell? ⟨w.heap.size + 1, 1, none⟩ = some (.int .i64 n') := by simp [go_sem]
    have d2 : ((w.alloc (.cells #[.int .i64 k, .int .i64 n, .string s] 23)).alloc (.cells #[.int .i64 k', .int .i64 n', .string s'] 23)).cell? ⟨w.heap.size + 1, 2, none⟩ = some (.string s') := by simp [go_sem]
    have HB : Hid (Below w.heap.size w ((w.alloc (.cells #[.int .i64 k, .int .i64 n, .string s] 23)).alloc (.cells #[.int .i64 k', .int .i64 n', .string s'] 23))) := below2 w _ _
    generalize ((w.alloc (.cells #[.int .i64 k, .int .i64 n, .string s] 23)).alloc (.cells #[.int .i64 k', .int .i64 n', .string s'] 23)) = W1 at *
    go_wp2_with fail
    refine (awake_any _).mono ?_; rintro e W2 ⟨rfl, hb⟩
    replace HB := Lib.hid (below_next HB.out hb)
    replace c0 := cell_keep c0 hb
    replace c1 := cell_keep c1 hb
    replace c2 := cell_keep c2 hb
    replace d0 := cell_keep d0 hb
    replace d1 := cell_keep d1 hb
    replace d2 := cell_keep d2 hb
    clear hb
    go_wp2_with fail
    refine (S1.out _).mono ?_; rintro e W3 ⟨rfl, hb⟩
    replace HB := Lib.hid (below_next HB.out hb)
    replace c0 := cell_keep c0 hb
    replace c1 := cell_keep c1 hb
    replace c2 := cell_keep c2 hb
    replace d0 := cell_keep d0 hb
    replace d1 := cell_keep d1 hb
    replace d2 := cell_keep d2 hb
    clear hb
    replace c0 := cell_box c0 (.cells #[.int .i64 rk, .int .i64 rn, .string rs] 23)
    replace c1 := cell_box c1 (.cells #[.int .i64 rk, .int .i64 rn, .string rs] 23)
    replace c2 := cell_box c2 (.cells #[.int .i64 rk, .int .i64 rn, .string rs] 23)
    replace d0 := cell_box d0 (.cells #[.int .i64 rk, .int .i64 rn, .string rs] 23)
    replace d1 := cell_box d1 (.cells #[.int .i64 rk, .int .i64 rn, .string rs] 23)
    replace d2 := cell_box d2 (.cells #[.int .i64 rk, .int .i64 rn, .string rs] 23)
    have x0 : (W3.alloc (.cells #[.int .i64 rk, .int .i64 rn, .string rs] 23)).cell? ⟨W3.heap.size, 0, none⟩ = some (.int .i64 rk) := by simp [go_sem]
    have x1 : (W3.alloc (.cells #[.int .i64 rk, .int .i64 rn, .string rs] 23)).cell? ⟨W3.heap.size, 1, none⟩ = some (.int .i64 rn) := by simp [go_sem]
    have x2 : (W3.alloc (.cells #[.int .i64 rk, .int .i64 rn, .string rs] 23)).cell? ⟨W3.heap.size, 2, none⟩ = some (.string rs) := by simp [go_sem]
    replace HB := Lib.hid (below_box HB.out (.cells #[.int .i64 rk, .int .i64 rn, .string rs] 23))
    go_wp2_with fail
    generalize (W3.alloc (.cells #[.int .i64 rk, .int .i64 rn, .string rs] 23)) = W4 at *
    generalize W3.heap.size = px at *
    go_wp2_with fail
    refine (S2.out _).mono ?_; rintro e W5 ⟨rfl, hb⟩
    replace HB := Lib.hid (below_next HB.out hb)
    replace c0 := cell_keep c0 hb
    replace c1 := cell_keep c1 hb
    replace c2 := cell_keep c2 hb
    replace d0 := cell_keep d0 hb
    replace d1 := cell_keep d1 hb
    replace d2 := cell_keep d2 hb
    replace x0 := cell_keep x0 hb
    replace x1 := cell_keep x1 hb
    replace x2 := cell_keep x2 hb
    clear hb
    replace c0 := cell_box c0 (.cells #[.int .i64 rk, .int .i64 rn, .string rs] 23)
    replace c1 := cell_box c1 (.cells #[.int .i64 rk, .int .i64 rn, .string rs] 23)
    replace c2 := cell_box c2 (.cells #[.int .i64 rk, .int .i64 rn, .string rs] 23)
    replace d0 := cell_box d0 (.cells #[.int .i64 rk, .int .i64 rn, .string rs] 23)
    replace d1 := cell_box d1 (.cells #[.int .i64 rk, .int .i64 rn, .string rs] 23)
    replace d2 := cell_box d2 (.cells #[.int .i64 rk, .int .i64 rn, .string rs] 23)
    replace x0 := cell_box x0 (.cells #[.int .i64 rk, .int .i64 rn, .string rs] 23)
    replace x1 := cell_box x1 (.cells #[.int .i64 rk, .int .i64 rn, .string rs] 23)
    replace x2 := cell_box x2 (.cells #[.int .i64 rk, .int .i64 rn, .string rs] 23)
    have y0 : (W5.alloc (.cells #[.int .i64 rk, .int .i64 rn, .string rs] 23)).cell? ⟨W5.heap.size, 0, none⟩ = some (.int .i64 rk) := by simp [go_sem]
    have y1 : (W5.alloc (.cells #[.int .i64 rk, .int .i64 rn, .string rs] 23)).cell? ⟨W5.heap.size, 1, none⟩ = some (.int .i64 rn) := by simp [go_sem]
    have y2 : (W5.alloc (.cells #[.int .i64 rk, .int .i64 rn, .string rs] 23)).cell? ⟨W5.heap.size, 2, none⟩ = some (.string rs) := by simp [go_sem]
    replace HB := Lib.hid (below_box HB.out (.cells #[.int .i64 rk, .int .i64 rn, .string rs] 23))
    go_wp2_with fail
    generalize (W5.alloc (.cells #[.int .i64 rk, .int .i64 rn, .string rs] 23)) = W6 at *
    generalize W5.heap.size = py at *
    have hB := HB.out
    go_region_held3 (fun w' => w'.cell? ⟨px, 0, none⟩ = some (.int .i64 rk) ∧ w'.cell? ⟨px, 1, none⟩ = some (.int .i64 rn) ∧ w'.cell? ⟨px, 2, none⟩ = some (.string rs) ∧ w'.cell? ⟨py, 0, none⟩ = some (.int .i64 rk) ∧ w'.cell? ⟨py, 1, none⟩ = some (.int .i64 rn) ∧ w'.cell? ⟨py, 2, none⟩ = some (.string rs) ∧ w'.cell? ⟨w.heap.size, 0, none⟩ = some (.int .i64 k) ∧ w'.cell? ⟨w.heap.size, 1, none⟩ = some (.int .i64 n) ∧ w'.cell? ⟨w.heap.size, 2, none⟩ = some (.string s) ∧ w'.cell? ⟨w.heap.size + 1, 0, none⟩ = some (.int .i64 k') ∧ w'.cell? ⟨w.heap.size + 1, 1, none⟩ = some (.int .i64 n') ∧ w'.cell? ⟨w.heap.size + 1, 2, none⟩ = some (.string s') ∧ Below w.heap.size w w') (first | assumption | (go_split_ands; (repeat' apply And.intro); (all_goals first | assumption | exact cell_keep (by assumption) hb | exact below_next (by assumption) hb | exact Below.drew (by assumption)))) (first | (go_at_call 12; refine (H1.out _).mono ?_; rintro e w' ⟨rfl, hb⟩) | (go_at_call 13; refine (H2.out _).mono ?_; rintro e w' ⟨rfl, hb⟩))
    all_goals
      go_split_ands
      go_wp2_with fail
      go_ret
      exact ⟨ret_bool (by simp), by assumption⟩


theorem own : ownKnob Try.prog.godebug = none := by kernel_rfl
theorem laid_out : laidOutB Try.prog = true := by kernel_rfl

set_option maxRecDepth 100000 in
theorem lifted (os : Os) (started : os.Started) (H : Type) (enc : TypeId × Value → H) :
    ReturnsInHanded {} Try.checked os 3 .any (Rows.opsReckonSpec.pre6 enc Try.prog Try.f3 Rows.opsReckonRow.domain false) (Rows.opsReckonSpec.post enc Try.prog Try.f3 false true false false) := by
  refine returnsInHanded_of_change (C := Try.checked) own started (by kernel_rfl) Try.func3
    (ChangeSpec.witness6 (enc := enc) (C := Try.checked) false ⟨#[], #[.string ByteArray.empty, .agg #[.int .i64 0, .int .i64 0, .string ByteArray.empty], .agg #[.int .i64 0, .int .i64 0, .string ByteArray.empty]], []⟩ 8 (by kernel_rfl) (by kernel_rfl) (by kernel_rfl) (by kernel_rfl)) ?_
  intro W base args ds gs before hval0 hW hcnd _
  have hval : ∀ (j : Nat) t v, Try.f3.params[j]? = some t → args[j]? = some v → Value.okWide Try.prog W .any base t v := hval0
  have hW' := hW
  obtain ⟨p, q, hA0, hV, rfl, hfz, hnd⟩ := hW
  have hA : DataW.TrodAll enc Try.prog W 0 (fun _ => true) true Try.f3.params.toList args.toList ds p := hA0
  rw [Try.params3] at hA hval
  obtain ⟨v0, vs0, d0, ds0, p0, q0, hargs, rfl, rfl, h0, r0⟩ := trodAll_cons hA
  obtain ⟨v1, vs1, d1, ds1, p1, q1, rfl, rfl, rfl, h1, r1⟩ := trodAll_cons r0
  obtain ⟨v2, vs2, d2, ds2, p2, q2, rfl, rfl, rfl, h2, r2⟩ := trodAll_cons r1
  obtain ⟨rfl, rfl, rfl⟩ := trodAll_nil r2
  obtain rfl : args = #[v0, v1, v2] := by cases args; simp_all
  obtain ⟨rfl, rfl⟩ := trodVars_none hV
  obtain ⟨a0, rfl, rfl, rfl, w0⟩ := ChangeMaps.open_string Try.underlying9 (hval 0 9 v0 rfl rfl) h0
  obtain ⟨c0, c1, c2, y0, y1, y2, m, rfl, rfl, rfl, hy0, hy1, hy2⟩ := Joins.open_agg3 Try.underlying23 (by kernel_rfl) (by kernel_rfl) (hval 1 23 v1 rfl rfl) h1
  obtain ⟨k1, e0, rfl, wk1⟩ := DataW.trod_int Try.underlying3 hy0
  obtain ⟨n1, e1, rfl, wn1⟩ := DataW.trod_int Try.underlying2 hy1
  obtain ⟨s1, e2, rfl, ws1⟩ := DataW.trod_string Try.underlying9 hy2
  simp at e0 e1 e2
  subst e0 e1 e2
  obtain ⟨c0, c1, c2, y0, y1, y2, m, rfl, rfl, rfl, hy0, hy1, hy2⟩ := Joins.open_agg3 Try.underlying23 (by kernel_rfl) (by kernel_rfl) (hval 2 23 v2 rfl rfl) h2
  obtain ⟨k2, e0, rfl, wk2⟩ := DataW.trod_int Try.underlying3 hy0
  obtain ⟨n2, e1, rfl, wn2⟩ := DataW.trod_int Try.underlying2 hy1
  obtain ⟨s2, e2, rfl, ws2⟩ := DataW.trod_string Try.underlying9 hy2
  simp at e0 e1 e2
  subst e0 e1 e2
  clear hA0 hval0
  refine (walk a0 ⟨k1, n1, s1⟩ ⟨k2, n2, s2⟩ w0 wk1 wn1 ws1 wk2 wn2 ws2 W).mono fun e W' ⟨he, hg⟩ => ?_
  subst he
  exact ⟨_, rfl, LawKit.post_law laid_out (by kernel_rfl) rfl Try.underlying4 rfl hW' ⟨rfl, rfl, rfl⟩ hg⟩

theorem over : Rows.opsReckonRow.holds Try.pinned (OpenSpec.ofChange Rows.opsReckonSpec) :=
  OpenClaim.holds_of_wide 3 Try.f3 rfl rfl rfl rfl rfl rfl rfl ⟨rfl, rfl, rfl, rfl, rfl⟩ rfl rfl rfl rfl rfl (by kernel_rfl) Try.func3 (by kernel_rfl)
    (of_decide_eq_true (by kernel_rfl)) (by unfold Func.isWrapper; first | (rw [if_pos (by decide +kernel)]; kernel_rfl) | (rw [if_neg (by decide +kernel)]; exact ⟨rfl, rfl⟩))
    (fun os started H enc _ => lifted os started H enc)

/-- THE STATEMENT -/
theorem proved : Rows.OpsReckonSaid := over
#print axioms proved
end Go.Proofs.Ytcoidmkaddnkdaa.opsReckon
