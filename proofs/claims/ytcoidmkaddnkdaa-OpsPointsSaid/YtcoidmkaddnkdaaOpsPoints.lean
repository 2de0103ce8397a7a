/- THE LAW OpsPoints: whatever the arguments, the call returns true, and they read as they did. No condition. -/
import Derived.Test.YtcoidmkaddnkdaaRows
import Derived.Test.YtcoidmkaddnkdaaQ3
import Derived.Test.YtcoidmkaddnkdaaKit
import Derived.Lib.SmallJoins
import Derived.Deep.DeepCutAuto
namespace Go.Proofs.Ytcoidmkaddnkdaa.opsPoints
open Go.ChangeShapes Go.WideShapes Go.ChangeAt Go.RowKit AnteFlo AnteVal AnteOps
set_option linter.unusedVariables false

/-- a number with a point -/
def vf (n : Int) : V := ⟨2, n, ⟨#[]⟩⟩
theorem vright_vf {n : Int} (h : right n = true) : vright (vf n) = true := by
  unfold vright vf; rw [if_neg (show ¬ ((2 : Int) = 1) by decide), if_pos rfl, ByteArray.toList_eq, h]; rfl
theorem empty_le : (⟨#[]⟩ : ByteArray).size ≤ maxLen := Nat.zero_le _
theorem flo_c {op : ByteArray} (h : isOp op = true) {x y : Int} (hx : I64 x) (hy : I64 y) (rx : right x = true) (ry : right y = true) (w : World) :
    Calls Try.prog 10 #[.string op, .agg #[.int .i64 2, .int .i64 x, .string ⟨#[]⟩], .agg #[.int .i64 2, .int .i64 y, .string ⟨#[]⟩]] w fun e w' =>
      e = .returned (.tuple #[.agg #[.int .i64 2, .int .i64 (putF op x y), .string ⟨#[]⟩], .int .i64 0]) ∧ Below w.heap.size w w' := by
  have := reckon_any op (vf x) (vf y) empty_le empty_le hx hy w
  rw [show rk op (vf x) (vf y) = (vf (putF op x y), 0) by unfold rk; rw [h, vright_vf rx, vright_vf ry]; rfl] at this
  exact this
theorem kinds_c {x y : Int} (hx : I64 x) (hy : I64 y) (rx : right x = true) (w : World) :
    Calls Try.prog 10 #[.string ⟨#[43]⟩, .agg #[.int .i64 2, .int .i64 x, .string ⟨#[]⟩], .agg #[.int .i64 1, .int .i64 y, .string ⟨#[]⟩]] w fun e w' =>
      e = .returned (.tuple #[.agg #[.int .i64 0, .int .i64 0, .string ⟨#[]⟩], .int .i64 6]) ∧ Below w.heap.size w w' := by
  have := reckon_any ⟨#[43]⟩ (vf x) (vw y) empty_le empty_le hx hy w
  rw [show rk ⟨#[43]⟩ (vf x) (vw y) = (vnil, 6) by unfold rk; rw [show isOp ⟨#[43]⟩ = true from rfl, vright_vf rx, vright_vw]; rfl] at this
  exact this
theorem mul_right_c {x : Int} (h : right x = true) (w : World) : Calls Try.prog 19 #[.agg #[.int .i64 2, .int .i64 x, .string ⟨#[]⟩]] w fun e w' => e = .returned (.bool true) ∧ Below w.heap.size w w' := by
  have := refVright_any (vf x) empty_le w
  rw [vright_vf h] at this
  exact this

theorem below_of {f : Nat} {args : Array Value} {e0 : Ending} (h : ∀ w, Calls Try.prog f args w fun e w' => e = e0 ∧ ∃ n, w' = w.drewN n) (w : World) : Calls Try.prog f args w fun e w' => e = e0 ∧ Below w.heap.size w w' :=
  (h w).mono fun _ _ ⟨h1, n, h2⟩ => ⟨h1, by rw [h2]; exact below_drewN (Below.refl _ _) n⟩
theorem right_gMul (a b : Int) : right (gMul a b) = true := by
  rcases Nat.eq_or_lt_of_le (Nat.zero_le 0) with _ | h
  · have hb : ∀ o : Option Nat, (∀ x, o = some x → x < 18446744073709551616) → right (ocode o) = true := by
      intro o ho
      cases o with
      | none => rfl
      | some x => exact right_code (ho x rfl)
    exact hb _ (fun x hx => fop_lt hx)
  · omega

theorem bad0 (a0 a1 : Int) (r0 : right a0 = false) (w : World) : Calls Try.prog 6 #[.int .i64 a0, .int .i64 a1] w fun e w' => e = .returned (.bool true) ∧ Below w.heap.size w w' := by
  go_enter Try.func6, Try.ntmps6
  have HB : Hid (Below w.heap.size w w) := Below.refl _ _
  go_wp2_with fail
  refine (awake_any _).mono ?_; rintro e W1 ⟨rfl, hb⟩
  replace HB := Lib.hid (below_next HB.out hb)
  clear hb
  go_wp2_with fail
  refine (right_any a0 _).mono ?_; rintro e w2 ⟨rfl, rfl⟩
  go_wp2_with fail
  refine (awake_any _).mono ?_; rintro e W2 ⟨rfl, hb⟩
  replace HB := Lib.hid (below_next HB.out hb)
  clear hb
  go_wp2_with fail
  go_ret
  exact ⟨rfl, HB.out⟩

theorem bad1 (a0 a1 : Int) (r0 : right a0 = true) (r1 : right a1 = false) (w : World) : Calls Try.prog 6 #[.int .i64 a0, .int .i64 a1] w fun e w' => e = .returned (.bool true) ∧ Below w.heap.size w w' := by
  go_enter Try.func6, Try.ntmps6
  have HB : Hid (Below w.heap.size w w) := Below.refl _ _
  go_wp2_with fail
  refine (awake_any _).mono ?_; rintro e W1 ⟨rfl, hb⟩
  replace HB := Lib.hid (below_next HB.out hb)
  clear hb
  go_wp2_with fail
  refine (right_any a0 _).mono ?_; rintro e w2 ⟨rfl, rfl⟩
  go_wp2_with fail
  refine (right_any a1 _).mono ?_; rintro e w2 ⟨rfl, rfl⟩
  go_wp2_with fail
  refine (awake_any _).mono ?_; rintro e W2 ⟨rfl, hb⟩
  replace HB := Lib.hid (below_next HB.out hb)
  clear hb
  go_wp2_with fail
  go_ret
  exact ⟨rfl, HB.out⟩

theorem addf_c {x y : Int} (hx : I64 x) (hy : I64 y) (rx : right x = true) (ry : right y = true) (w : World) :
    Calls Try.prog 10 #[.string ⟨#[43]⟩, .agg #[.int .i64 2, .int .i64 x, .string ⟨#[]⟩], .agg #[.int .i64 2, .int .i64 y, .string ⟨#[]⟩]] w fun e w' =>
      e = .returned (.tuple #[.agg #[.int .i64 2, .int .i64 (gAdd x y), .string ⟨#[]⟩], .int .i64 0]) ∧ Below w.heap.size w w' := flo_c (op := ⟨#[43]⟩) rfl hx hy rx ry w
theorem subf_c {x y : Int} (hx : I64 x) (hy : I64 y) (rx : right x = true) (ry : right y = true) (w : World) :
    Calls Try.prog 10 #[.string ⟨#[45]⟩, .agg #[.int .i64 2, .int .i64 x, .string ⟨#[]⟩], .agg #[.int .i64 2, .int .i64 y, .string ⟨#[]⟩]] w fun e w' =>
      e = .returned (.tuple #[.agg #[.int .i64 2, .int .i64 (gSub x y), .string ⟨#[]⟩], .int .i64 0]) ∧ Below w.heap.size w w' := flo_c (op := ⟨#[45]⟩) rfl hx hy rx ry w
theorem mulf_c {x y : Int} (hx : I64 x) (hy : I64 y) (rx : right x = true) (ry : right y = true) (w : World) :
    Calls Try.prog 10 #[.string ⟨#[42]⟩, .agg #[.int .i64 2, .int .i64 x, .string ⟨#[]⟩], .agg #[.int .i64 2, .int .i64 y, .string ⟨#[]⟩]] w fun e w' =>
      e = .returned (.tuple #[.agg #[.int .i64 2, .int .i64 (gMul x y), .string ⟨#[]⟩], .int .i64 0]) ∧ Below w.heap.size w w' := flo_c (op := ⟨#[42]⟩) rfl hx hy rx ry w

set_option maxRecDepth 100000 in
set_option maxHeartbeats 4000000 in
theorem good_ (a0 a1 : Int) (i0 : I64 a0) (i1 : I64 a1) (r0 : right a0 = true) (r1 : right a1 = true) (w : World) : Calls Try.prog 6 #[.int .i64 a0, .int .i64 a1] w fun e w' => e = .returned (.bool true) ∧ Below w.heap.size w w' := by
  have s1 := Lib.hid (addf_c i0 i1 r0 r1)
  have s2 := Lib.hid (subf_c i0 i1 r0 r1)
  have s3 := Lib.hid (mulf_c i0 i1 r0 r1)
  have s4 := Lib.hid (kinds_c i0 i1 r0)
  have s5 := Lib.hid (mul_right_c (right_gMul a0 a1))
  have A1 := Lib.hid (below_of (add_c i0 i1))
  have A2 := Lib.hid (below_of (sub_c i0 i1))
  have A3 := Lib.hid (below_of (mul_c i0 i1))
  have I0 := Lib.hid i0
  have I1 := Lib.hid i1
  clear i0 i1
  go_enter Try.func6, Try.ntmps6
  have HB : Hid (Below w.heap.size w w) := Below.refl _ _
  go_wp2_with fail
  refine (awake_any _).mono ?_; rintro e W1 ⟨rfl, hb⟩
  replace HB := Lib.hid (below_next HB.out hb)
  clear hb
  go_wp2_with fail
  refine (right_any a0 _).mono ?_; rintro e w2 ⟨rfl, rfl⟩
  go_wp2_with fail
  refine (right_any a1 _).mono ?_; rintro e w2 ⟨rfl, rfl⟩
  go_wp2_with fail
  have x0 : ((W1.alloc (.cells #[.int .i64 2, .int .i64 a0, .string ⟨#[]⟩] 23)).alloc (.cells #[.int .i64 2, .int .i64 a1, .string ⟨#[]⟩] 23)).cell? ⟨W1.heap.size, 0, none⟩ = some (.int .i64 2) := by simp [go_sem]
  have y0 : ((W1.alloc (.cells #[.int .i64 2, .int .i64 a0, .string ⟨#[]⟩] 23)).alloc (.cells #[.int .i64 2, .int .i64 a1, .string ⟨#[]⟩] 23)).cell? ⟨W1.heap.size + 1, 0, none⟩ = some (.int .i64 2) := by simp [go_sem]
  have x1 : ((W1.alloc (.cells #[.int .i64 2, .int .i64 a0, .string ⟨#[]⟩] 23)).alloc (.cells #[.int .i64 2, .int .i64 a1, .string ⟨#[]⟩] 23)).cell? ⟨W1.heap.size, 1, none⟩ = some (.int .i64 a0) := by simp [go_sem]
  have y1 : ((W1.alloc (.cells #[.int .i64 2, .int .i64 a0, .string ⟨#[]⟩] 23)).alloc (.cells #[.int .i64 2, .int .i64 a1, .string ⟨#[]⟩] 23)).cell? ⟨W1.heap.size + 1, 1, none⟩ = some (.int .i64 a1) := by simp [go_sem]
  have x2 : ((W1.alloc (.cells #[.int .i64 2, .int .i64 a0, .string ⟨#[]⟩] 23)).alloc (.cells #[.int .i64 2, .int .i64 a1, .string ⟨#[]⟩] 23)).cell? ⟨W1.heap.size, 2, none⟩ = some (.string ⟨#[]⟩) := by simp [go_sem]
  have y2 : ((W1.alloc (.cells #[.int .i64 2, .int .i64 a0, .string ⟨#[]⟩] 23)).alloc (.cells #[.int .i64 2, .int .i64 a1, .string ⟨#[]⟩] 23)).cell? ⟨W1.heap.size + 1, 2, none⟩ = some (.string ⟨#[]⟩) := by simp [go_sem]
  replace HB := Lib.hid (below_box (below_box HB.out (.cells #[.int .i64 2, .int .i64 a0, .string ⟨#[]⟩] 23)) (.cells #[.int .i64 2, .int .i64 a1, .string ⟨#[]⟩] 23))
  generalize ((W1.alloc (.cells #[.int .i64 2, .int .i64 a0, .string ⟨#[]⟩] 23)).alloc (.cells #[.int .i64 2, .int .i64 a1, .string ⟨#[]⟩] 23)) = W2 at *
  generalize W1.heap.size = px at *
  go_wp2_with fail
  refine (s1.out _).mono ?_; rintro e W3 ⟨rfl, hb⟩
  replace HB := Lib.hid (below_next HB.out hb)
  replace x0 := cell_keep x0 hb
  replace x1 := cell_keep x1 hb
  replace x2 := cell_keep x2 hb
  replace y0 := cell_keep y0 hb
  replace y1 := cell_keep y1 hb
  replace y2 := cell_keep y2 hb
  clear hb
  replace x0 := cell_box x0 (.cells #[.int .i64 2, .int .i64 (gAdd a0 a1), .string ⟨#[]⟩] 23)
  replace x1 := cell_box x1 (.cells #[.int .i64 2, .int .i64 (gAdd a0 a1), .string ⟨#[]⟩] 23)
  replace x2 := cell_box x2 (.cells #[.int .i64 2, .int .i64 (gAdd a0 a1), .string ⟨#[]⟩] 23)
  replace y0 := cell_box y0 (.cells #[.int .i64 2, .int .i64 (gAdd a0 a1), .string ⟨#[]⟩] 23)
  replace y1 := cell_box y1 (.cells #[.int .i64 2, .int .i64 (gAdd a0 a1), .string ⟨#[]⟩] 23)
  replace y2 := cell_box y2 (.cells #[.int .i64 2, .int .i64 (gAdd a0 a1), .string ⟨#[]⟩] 23)
  have u0 : (W3.alloc (.cells #[.int .i64 2, .int .i64 (gAdd a0 a1), .string ⟨#[]⟩] 23)).cell? ⟨W3.heap.size, 0, none⟩ = some (.int .i64 2) := by simp [go_sem]
  have u1 : (W3.alloc (.cells #[.int .i64 2, .int .i64 (gAdd a0 a1), .string ⟨#[]⟩] 23)).cell? ⟨W3.heap.size, 1, none⟩ = some (.int .i64 (gAdd a0 a1)) := by simp [go_sem]
  have u2 : (W3.alloc (.cells #[.int .i64 2, .int .i64 (gAdd a0 a1), .string ⟨#[]⟩] 23)).cell? ⟨W3.heap.size, 2, none⟩ = some (.string ⟨#[]⟩) := by simp [go_sem]
  replace HB := Lib.hid (below_box HB.out (.cells #[.int .i64 2, .int .i64 (gAdd a0 a1), .string ⟨#[]⟩] 23))
  go_wp2_with fail
  generalize (W3.alloc (.cells #[.int .i64 2, .int .i64 (gAdd a0 a1), .string ⟨#[]⟩] 23)) = W4 at *
  generalize W3.heap.size = pu at *
  go_wp2_with fail
  refine (s2.out _).mono ?_; rintro e W5 ⟨rfl, hb⟩
  replace HB := Lib.hid (below_next HB.out hb)
  replace x0 := cell_keep x0 hb
  replace x1 := cell_keep x1 hb
  replace x2 := cell_keep x2 hb
  replace y0 := cell_keep y0 hb
  replace y1 := cell_keep y1 hb
  replace y2 := cell_keep y2 hb
  replace u0 := cell_keep u0 hb
  replace u1 := cell_keep u1 hb
  replace u2 := cell_keep u2 hb
  clear hb
  replace x0 := cell_box x0 (.cells #[.int .i64 2, .int .i64 (gSub a0 a1), .string ⟨#[]⟩] 23)
  replace x1 := cell_box x1 (.cells #[.int .i64 2, .int .i64 (gSub a0 a1), .string ⟨#[]⟩] 23)
  replace x2 := cell_box x2 (.cells #[.int .i64 2, .int .i64 (gSub a0 a1), .string ⟨#[]⟩] 23)
  replace y0 := cell_box y0 (.cells #[.int .i64 2, .int .i64 (gSub a0 a1), .string ⟨#[]⟩] 23)
  replace y1 := cell_box y1 (.cells #[.int .i64 2, .int .i64 (gSub a0 a1), .string ⟨#[]⟩] 23)
  replace y2 := cell_box y2 (.cells #[.int .i64 2, .int .i64 (gSub a0 a1), .string ⟨#[]⟩] 23)
  replace u0 := cell_box u0 (.cells #[.int .i64 2, .int .i64 (gSub a0 a1), .string ⟨#[]⟩] 23)
  replace u1 := cell_box u1 (.cells #[.int .i64 2, .int .i64 (gSub a0 a1), .string ⟨#[]⟩] 23)
  replace u2 := cell_box u2 (.cells #[.int .i64 2, .int .i64 (gSub a0 a1), .string ⟨#[]⟩] 23)
  have v0 : (W5.alloc (.cells #[.int .i64 2, .int .i64 (gSub a0 a1), .string ⟨#[]⟩] 23)).cell? ⟨W5.heap.size, 0, none⟩ = some (.int .i64 2) := by simp [go_sem]
  have v1 : (W5.alloc (.cells #[.int .i64 2, .int .i64 (gSub a0 a1), .string ⟨#[]⟩] 23)).cell? ⟨W5.heap.size, 1, none⟩ = some (.int .i64 (gSub a0 a1)) := by simp [go_sem]
  have v2 : (W5.alloc (.cells #[.int .i64 2, .int .i64 (gSub a0 a1), .string ⟨#[]⟩] 23)).cell? ⟨W5.heap.size, 2, none⟩ = some (.string ⟨#[]⟩) := by simp [go_sem]
  replace HB := Lib.hid (below_box HB.out (.cells #[.int .i64 2, .int .i64 (gSub a0 a1), .string ⟨#[]⟩] 23))
  go_wp2_with fail
  generalize (W5.alloc (.cells #[.int .i64 2, .int .i64 (gSub a0 a1), .string ⟨#[]⟩] 23)) = W6 at *
  generalize W5.heap.size = pv at *
  go_wp2_with fail
  refine (s3.out _).mono ?_; rintro e W7 ⟨rfl, hb⟩
  replace HB := Lib.hid (below_next HB.out hb)
  replace x0 := cell_keep x0 hb
  replace x1 := cell_keep x1 hb
  replace x2 := cell_keep x2 hb
  replace y0 := cell_keep y0 hb
  replace y1 := cell_keep y1 hb
  replace y2 := cell_keep y2 hb
  replace u0 := cell_keep u0 hb
  replace u1 := cell_keep u1 hb
  replace u2 := cell_keep u2 hb
  replace v0 := cell_keep v0 hb
  replace v1 := cell_keep v1 hb
  replace v2 := cell_keep v2 hb
  clear hb
  replace x0 := cell_box x0 (.cells #[.int .i64 2, .int .i64 (gMul a0 a1), .string ⟨#[]⟩] 23)
  replace x1 := cell_box x1 (.cells #[.int .i64 2, .int .i64 (gMul a0 a1), .string ⟨#[]⟩] 23)
  replace x2 := cell_box x2 (.cells #[.int .i64 2, .int .i64 (gMul a0 a1), .string ⟨#[]⟩] 23)
  replace y0 := cell_box y0 (.cells #[.int .i64 2, .int .i64 (gMul a0 a1), .string ⟨#[]⟩] 23)
  replace y1 := cell_box y1 (.cells #[.int .i64 2, .int .i64 (gMul a0 a1), .string ⟨#[]⟩] 23)
  replace y2 := cell_box y2 (.cells #[.int .i64 2, .int .i64 (gMul a0 a1), .string ⟨#[]⟩] 23)
  replace u0 := cell_box u0 (.cells #[.int .i64 2, .int .i64 (gMul a0 a1), .string ⟨#[]⟩] 23)
  replace u1 := cell_box u1 (.cells #[.int .i64 2, .int .i64 (gMul a0 a1), .string ⟨#[]⟩] 23)
  replace u2 := cell_box u2 (.cells #[.int .i64 2, .int .i64 (gMul a0 a1), .string ⟨#[]⟩] 23)
  replace v0 := cell_box v0 (.cells #[.int .i64 2, .int .i64 (gMul a0 a1), .string ⟨#[]⟩] 23)
  replace v1 := cell_box v1 (.cells #[.int .i64 2, .int .i64 (gMul a0 a1), .string ⟨#[]⟩] 23)
  replace v2 := cell_box v2 (.cells #[.int .i64 2, .int .i64 (gMul a0 a1), .string ⟨#[]⟩] 23)
  have z0 : (W7.alloc (.cells #[.int .i64 2, .int .i64 (gMul a0 a1), .string ⟨#[]⟩] 23)).cell? ⟨W7.heap.size, 0, none⟩ = some (.int .i64 2) := by simp [go_sem]
  have z1 : (W7.alloc (.cells #[.int .i64 2, .int .i64 (gMul a0 a1), .string ⟨#[]⟩] 23)).cell? ⟨W7.heap.size, 1, none⟩ = some (.int .i64 (gMul a0 a1)) := by simp [go_sem]
  have z2 : (W7.alloc (.cells #[.int .i64 2, .int .i64 (gMul a0 a1), .string ⟨#[]⟩] 23)).cell? ⟨W7.heap.size, 2, none⟩ = some (.string ⟨#[]⟩) := by simp [go_sem]
  replace HB := Lib.hid (below_box HB.out (.cells #[.int .i64 2, .int .i64 (gMul a0 a1), .string ⟨#[]⟩] 23))
  go_upto_region 7 with fail
  generalize (W7.alloc (.cells #[.int .i64 2, .int .i64 (gMul a0 a1), .string ⟨#[]⟩] 23)) = W8 at *
  generalize W7.heap.size = pz at *
  have lx := block_lt x0
  have lu := block_lt u0
  have lv := block_lt v0
  have lz := block_lt z0
  simp only at lx lu lv lz
  have hn := HB.out.size
  have hB := HB.out
  obtain ⟨N, hN⟩ : ∃ N, N = W8.heap.size := ⟨_, rfl⟩
  rw [← hN] at lx lu lv lz hn
  have hN2 := Nat.le_of_eq hN
  go_cut [14] (fun t14 wx => t14 = .int .i64 6 ∧ wx.cell? ⟨pu, 0, none⟩ = some (.int .i64 2) ∧ wx.cell? ⟨pu, 1, none⟩ = some (.int .i64 (gAdd a0 a1)) ∧ wx.cell? ⟨pu, 2, none⟩ = some (.string ⟨#[]⟩) ∧ wx.cell? ⟨pv, 0, none⟩ = some (.int .i64 2) ∧ wx.cell? ⟨pv, 1, none⟩ = some (.int .i64 (gSub a0 a1)) ∧ wx.cell? ⟨pv, 2, none⟩ = some (.string ⟨#[]⟩) ∧ wx.cell? ⟨pz, 0, none⟩ = some (.int .i64 2) ∧ wx.cell? ⟨pz, 1, none⟩ = some (.int .i64 (gMul a0 a1)) ∧ wx.cell? ⟨pz, 2, none⟩ = some (.string ⟨#[]⟩) ∧ Below w.heap.size w wx)
  case first =>
    go_region_held3 (fun w' => N ≤ w'.heap.size ∧ w'.cell? ⟨px, 0, none⟩ = some (.int .i64 2) ∧ w'.cell? ⟨px, 1, none⟩ = some (.int .i64 a0) ∧ w'.cell? ⟨px, 2, none⟩ = some (.string ⟨#[]⟩) ∧ w'.cell? ⟨pu, 0, none⟩ = some (.int .i64 2) ∧ w'.cell? ⟨pu, 1, none⟩ = some (.int .i64 (gAdd a0 a1)) ∧ w'.cell? ⟨pu, 2, none⟩ = some (.string ⟨#[]⟩) ∧ w'.cell? ⟨pv, 0, none⟩ = some (.int .i64 2) ∧ w'.cell? ⟨pv, 1, none⟩ = some (.int .i64 (gSub a0 a1)) ∧ w'.cell? ⟨pv, 2, none⟩ = some (.string ⟨#[]⟩) ∧ w'.cell? ⟨pz, 0, none⟩ = some (.int .i64 2) ∧ w'.cell? ⟨pz, 1, none⟩ = some (.int .i64 (gMul a0 a1)) ∧ w'.cell? ⟨pz, 2, none⟩ = some (.string ⟨#[]⟩) ∧ Below w.heap.size w w') (first | assumption | (go_split_ands; (repeat' apply And.intro); (all_goals first | with_reducible assumption | with_reducible exact cell_keep (by assumption) hb | with_reducible exact below_next (by assumption) hb | with_reducible exact Below.drew (by assumption) | with_reducible exact cell_box (by assumption) _ | with_reducible exact cell_box_drew (by assumption) _ | with_reducible exact below_box_drew (by assumption) _ | with_reducible exact below_box (by assumption) _ | with_reducible exact cell_realloc (by assumption) (by omega) _ | with_reducible exact below_realloc (by assumption) (by omega) _ (by omega) | with_reducible exact cell_store3 (by assumption) (by omega) | with_reducible exact below_store3 (by assumption) (by omega) | with_reducible exact Nat.le_trans (by assumption) hb.size | (simp; omega)))) (first | (go_at_call 14; refine (whole_any a1 _).mono ?_; rintro e w' ⟨rfl, hb⟩; have hz : N ≤ w'.heap.size := Nat.le_trans (And.left (by assumption)) hb.size; first | (with_reducible have m := fresh3 hb) | (with_reducible have m := fresh3_drew hb) | (with_reducible have m := fresh_keep m hb) | skip) | (go_at_call 10; refine (s4.out _).mono ?_; rintro e w' ⟨rfl, hb⟩; have hz : N ≤ w'.heap.size := Nat.le_trans (And.left (by assumption)) hb.size; first | (with_reducible have m := fresh3 hb) | (with_reducible have m := fresh3_drew hb) | (with_reducible have m := fresh_keep m hb) | skip))
    all_goals
      go_wp2_with fail
      go_meet
      go_split_ands
      refine ⟨rfl, ?_⟩
      repeat' apply And.intro
      all_goals with_reducible assumption
  case rest =>
    clear x0 x1 x2 y0 y1 y2 u0 u1 u2 v0 v1 v2 z0 z1 z2 HB hB hN hN2 lx lu lv lz hn
    obtain ⟨rfl, u0, u1, u2, v0, v1, v2, z0, z1, z2, hB⟩ := hcut
    go_wp2_with fail
    go_region_held3 (fun w' => w'.cell? ⟨pu, 0, none⟩ = some (.int .i64 2) ∧ w'.cell? ⟨pu, 1, none⟩ = some (.int .i64 (gAdd a0 a1)) ∧ w'.cell? ⟨pu, 2, none⟩ = some (.string ⟨#[]⟩) ∧ w'.cell? ⟨pv, 0, none⟩ = some (.int .i64 2) ∧ w'.cell? ⟨pv, 1, none⟩ = some (.int .i64 (gSub a0 a1)) ∧ w'.cell? ⟨pv, 2, none⟩ = some (.string ⟨#[]⟩) ∧ w'.cell? ⟨pz, 0, none⟩ = some (.int .i64 2) ∧ w'.cell? ⟨pz, 1, none⟩ = some (.int .i64 (gMul a0 a1)) ∧ w'.cell? ⟨pz, 2, none⟩ = some (.string ⟨#[]⟩) ∧ Below w.heap.size w w') (first | assumption | (go_split_ands; (repeat' apply And.intro); (all_goals first | assumption | exact cell_keep (by assumption) hb | exact below_next (by assumption) hb | exact Below.drew (by assumption)))) (first | (go_at_call 16; refine (A1.out _).mono ?_; rintro e w' ⟨rfl, hb⟩) | (go_at_call 17; refine (A2.out _).mono ?_; rintro e w' ⟨rfl, hb⟩) | (go_at_call 18; refine (A3.out _).mono ?_; rintro e w' ⟨rfl, hb⟩) | (go_at_call 19; refine (s5.out _).mono ?_; rintro e w' ⟨rfl, hb⟩))
    all_goals
      go_split_ands
      go_wp2_with fail
      go_ret
      exact ⟨ret_bool (by simp), by assumption⟩

theorem walk (a0 a1 : Int) (w0 : (Lit.int .i64 a0).wf = true) (w1 : (Lit.int .i64 a1).wf = true) (w : World) :
    Calls Try.prog 6 #[.int .i64 a0, .int .i64 a1] w fun e w' => e = .returned (.bool true) ∧ Below w.heap.size w w' := by
  cases r0 : right a0
  · exact bad0 a0 a1 r0 w
  cases r1 : right a1
  · exact bad1 a0 a1 r0 r1 w
  exact good_ a0 a1 (bounds_i64 w0) (bounds_i64 w1) r0 r1 w


theorem own : ownKnob Try.prog.godebug = none := by kernel_rfl
theorem laid_out : laidOutB Try.prog = true := by kernel_rfl

set_option maxRecDepth 100000 in
theorem lifted (os : Os) (started : os.Started) (H : Type) (enc : TypeId × Value → H) :
    ReturnsInHanded {} Try.checked os 6 .any (Rows.opsPointsSpec.pre6 enc Try.prog Try.f6 Rows.opsPointsRow.domain false) (Rows.opsPointsSpec.post enc Try.prog Try.f6 false true false false) := by
  refine returnsInHanded_of_change (C := Try.checked) own started (by kernel_rfl) Try.func6
    (ChangeSpec.witness6 (enc := enc) (C := Try.checked) false ⟨#[], #[.int .i64 0, .int .i64 0], []⟩ 8 (by kernel_rfl) (by kernel_rfl) (by kernel_rfl) (by kernel_rfl)) ?_
  intro W base args ds gs before hval0 hW hcnd _
  have hval : ∀ (j : Nat) t v, Try.f6.params[j]? = some t → args[j]? = some v → Value.okWide Try.prog W .any base t v := hval0
  have hW' := hW
  obtain ⟨p, q, hA0, hV, rfl, hfz, hnd⟩ := hW
  have hA : DataW.TrodAll enc Try.prog W 0 (fun _ => true) true Try.f6.params.toList args.toList ds p := hA0
  rw [Try.params6] at hA hval
  obtain ⟨v0, vs0, d0, ds0, p0, q0, hargs, rfl, rfl, h0, r0⟩ := trodAll_cons hA
  obtain ⟨v1, vs1, d1, ds1, p1, q1, rfl, rfl, rfl, h1, r1⟩ := trodAll_cons r0
  obtain ⟨rfl, rfl, rfl⟩ := trodAll_nil r1
  obtain rfl : args = #[v0, v1] := by cases args; simp_all
  obtain ⟨rfl, rfl⟩ := trodVars_none hV
  obtain ⟨a0, rfl, rfl, rfl, w0⟩ := open_int Try.underlying2 (hval 0 2 v0 rfl rfl) h0
  obtain ⟨a1, rfl, rfl, rfl, w1⟩ := open_int Try.underlying2 (hval 1 2 v1 rfl rfl) h1
  clear hA0 hval0
  refine (walk a0 a1 w0 w1 W).mono fun e W' ⟨he, hg⟩ => ?_
  subst he
  exact ⟨_, rfl, LawKit.post_law laid_out (by kernel_rfl) rfl Try.underlying4 rfl hW' ⟨rfl, rfl, rfl⟩ hg⟩

theorem over : Rows.opsPointsRow.holds Try.pinned (OpenSpec.ofChange Rows.opsPointsSpec) :=
  OpenClaim.holds_of_wide 6 Try.f6 rfl rfl rfl rfl rfl rfl rfl ⟨rfl, rfl, rfl, rfl, rfl⟩ rfl rfl rfl rfl rfl (by kernel_rfl) Try.func6 (by kernel_rfl)
    (of_decide_eq_true (by kernel_rfl)) (by unfold Func.isWrapper; first | (rw [if_pos (by decide +kernel)]; kernel_rfl) | (rw [if_neg (by decide +kernel)]; exact ⟨rfl, rfl⟩))
    (fun os started H enc _ => lifted os started H enc)

/-- THE STATEMENT -/
theorem proved : Rows.OpsPointsSaid := over
#print axioms proved
end Go.Proofs.Ytcoidmkaddnkdaa.opsPoints
