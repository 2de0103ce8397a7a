-- printed by a program of this session out of the translation
import Derived.Test.YtolefpeiceiocaaPs0
import Derived.Test.YtolefpeiceiocaaPs1
import Derived.Test.YtolefpeiceiocaaPsOf
import Derived.Test.YtolefpeiceiocaaPsAw
import Derived.Test.YtolefpeiceiocaaPs3
namespace Go.Proofs.Ytolefpeiceiocaa.Ps
open Go.RowKit Go.Proofs.YtolefpeiceiocaaW.PrintWords Go.Proofs.YtolefpeiceiocaaW.PrintLast Go.Proofs.YtolefpeiceiocaaW.PrintMore
attribute [local go_sem] max2_int min2_int max_two min_two max_three min_three max_four min_four   -- for this text's walks alone
set_option linter.unusedVariables false
set_option linter.unusedSimpArgs false

attribute [local go_sem high] eqA27
mutual
def antecedentlaw20_FoldEnds.j0 : Nat → List (S27) → Int → Bool → Int → Int → ByteArray → Int → Int → ByteArray → Int → Int → ByteArray → Option (Bool)
  | 0, _, _, _, _, _, _, _, _, _, _, _, _ => none
  | k + 1, x0, x4, x45, x209000, x209001, x209002, x214000, x214001, x214002, x219000, x219001, x219002 => if x45 = true then (none) else (if x4 = 0 then (antecedentlaw20_FoldEnds.l0 k x0 0 false false (x0.length : Int) 0 x209000 x209001 x209002 x214000 x214001 x214002 x219000 x219001 x219002) else (some ((x4 == 12) == ((x0.length : Int) == 0))))
def antecedentlaw20_FoldEnds.l0 : Nat → List (S27) → Int → Bool → Bool → Int → Int → Int → Int → ByteArray → Int → Int → ByteArray → Int → Int → ByteArray → Option (Bool)
  | 0, _, _, _, _, _, _, _, _, _, _, _, _, _, _, _ => none
  | k + 1, x0, x9, x10, x11, x55, x56, x209000, x209001, x209002, x214000, x214001, x214002, x219000, x219001, x219002 => if x56 < x55 then (antecedentlaw20_FoldEnds.l1 k x0 x9 x10 x11 x56 true x55 x56 x56 0 x209000 x209001 x209002 x214000 x214001 x214002 x219000 x219001 x219002) else (if x10 = true then (if x11 = true then (some (x219000 == 1 && (x219001 == x9 && (x219002.toList == ([] : List UInt8))))) else (none)) else (none))
def antecedentlaw20_FoldEnds.l1 : Nat → List (S27) → Int → Bool → Bool → Int → Bool → Int → Int → Int → Int → Int → Int → ByteArray → Int → Int → ByteArray → Int → Int → ByteArray → Option (Bool)
  | 0, _, _, _, _, _, _, _, _, _, _, _, _, _, _, _, _, _, _, _ => none
  | k + 1, x0, x9, x10, x11, x12, x13, x55, x56, x59, x60, x209000, x209001, x209002, x214000, x214001, x214002, x219000, x219001, x219002 => if x60 < x59 then (if x13 = true then (if 0 ≤ x60 then (if x60 < (x0.length : Int) then (if 0 ≤ x12 then (if x12 < (x0.length : Int) then (antecedentlaw20_FoldEnds.l1 k x0 x9 x10 x11 x12 (!(((rd_T27 x0 x60).f0) == ((rd_T27 x0 x12).f0)) || (!(((rd_T27 x0 x60).f1) == ((rd_T27 x0 x12).f1)) || (!((((rd_T27 x0 x60).f2).toList) == (((rd_T27 x0 x12).f2).toList))))) x55 x56 x59 (wrap64 (x60 + 1)) x209000 x209001 x209002 x214000 x214001 x214002 x219000 x219001 x219002) else (none)) else (none)) else (none)) else (none)) else (antecedentlaw20_FoldEnds.l1 k x0 x9 x10 x11 x12 false x55 x56 x59 (wrap64 (x60 + 1)) x209000 x209001 x209002 x214000 x214001 x214002 x219000 x219001 x219002)) else (if x13 = true then (antecedentlaw20_FoldEnds.j3 k x0 (wrap64 (x9 + 1)) x10 x11 x12 x55 x56 x209000 x209001 x209002 x214000 x214001 x214002 x219000 x219001 x219002) else (antecedentlaw20_FoldEnds.j3 k x0 x9 x10 x11 x12 x55 x56 x209000 x209001 x209002 x214000 x214001 x214002 x219000 x219001 x219002))
def antecedentlaw20_FoldEnds.j3 : Nat → List (S27) → Int → Bool → Bool → Int → Int → Int → Int → Int → ByteArray → Int → Int → ByteArray → Int → Int → ByteArray → Option (Bool)
  | 0, _, _, _, _, _, _, _, _, _, _, _, _, _, _, _, _ => none
  | k + 1, x0, x9, x10, x11, x12, x55, x56, x209000, x209001, x209002, x214000, x214001, x214002, x219000, x219001, x219002 => if 0 ≤ x12 then (if x12 < (x0.length : Int) then ((antecedentref02_Compare.f x209000 x209001 x209002 ((rd_T27 x0 x12).f0) ((rd_T27 x0 x12).f1) ((rd_T27 x0 x12).f2)).bind fun t222 => (if t222 > 0 then (none) else ((antecedentref02_Compare.f ((rd_T27 x0 x12).f0) ((rd_T27 x0 x12).f1) ((rd_T27 x0 x12).f2) x214000 x214001 x214002).bind fun t224 => (if t224 > 0 then (none) else (if x10 = true then (if x11 = true then (antecedentlaw20_FoldEnds.l0 k x0 x9 true true x55 (wrap64 (x56 + 1)) x209000 x209001 x209002 x214000 x214001 x214002 x219000 x219001 x219002) else (antecedentlaw20_FoldEnds.l0 k x0 x9 true (((rd_T27 x0 x12).f0) == x214000 && (((rd_T27 x0 x12).f1) == x214001 && ((((rd_T27 x0 x12).f2).toList) == x214002.toList))) x55 (wrap64 (x56 + 1)) x209000 x209001 x209002 x214000 x214001 x214002 x219000 x219001 x219002)) else (if x11 = true then (antecedentlaw20_FoldEnds.l0 k x0 x9 (((rd_T27 x0 x12).f0) == x209000 && (((rd_T27 x0 x12).f1) == x209001 && ((((rd_T27 x0 x12).f2).toList) == x209002.toList))) true x55 (wrap64 (x56 + 1)) x209000 x209001 x209002 x214000 x214001 x214002 x219000 x219001 x219002) else (antecedentlaw20_FoldEnds.l0 k x0 x9 (((rd_T27 x0 x12).f0) == x209000 && (((rd_T27 x0 x12).f1) == x209001 && ((((rd_T27 x0 x12).f2).toList) == x209002.toList))) (((rd_T27 x0 x12).f0) == x214000 && (((rd_T27 x0 x12).f1) == x214001 && ((((rd_T27 x0 x12).f2).toList) == x214002.toList))) x55 (wrap64 (x56 + 1)) x209000 x209001 x209002 x214000 x214001 x214002 x219000 x219001 x219002))))))) else (none)) else (none)
end
def antecedentlaw20_FoldEnds.f (k : Nat) (l0 : List (S27)) : Option (Bool) := (antecedentlaw20_awake.f k).bind fun t202 => (if t202 = true then (if (l0.length : Int) > 40 then ((antecedentlaw20_awake.f k).bind fun t203 => (if t203 = true then (some t203) else (none))) else ((fold_Of.f k 3 l0).bind fun bt204 => ((fold_Of.f k 4 l0).bind fun bt209 => ((fold_Of.f k 1 l0).bind fun bt214 => (if bt204.2.2.2 = bt209.2.2.2 then (antecedentlaw20_FoldEnds.j0 k l0 bt204.2.2.2 (bt204.2.2.2 != bt214.2.2.2) bt204.1 bt204.2.1 bt204.2.2.1 bt209.1 bt209.2.1 bt209.2.2.1 bt214.1 bt214.2.1 bt214.2.2.1) else (antecedentlaw20_FoldEnds.j0 k l0 bt204.2.2.2 true bt204.1 bt204.2.1 bt204.2.2.1 bt209.1 bt209.2.1 bt209.2.2.1 bt214.1 bt214.2.1 bt214.2.2.1)))))) else (none))
def antecedentlaw20_FoldEnds.T19 : Bool × List (List Nat × List Nat) := (true, [([], []), ([0], [0]), ([1], [1]), ([1], [1]), ([2, 3, 1], [1, 2, 3]), ([4, 1], [1, 4]), ([1], [1]), ([1], [1]), ([6, 7, 1], [1, 6, 7]), ([8, 1], [1, 8]), ([5, 9, 1], [1, 5, 9]), ([1, 10], [1, 10]), ([11, 1, 0, 1, 2, 3, 4, 5, 6, 7, 8, 9, 10, 11], [0, 11])])
def antecedentlaw20_FoldEnds.B19 : List Nat := [0, 1, 3, 3, 15, 31, 3, 3, 195, 451, 1023, 2047, 4095]
theorem antecedentlaw20_FoldEnds.tab19 : rtab .any (opsOf Try.f4 19) = antecedentlaw20_FoldEnds.T19 := by kernel_rfl
theorem antecedentlaw20_FoldEnds.bits19 : waitsOk antecedentlaw20_FoldEnds.T19.2 antecedentlaw20_FoldEnds.B19 = true := by kernel_rfl
def antecedentlaw20_FoldEnds.T23 : Bool × List (List Nat × List Nat) := (true, [([], []), ([], []), ([], []), ([1, 2], [1, 2]), ([3], [3]), ([0, 4], [0, 4]), ([5], [5]), ([6, 5], [6]), ([7], [7]), ([7], [7]), ([8, 9, 7], [7, 8, 9]), ([10, 7], [7, 10]), ([7], [7]), ([11, 12, 7, 7], [7, 11, 12]), ([13, 7], [7, 13]), ([7, 14], [7, 14])])
def antecedentlaw20_FoldEnds.B23 : List Nat := [0, 0, 0, 6, 14, 31, 63, 127, 255, 255, 1023, 2047, 255, 8191, 16383, 32767]
theorem antecedentlaw20_FoldEnds.tab23 : rtab .any (opsOf Try.f4 23) = antecedentlaw20_FoldEnds.T23 := by kernel_rfl
theorem antecedentlaw20_FoldEnds.bits23 : waitsOk antecedentlaw20_FoldEnds.T23.2 antecedentlaw20_FoldEnds.B23 = true := by kernel_rfl
def antecedentlaw20_FoldEnds.T25 : Bool × List (List Nat × List Nat) := (true, [([], []), ([0], [0]), ([1], [1]), ([1], [1]), ([2, 3, 1], [1, 2, 3]), ([4, 1], [1, 4]), ([1], [1]), ([5, 6, 1], [1, 5, 6]), ([1, 7], [1, 7]), ([], []), ([9, 1], [9]), ([10], [10]), ([10], [10]), ([11, 12, 10], [10, 11, 12]), ([13, 10], [10, 13]), ([10], [10]), ([14, 15, 10], [10, 14, 15]), ([10, 16], [10, 16]), ([8, 10, 0, 1, 2, 3, 4, 5, 6, 7, 8], [0, 8]), ([17, 18, 0, 1, 2, 3, 4, 5, 6, 7, 8, 9, 10, 11, 12, 13, 14, 15, 16, 17, 18], [9, 17])])
def antecedentlaw20_FoldEnds.B25 : List Nat := [0, 1, 3, 3, 15, 31, 3, 127, 255, 0, 515, 1539, 1539, 7683, 15875, 1539, 65027, 130563, 2047, 524287]
theorem antecedentlaw20_FoldEnds.tab25 : rtab .any (opsOf Try.f4 25) = antecedentlaw20_FoldEnds.T25 := by kernel_rfl
theorem antecedentlaw20_FoldEnds.bits25 : waitsOk antecedentlaw20_FoldEnds.T25.2 antecedentlaw20_FoldEnds.B25 = true := by kernel_rfl
set_option maxHeartbeats 8000000 in
set_option maxRecDepth 100000 in
theorem antecedentlaw20_FoldEnds.calls (k : Nat) (A0 : Option Addr) (c0 : Nat) (l0 : List (S27)) (r : Bool) (w : World) (hr0 : Kd.C k27 w A0 l0.length l0) (hc0 : l0.length ≤ c0) (h : antecedentlaw20_FoldEnds.f k l0 = some r) :
    Calls Try.prog 4 #[.slice A0 l0.length c0] w fun e w' => e = .returned (.bool r) ∧ Below w.heap.size w w' := by
  have hu27 := Try.underlying27
  have HR0 := Aside0.mk hr0
  have HC0 := Aside0.mk hc0
  clear hr0 hc0
  have HB := Aside0.mk (Below.refl w.heap.size w)
  have H : ((antecedentlaw20_awake.f k).bind fun t202 => (if t202 = true then (if (l0.length : Int) > 40 then ((antecedentlaw20_awake.f k).bind fun t203 => (if t203 = true then (some t203) else (none))) else ((fold_Of.f k 3 l0).bind fun bt204 => ((fold_Of.f k 4 l0).bind fun bt209 => ((fold_Of.f k 1 l0).bind fun bt214 => (if bt204.2.2.2 = bt209.2.2.2 then (antecedentlaw20_FoldEnds.j0 k l0 bt204.2.2.2 (bt204.2.2.2 != bt214.2.2.2) bt204.1 bt204.2.1 bt204.2.2.1 bt209.1 bt209.2.1 bt209.2.2.1 bt214.1 bt214.2.1 bt214.2.2.1) else (antecedentlaw20_FoldEnds.j0 k l0 bt204.2.2.2 true bt204.1 bt204.2.1 bt204.2.2.1 bt209.1 bt209.2.1 bt209.2.2.1 bt214.1 bt214.2.1 bt214.2.2.1)))))) else (none))) = some r := h
  clear h
  replace H := Option.bind_eq_some_iff.mp H
  obtain ⟨t202, A20, H⟩ := H
  replace H : (if t202 = true then (if (l0.length : Int) > 40 then ((antecedentlaw20_awake.f k).bind fun t203 => (if t203 = true then (some t203) else (none))) else ((fold_Of.f k 3 l0).bind fun bt204 => ((fold_Of.f k 4 l0).bind fun bt209 => ((fold_Of.f k 1 l0).bind fun bt214 => (if bt204.2.2.2 = bt209.2.2.2 then (antecedentlaw20_FoldEnds.j0 k l0 bt204.2.2.2 (bt204.2.2.2 != bt214.2.2.2) bt204.1 bt204.2.1 bt204.2.2.1 bt209.1 bt209.2.1 bt209.2.2.1 bt214.1 bt214.2.1 bt214.2.2.1) else (antecedentlaw20_FoldEnds.j0 k l0 bt204.2.2.2 true bt204.1 bt204.2.1 bt204.2.2.1 bt209.1 bt209.2.1 bt209.2.2.1 bt214.1 bt214.2.1 bt214.2.2.1)))))) else (none)) = some r := H
  have A2 := Aside0.mk A20
  clear A20
  by_cases c3 : t202 = true
  · subst c3
    have H1 : (if (l0.length : Int) > 40 then ((antecedentlaw20_awake.f k).bind fun t203 => (if t203 = true then (some t203) else (none))) else ((fold_Of.f k 3 l0).bind fun bt204 => ((fold_Of.f k 4 l0).bind fun bt209 => ((fold_Of.f k 1 l0).bind fun bt214 => (if bt204.2.2.2 = bt209.2.2.2 then (antecedentlaw20_FoldEnds.j0 k l0 bt204.2.2.2 (bt204.2.2.2 != bt214.2.2.2) bt204.1 bt204.2.1 bt204.2.2.1 bt209.1 bt209.2.1 bt209.2.2.1 bt214.1 bt214.2.1 bt214.2.2.1) else (antecedentlaw20_FoldEnds.j0 k l0 bt204.2.2.2 true bt204.1 bt204.2.1 bt204.2.2.1 bt209.1 bt209.2.1 bt209.2.2.1 bt214.1 bt214.2.1 bt214.2.2.1)))))) = some r := by rw [if_pos rfl] at H; exact H
    clear H
    have H := H1
    clear H1
    by_cases c4 : (l0.length : Int) > 40
    · rw [if_pos c4] at H
      have c4b0 : decide (40 < (l0.length : Int)) = true := decide_eq_true c4
      have c4b1 : decide (40 < l0.length) = true := decide_eq_true (by omega)
      clear c4
      replace H := Option.bind_eq_some_iff.mp H
      obtain ⟨t203, A50, H⟩ := H
      replace H : (if t203 = true then (some t203) else (none)) = some r := H
      have A5 := Aside0.mk A50
      clear A50
      by_cases c6 : t203 = true
      · subst c6
        have H1 : (some true) = some r := by rw [if_pos rfl] at H; exact H
        clear H
        have H := H1
        clear H1
        obtain rfl := Option.some.inj H
        go_enter Try.func4, Try.ntmps4
        go_wp2_with (first | ((with_reducible refine gate_callee (f := 8) rfl ?_); refine goesL_ (some 15) rfl rfl Try.func8 (by kernel_rfl) rfl #[] rfl (by (try simp only [List.map_toArray, List.map_cons, List.map_nil]); first | done | rfl | (simp only [List.length_drop, List.length_take]; rfl)) ?_; (with_reducible refine (antecedentlaw20_awake.calls k  true _ A2.out).mono ?_); rintro e w7 ⟨rfl, hb⟩; refine ⟨_, rfl, ?_⟩; have n0_ := Aside0.mk (below_step (by repeat (first | (with_reducible first | exact HB.out | apply below_alloc | apply pw_below_drewN | apply below_drew1) | exact HB.out)) hb); clear HB; have HB := n0_; clear n0_; (try clear hb); (try clear hb2); (try clear hk); (try clear hi)) | ((with_reducible refine gate_callee (f := 8) rfl ?_); refine goesL_ (some 22) rfl rfl Try.func8 (by kernel_rfl) rfl #[] rfl (by (try simp only [List.map_toArray, List.map_cons, List.map_nil]); first | done | rfl | (simp only [List.length_drop, List.length_take]; rfl)) ?_; (with_reducible refine (antecedentlaw20_awake.calls k  true _ A5.out).mono ?_); rintro e w8 ⟨rfl, hb⟩; refine ⟨_, rfl, ?_⟩; have n0_ := Aside0.mk (below_step (by repeat (first | (with_reducible first | exact HB.out | apply below_alloc | apply pw_below_drewN | apply below_drew1) | exact HB.out)) hb); clear HB; have HB := n0_; clear n0_; (try clear hb); (try clear hb2); (try clear hk); (try clear hi)))
        go_ret
        exact ⟨by first | rfl | (simp [errW_none, errW_some] <;> rfl) | (simp [*, errW_none, errW_some] <;> rfl), by repeat (first | (with_reducible first | exact HB.out | apply below_alloc | apply pw_below_drewN | apply below_drew1) | exact HB.out)⟩
      · replace c6 := Bool.eq_false_iff.mpr c6
        subst c6
        have H1 : (none) = some r := by rw [if_neg (show ¬ (false = true) by decide)] at H; exact H
        clear H
        have H := H1
        clear H1
        exact absurd H (by simp)
    · rw [if_neg c4] at H
      have c4b0 : decide (40 < (l0.length : Int)) = false := decide_eq_false c4
      have c4b1 : decide (40 < l0.length) = false := decide_eq_false (by omega)
      clear c4
      replace H := Option.bind_eq_some_iff.mp H
      obtain ⟨⟨t204, t205, t206, t207⟩, A90, H⟩ := H
      replace H : ((fold_Of.f k 4 l0).bind fun bt209 => ((fold_Of.f k 1 l0).bind fun bt214 => (if t207 = bt209.2.2.2 then (antecedentlaw20_FoldEnds.j0 k l0 t207 (t207 != bt214.2.2.2) t204 t205 t206 bt209.1 bt209.2.1 bt209.2.2.1 bt214.1 bt214.2.1 bt214.2.2.1) else (antecedentlaw20_FoldEnds.j0 k l0 t207 true t204 t205 t206 bt209.1 bt209.2.1 bt209.2.2.1 bt214.1 bt214.2.1 bt214.2.2.1)))) = some r := H
      have A9 := Aside0.mk A90
      clear A90
      replace H := Option.bind_eq_some_iff.mp H
      obtain ⟨⟨t209, t210, t211, t212⟩, A100, H⟩ := H
      replace H : ((fold_Of.f k 1 l0).bind fun bt214 => (if t207 = t212 then (antecedentlaw20_FoldEnds.j0 k l0 t207 (t207 != bt214.2.2.2) t204 t205 t206 t209 t210 t211 bt214.1 bt214.2.1 bt214.2.2.1) else (antecedentlaw20_FoldEnds.j0 k l0 t207 true t204 t205 t206 t209 t210 t211 bt214.1 bt214.2.1 bt214.2.2.1))) = some r := H
      have A10 := Aside0.mk A100
      clear A100
      replace H := Option.bind_eq_some_iff.mp H
      obtain ⟨⟨t214, t215, t216, t217⟩, A110, H⟩ := H
      replace H : (if t207 = t212 then (antecedentlaw20_FoldEnds.j0 k l0 t207 (t207 != t217) t204 t205 t206 t209 t210 t211 t214 t215 t216) else (antecedentlaw20_FoldEnds.j0 k l0 t207 true t204 t205 t206 t209 t210 t211 t214 t215 t216)) = some r := H
      have A11 := Aside0.mk A110
      clear A110
      have HC12 := Aside0.mk H
      clear H
      go_enter Try.func4, Try.ntmps4
      go_upto_region 6 with (first | ((with_reducible refine gate_callee (f := 8) rfl ?_); refine goesL_ (some 15) rfl rfl Try.func8 (by kernel_rfl) rfl #[] rfl (by (try simp only [List.map_toArray, List.map_cons, List.map_nil]); first | done | rfl | (simp only [List.length_drop, List.length_take]; rfl)) ?_; (with_reducible refine (antecedentlaw20_awake.calls k  true _ A2.out).mono ?_); rintro e w13 ⟨rfl, hb⟩; refine ⟨_, rfl, ?_⟩; have n0_ := Aside0.mk (below_step (by repeat (first | (with_reducible first | exact HB.out | apply below_alloc | apply pw_below_drewN | apply below_drew1) | exact HB.out)) hb); clear HB; have HB := n0_; clear n0_; (try clear hb); (try clear hb2); (try clear hk); (try clear hi)) | ((with_reducible refine gate_callee (f := 10) rfl ?_); refine goesL_ (some 25) rfl rfl Try.func10 (by kernel_rfl) rfl #[.int .i64 3, .slice A0 l0.length c0] rfl (by (try simp only [List.map_toArray, List.map_cons, List.map_nil]); first | done | rfl | (simp only [List.length_drop, List.length_take]; rfl)) ?_; (with_reducible refine (fold_Of.calls k 3 _ _ l0 t204 t205 t206 t207 _ ?side1 ?side2 A9.out).mono ?_); (case side1 => repeat (first | exact (Kd.C_below HR0.out HB.out) | (with_reducible refine Kd.C_alloc ?_ _) | (with_reducible refine Kd.C_drewN ?_ _) | (with_reducible refine Kd.C_drew ?_))); (case side2 => exact HC0.out); rintro e w14 ⟨rfl, hb⟩; refine ⟨_, rfl, ?_⟩; have n0_ := Aside0.mk (below_step (by repeat (first | (with_reducible first | exact HB.out | apply below_alloc | apply pw_below_drewN | apply below_drew1) | exact HB.out)) hb); clear HB; have HB := n0_; clear n0_; (try clear hb); (try clear hb2); (try clear hk); (try clear hi)) | ((with_reducible refine gate_dst (N := 3) rfl ?_); (try (refine gate_guard (by rfl) ?_; dsimp only)); refine box_event ?hg (N := 3) ?hd (cs := #[.int .i64 0, .int .i64 0, .string (⟨#[]⟩ : ByteArray)]) (t := 27) ?hr ?_; (case hd => rfl); (case hg => rfl); (case hr => first | (go_simp; done) | (go_simp; rfl)); intro gb208 hg w15 hbox hb; have n0_ := Aside0.mk (below_step (by repeat (first | (with_reducible first | exact HB.out | apply below_alloc | apply pw_below_drewN | apply below_drew1) | exact HB.out)) hb); have n1_ := Aside0.mk (hbox); have n2_ := Aside0.mk ((by rw [hg]; exact (below_size (by repeat (first | (with_reducible first | exact HB.out | apply below_alloc | apply pw_below_drewN | apply below_drew1) | exact HB.out))) : w.heap.size ≤ gb208)); have n3_ := Aside0.mk ((by rw [hg]; exact (below_size (by repeat (first | (with_reducible first | exact HB.out | apply below_alloc | apply pw_below_drewN | apply below_drew1) | exact HB.out))) : w.heap.size ≤ gb208)); clear HB; have HB := n0_; have BK208 := n1_; have GW208 := n2_; have GE208 := n3_; clear n0_ n1_ n2_ n3_; clear hb hbox hg; have hcz16_0 : w15.cell? ⟨gb208, 0, none⟩ = some (.int .i64 0) := (blk_cell BK208.out 0).trans rfl; have hcz16_1 : w15.cell? ⟨gb208, 1, none⟩ = some (.int .i64 0) := (blk_cell BK208.out 1).trans rfl; have hcz16_2 : w15.cell? ⟨gb208, 2, none⟩ = some (.string (⟨#[]⟩ : ByteArray)) := (blk_cell BK208.out 2).trans rfl; have hfz16_0 := blk_frozen BK208.out 0; have hfz16_1 := blk_frozen BK208.out 1; have hfz16_2 := blk_frozen BK208.out 2) | ((with_reducible refine gate_callee (f := 10) rfl ?_); refine goesL_ (some 30) rfl rfl Try.func10 (by kernel_rfl) rfl #[.int .i64 4, .slice A0 l0.length c0] rfl (by (try simp only [List.map_toArray, List.map_cons, List.map_nil]); first | done | rfl | (simp only [List.length_drop, List.length_take]; rfl)) ?_; (with_reducible refine (fold_Of.calls k 4 _ _ l0 t209 t210 t211 t212 _ ?side1 ?side2 A10.out).mono ?_); (case side1 => exact Kd.C_below HR0.out (by repeat (first | (with_reducible first | exact HB.out | apply below_alloc | apply pw_below_drewN | apply below_drew1 | refine below_set ?_ GE208.out) | exact HB.out))); (case side2 => exact HC0.out); rintro e w17 ⟨rfl, hb⟩; refine ⟨_, rfl, ?_⟩; have n0_ := Aside0.mk (blk_below (g := gb208) (o := .cells #[.int .i64 t204, .int .i64 t205, .string t206] 27 (0, 0)) (by (with_reducible repeat (first | refine blk_drewN ?_ _ | refine blk_drew ?_ | refine blk_alloc ?_ _)); refine blk_put (cs := #[.int .i64 t204, .int .i64 t205, .string (⟨#[]⟩ : ByteArray)]) ?_ 2 _ rfl; (with_reducible repeat (first | refine blk_drewN ?_ _ | refine blk_drew ?_ | refine blk_alloc ?_ _)); refine blk_put (cs := #[.int .i64 t204, .int .i64 0, .string (⟨#[]⟩ : ByteArray)]) ?_ 1 _ rfl; (with_reducible repeat (first | refine blk_drewN ?_ _ | refine blk_drew ?_ | refine blk_alloc ?_ _)); refine blk_put (cs := #[.int .i64 0, .int .i64 0, .string (⟨#[]⟩ : ByteArray)]) ?_ 0 _ rfl; (with_reducible repeat (first | refine blk_drewN ?_ _ | refine blk_drew ?_ | refine blk_alloc ?_ _)); exact BK208.out) hb); have n1_ := Aside0.mk (below_step (by repeat (first | (with_reducible first | exact HB.out | apply below_alloc | apply pw_below_drewN | apply below_drew1 | refine below_set ?_ GE208.out) | exact HB.out)) hb); clear BK208; clear HB; have BK208 := n0_; have HB := n1_; clear n0_ n1_; (try clear hb); (try clear hb2); (try clear hk); (try clear hi)) | ((with_reducible refine gate_dst (N := 5) rfl ?_); (try (refine gate_guard (by rfl) ?_; dsimp only)); refine box_event ?hg (N := 5) ?hd (cs := #[.int .i64 0, .int .i64 0, .string (⟨#[]⟩ : ByteArray)]) (t := 27) ?hr ?_; (case hd => rfl); (case hg => rfl); (case hr => first | (go_simp; done) | (go_simp; rfl)); intro gb213 hg w18 hbox hb; have n0_ := Aside0.mk (blk_below (g := gb208) (o := .cells #[.int .i64 t204, .int .i64 t205, .string t206] 27 (0, 0)) (by (with_reducible repeat (first | refine blk_drewN ?_ _ | refine blk_drew ?_ | refine blk_alloc ?_ _)); exact BK208.out) hb); have n1_ := Aside0.mk (below_step (by repeat (first | (with_reducible first | exact HB.out | apply below_alloc | apply pw_below_drewN | apply below_drew1 | refine below_set ?_ GE208.out) | exact HB.out)) hb); have n2_ := Aside0.mk (hbox); have n3_ := Aside0.mk ((by rw [hg]; exact (below_size (by repeat (first | (with_reducible first | exact HB.out | apply below_alloc | apply pw_below_drewN | apply below_drew1 | refine below_set ?_ GE208.out) | exact HB.out))) : w.heap.size ≤ gb213)); have n4_ := Aside0.mk ((by rw [hg]; exact (below_size (by repeat (first | (with_reducible first | exact HB.out | apply below_alloc | apply pw_below_drewN | apply below_drew1 | refine below_set ?_ GE208.out) | exact HB.out))) : w.heap.size ≤ gb213)); have n5_ := Aside0.mk ((by rw [hg]; exact Nat.ne_of_lt (blk_lt (g := gb208) (o := .cells #[.int .i64 t204, .int .i64 t205, .string t206] 27 (0, 0)) (by (with_reducible repeat (first | refine blk_drewN ?_ _ | refine blk_drew ?_ | refine blk_alloc ?_ _)); exact BK208.out)) : gb208 ≠ gb213)); have n6_ := Aside0.mk ((by rw [hg]; exact Nat.ne_of_gt (blk_lt (g := gb208) (o := .cells #[.int .i64 t204, .int .i64 t205, .string t206] 27 (0, 0)) (by (with_reducible repeat (first | refine blk_drewN ?_ _ | refine blk_drew ?_ | refine blk_alloc ?_ _)); exact BK208.out)) : gb213 ≠ gb208)); clear BK208; clear HB; have BK208 := n0_; have HB := n1_; have BK213 := n2_; have GW213 := n3_; have GE213 := n4_; have NB208_213 := n5_; have NB213_208 := n6_; clear n0_ n1_ n2_ n3_ n4_ n5_ n6_; clear hb hbox hg; have hnb19 := NB213_208.out; have hnc19 := NB208_213.out; have hcz20_0 : w18.cell? ⟨gb213, 0, none⟩ = some (.int .i64 0) := (blk_cell BK213.out 0).trans rfl; have hcz20_1 : w18.cell? ⟨gb213, 1, none⟩ = some (.int .i64 0) := (blk_cell BK213.out 1).trans rfl; have hcz20_2 : w18.cell? ⟨gb213, 2, none⟩ = some (.string (⟨#[]⟩ : ByteArray)) := (blk_cell BK213.out 2).trans rfl; have hfz20_0 := blk_frozen BK213.out 0; have hfz20_1 := blk_frozen BK213.out 1; have hfz20_2 := blk_frozen BK213.out 2) | ((with_reducible refine gate_callee (f := 10) rfl ?_); refine goesL_ (some 35) rfl rfl Try.func10 (by kernel_rfl) rfl #[.int .i64 1, .slice A0 l0.length c0] rfl (by (try simp only [List.map_toArray, List.map_cons, List.map_nil]); first | done | rfl | (simp only [List.length_drop, List.length_take]; rfl)) ?_; (with_reducible refine (fold_Of.calls k 1 _ _ l0 t214 t215 t216 t217 _ ?side1 ?side2 A11.out).mono ?_); (case side1 => exact Kd.C_below HR0.out (by repeat (first | (with_reducible first | exact HB.out | apply below_alloc | apply pw_below_drewN | apply below_drew1 | refine below_set ?_ GE208.out | refine below_set ?_ GE213.out) | exact HB.out))); (case side2 => exact HC0.out); rintro e w21 ⟨rfl, hb⟩; refine ⟨_, rfl, ?_⟩; have n0_ := Aside0.mk (blk_below (g := gb208) (o := .cells #[.int .i64 t204, .int .i64 t205, .string t206] 27 (0, 0)) (by (with_reducible repeat (first | refine blk_drewN ?_ _ | refine blk_drew ?_ | refine blk_alloc ?_ _)); refine blk_far ?_ NB208_213.out _; (with_reducible repeat (first | refine blk_drewN ?_ _ | refine blk_drew ?_ | refine blk_alloc ?_ _)); refine blk_far ?_ NB208_213.out _; (with_reducible repeat (first | refine blk_drewN ?_ _ | refine blk_drew ?_ | refine blk_alloc ?_ _)); refine blk_far ?_ NB208_213.out _; (with_reducible repeat (first | refine blk_drewN ?_ _ | refine blk_drew ?_ | refine blk_alloc ?_ _)); exact BK208.out) hb); have n1_ := Aside0.mk (blk_below (g := gb213) (o := .cells #[.int .i64 t209, .int .i64 t210, .string t211] 27 (0, 0)) (by (with_reducible repeat (first | refine blk_drewN ?_ _ | refine blk_drew ?_ | refine blk_alloc ?_ _)); refine blk_put (cs := #[.int .i64 t209, .int .i64 t210, .string (⟨#[]⟩ : ByteArray)]) ?_ 2 _ rfl; (with_reducible repeat (first | refine blk_drewN ?_ _ | refine blk_drew ?_ | refine blk_alloc ?_ _)); refine blk_put (cs := #[.int .i64 t209, .int .i64 0, .string (⟨#[]⟩ : ByteArray)]) ?_ 1 _ rfl; (with_reducible repeat (first | refine blk_drewN ?_ _ | refine blk_drew ?_ | refine blk_alloc ?_ _)); refine blk_put (cs := #[.int .i64 0, .int .i64 0, .string (⟨#[]⟩ : ByteArray)]) ?_ 0 _ rfl; (with_reducible repeat (first | refine blk_drewN ?_ _ | refine blk_drew ?_ | refine blk_alloc ?_ _)); exact BK213.out) hb); have n2_ := Aside0.mk (below_step (by repeat (first | (with_reducible first | exact HB.out | apply below_alloc | apply pw_below_drewN | apply below_drew1 | refine below_set ?_ GE208.out | refine below_set ?_ GE213.out) | exact HB.out)) hb); clear BK208; clear BK213; clear HB; have BK208 := n0_; have BK213 := n1_; have HB := n2_; clear n0_ n1_ n2_; (try clear hb); (try clear hb2); (try clear hk); (try clear hi)) | ((with_reducible refine gate_dst (N := 7) rfl ?_); (try (refine gate_guard (by rfl) ?_; dsimp only)); refine box_event ?hg (N := 7) ?hd (cs := #[.int .i64 0, .int .i64 0, .string (⟨#[]⟩ : ByteArray)]) (t := 27) ?hr ?_; (case hd => rfl); (case hg => rfl); (case hr => first | (go_simp; done) | (go_simp; rfl)); intro gb218 hg w22 hbox hb; have n0_ := Aside0.mk (blk_below (g := gb208) (o := .cells #[.int .i64 t204, .int .i64 t205, .string t206] 27 (0, 0)) (by (with_reducible repeat (first | refine blk_drewN ?_ _ | refine blk_drew ?_ | refine blk_alloc ?_ _)); exact BK208.out) hb); have n1_ := Aside0.mk (blk_below (g := gb213) (o := .cells #[.int .i64 t209, .int .i64 t210, .string t211] 27 (0, 0)) (by (with_reducible repeat (first | refine blk_drewN ?_ _ | refine blk_drew ?_ | refine blk_alloc ?_ _)); exact BK213.out) hb); have n2_ := Aside0.mk (below_step (by repeat (first | (with_reducible first | exact HB.out | apply below_alloc | apply pw_below_drewN | apply below_drew1 | refine below_set ?_ GE208.out | refine below_set ?_ GE213.out) | exact HB.out)) hb); have n3_ := Aside0.mk (hbox); have n4_ := Aside0.mk ((by rw [hg]; exact (below_size (by repeat (first | (with_reducible first | exact HB.out | apply below_alloc | apply pw_below_drewN | apply below_drew1 | refine below_set ?_ GE208.out | refine below_set ?_ GE213.out) | exact HB.out))) : w.heap.size ≤ gb218)); have n5_ := Aside0.mk ((by rw [hg]; exact (below_size (by repeat (first | (with_reducible first | exact HB.out | apply below_alloc | apply pw_below_drewN | apply below_drew1 | refine below_set ?_ GE208.out | refine below_set ?_ GE213.out) | exact HB.out))) : w.heap.size ≤ gb218)); have n6_ := Aside0.mk ((by rw [hg]; exact Nat.ne_of_lt (blk_lt (g := gb208) (o := .cells #[.int .i64 t204, .int .i64 t205, .string t206] 27 (0, 0)) (by (with_reducible repeat (first | refine blk_drewN ?_ _ | refine blk_drew ?_ | refine blk_alloc ?_ _)); exact BK208.out)) : gb208 ≠ gb218)); have n7_ := Aside0.mk ((by rw [hg]; exact Nat.ne_of_gt (blk_lt (g := gb208) (o := .cells #[.int .i64 t204, .int .i64 t205, .string t206] 27 (0, 0)) (by (with_reducible repeat (first | refine blk_drewN ?_ _ | refine blk_drew ?_ | refine blk_alloc ?_ _)); exact BK208.out)) : gb218 ≠ gb208)); have n8_ := Aside0.mk ((by rw [hg]; exact Nat.ne_of_lt (blk_lt (g := gb213) (o := .cells #[.int .i64 t209, .int .i64 t210, .string t211] 27 (0, 0)) (by (with_reducible repeat (first | refine blk_drewN ?_ _ | refine blk_drew ?_ | refine blk_alloc ?_ _)); exact BK213.out)) : gb213 ≠ gb218)); have n9_ := Aside0.mk ((by rw [hg]; exact Nat.ne_of_gt (blk_lt (g := gb213) (o := .cells #[.int .i64 t209, .int .i64 t210, .string t211] 27 (0, 0)) (by (with_reducible repeat (first | refine blk_drewN ?_ _ | refine blk_drew ?_ | refine blk_alloc ?_ _)); exact BK213.out)) : gb218 ≠ gb213)); clear BK208; clear BK213; clear HB; have BK208 := n0_; have BK213 := n1_; have HB := n2_; have BK218 := n3_; have GW218 := n4_; have GE218 := n5_; have NB208_218 := n6_; have NB218_208 := n7_; have NB213_218 := n8_; have NB218_213 := n9_; clear n0_ n1_ n2_ n3_ n4_ n5_ n6_ n7_ n8_ n9_; clear hb hbox hg; have hnb23 := NB218_208.out; have hnc23 := NB208_218.out; have hnb24 := NB218_213.out; have hnc24 := NB213_218.out; have hcz25_0 : w22.cell? ⟨gb218, 0, none⟩ = some (.int .i64 0) := (blk_cell BK218.out 0).trans rfl; have hcz25_1 : w22.cell? ⟨gb218, 1, none⟩ = some (.int .i64 0) := (blk_cell BK218.out 1).trans rfl; have hcz25_2 : w22.cell? ⟨gb218, 2, none⟩ = some (.string (⟨#[]⟩ : ByteArray)) := (blk_cell BK218.out 2).trans rfl; have hfz25_0 := blk_frozen BK218.out 0; have hfz25_1 := blk_frozen BK218.out 1; have hfz25_2 := blk_frozen BK218.out 2))
      (try simp only [Act.put, List.setIfInBounds_toArray, List.set_cons_zero, List.set_cons_succ])
      go_cut [45] (fun v45 wc => ∃ (kq : Nat) (x45_11 : Bool), v45 = .bool x45_11 ∧ Aside0 (antecedentlaw20_FoldEnds.j0 kq l0 t207 x45_11 t204 t205 t206 t209 t210 t211 t214 t215 t216 = some r) ∧ Aside0 (kq ≤ k) ∧ Aside0 (wc.heap[gb208]? = some (.cells #[.int .i64 t204, .int .i64 t205, .string t206] 27 (0, 0))) ∧ Aside0 (wc.heap[gb213]? = some (.cells #[.int .i64 t209, .int .i64 t210, .string t211] 27 (0, 0))) ∧ Aside0 (wc.heap[gb218]? = some (.cells #[.int .i64 t214, .int .i64 t215, .string t216] 27 (0, 0))) ∧ Aside0 (Below w.heap.size w wc))
      case first =>
        have H := HC12.out
        clear HC12
        by_cases c26 : t207 = t212
        · rw [if_pos c26] at H
          have c26b0 : (t207 == t212) = true := beq_iff_eq.mpr c26
          have c26b1 : (t207 != t212) = false := bne_eq_false_iff_eq.mpr c26
          clear c26
          (first | rw [c26b0] | (simp only [i64_w, i32_w]; rw [c26b0]) | skip)
          have H' := Aside0.mk H
          clear H
          go_wp2
          go_meet
          case rel => exact ⟨_, ((t207 != t217)), (by first | rfl | (simp; done) | (simp [*]; done)), H', ⟨by first | omega | exact Nat.le_refl _⟩, ⟨by (with_reducible repeat (first | refine blk_drewN ?_ _ | refine blk_drew ?_ | refine blk_alloc ?_ _)); refine blk_far ?_ NB208_218.out _; (with_reducible repeat (first | refine blk_drewN ?_ _ | refine blk_drew ?_ | refine blk_alloc ?_ _)); refine blk_far ?_ NB208_218.out _; (with_reducible repeat (first | refine blk_drewN ?_ _ | refine blk_drew ?_ | refine blk_alloc ?_ _)); refine blk_far ?_ NB208_218.out _; (with_reducible repeat (first | refine blk_drewN ?_ _ | refine blk_drew ?_ | refine blk_alloc ?_ _)); exact BK208.out⟩, ⟨by (with_reducible repeat (first | refine blk_drewN ?_ _ | refine blk_drew ?_ | refine blk_alloc ?_ _)); refine blk_far ?_ NB213_218.out _; (with_reducible repeat (first | refine blk_drewN ?_ _ | refine blk_drew ?_ | refine blk_alloc ?_ _)); refine blk_far ?_ NB213_218.out _; (with_reducible repeat (first | refine blk_drewN ?_ _ | refine blk_drew ?_ | refine blk_alloc ?_ _)); refine blk_far ?_ NB213_218.out _; (with_reducible repeat (first | refine blk_drewN ?_ _ | refine blk_drew ?_ | refine blk_alloc ?_ _)); exact BK213.out⟩, ⟨by (with_reducible repeat (first | refine blk_drewN ?_ _ | refine blk_drew ?_ | refine blk_alloc ?_ _)); refine blk_put (cs := #[.int .i64 t214, .int .i64 t215, .string (⟨#[]⟩ : ByteArray)]) ?_ 2 _ rfl; (with_reducible repeat (first | refine blk_drewN ?_ _ | refine blk_drew ?_ | refine blk_alloc ?_ _)); refine blk_put (cs := #[.int .i64 t214, .int .i64 0, .string (⟨#[]⟩ : ByteArray)]) ?_ 1 _ rfl; (with_reducible repeat (first | refine blk_drewN ?_ _ | refine blk_drew ?_ | refine blk_alloc ?_ _)); refine blk_put (cs := #[.int .i64 0, .int .i64 0, .string (⟨#[]⟩ : ByteArray)]) ?_ 0 _ rfl; (with_reducible repeat (first | refine blk_drewN ?_ _ | refine blk_drew ?_ | refine blk_alloc ?_ _)); exact BK218.out⟩, ⟨by repeat (first | (with_reducible first | exact HB.out | apply below_alloc | apply pw_below_drewN | apply below_drew1 | refine below_set ?_ GE208.out | refine below_set ?_ GE213.out | refine below_set ?_ GE218.out) | exact HB.out)⟩⟩
        · rw [if_neg c26] at H
          have c26b0 : (t207 == t212) = false := beq_eq_false_iff_ne.mpr c26
          have c26b1 : (t207 != t212) = true := bne_iff_ne.mpr c26
          (first | rw [c26b0] | (simp only [i64_w, i32_w]; rw [c26b0]) | skip)
          have H' := Aside0.mk H
          clear H
          go_wp2
          go_meet
          case rel => exact ⟨_, (true), (by first | rfl | (simp; done) | (simp [*]; done)), H', ⟨by first | omega | exact Nat.le_refl _⟩, ⟨by (with_reducible repeat (first | refine blk_drewN ?_ _ | refine blk_drew ?_ | refine blk_alloc ?_ _)); refine blk_far ?_ NB208_218.out _; (with_reducible repeat (first | refine blk_drewN ?_ _ | refine blk_drew ?_ | refine blk_alloc ?_ _)); refine blk_far ?_ NB208_218.out _; (with_reducible repeat (first | refine blk_drewN ?_ _ | refine blk_drew ?_ | refine blk_alloc ?_ _)); refine blk_far ?_ NB208_218.out _; (with_reducible repeat (first | refine blk_drewN ?_ _ | refine blk_drew ?_ | refine blk_alloc ?_ _)); exact BK208.out⟩, ⟨by (with_reducible repeat (first | refine blk_drewN ?_ _ | refine blk_drew ?_ | refine blk_alloc ?_ _)); refine blk_far ?_ NB213_218.out _; (with_reducible repeat (first | refine blk_drewN ?_ _ | refine blk_drew ?_ | refine blk_alloc ?_ _)); refine blk_far ?_ NB213_218.out _; (with_reducible repeat (first | refine blk_drewN ?_ _ | refine blk_drew ?_ | refine blk_alloc ?_ _)); refine blk_far ?_ NB213_218.out _; (with_reducible repeat (first | refine blk_drewN ?_ _ | refine blk_drew ?_ | refine blk_alloc ?_ _)); exact BK213.out⟩, ⟨by (with_reducible repeat (first | refine blk_drewN ?_ _ | refine blk_drew ?_ | refine blk_alloc ?_ _)); refine blk_put (cs := #[.int .i64 t214, .int .i64 t215, .string (⟨#[]⟩ : ByteArray)]) ?_ 2 _ rfl; (with_reducible repeat (first | refine blk_drewN ?_ _ | refine blk_drew ?_ | refine blk_alloc ?_ _)); refine blk_put (cs := #[.int .i64 t214, .int .i64 0, .string (⟨#[]⟩ : ByteArray)]) ?_ 1 _ rfl; (with_reducible repeat (first | refine blk_drewN ?_ _ | refine blk_drew ?_ | refine blk_alloc ?_ _)); refine blk_put (cs := #[.int .i64 0, .int .i64 0, .string (⟨#[]⟩ : ByteArray)]) ?_ 0 _ rfl; (with_reducible repeat (first | refine blk_drewN ?_ _ | refine blk_drew ?_ | refine blk_alloc ?_ _)); exact BK218.out⟩, ⟨by repeat (first | (with_reducible first | exact HB.out | apply below_alloc | apply pw_below_drewN | apply below_drew1 | refine below_set ?_ GE208.out | refine below_set ?_ GE213.out | refine below_set ?_ GE218.out) | exact HB.out)⟩⟩
      case rest =>
        clear HC12
        try clear c1
        try clear c2
        try clear p2
        try clear c3
        try clear c4
        try clear c4b0
        try clear c4b1
        try clear c6
        try clear c8
        try clear c10
        try clear c19
        try clear c23
        try clear c24
        try clear c26
        try clear c26b0
        try clear c26b1
        try clear hcz16_0
        try clear hcz16_1
        try clear hcz16_2
        try clear hcz20_0
        try clear hcz20_1
        try clear hcz20_2
        try clear hcz25_0
        try clear hcz25_1
        try clear hcz25_2
        try clear hfz16_0
        try clear hfz16_1
        try clear hfz16_2
        try clear hfz20_0
        try clear hfz20_1
        try clear hfz20_2
        try clear hfz25_0
        try clear hfz25_1
        try clear hfz25_2
        obtain ⟨kq, x45_11, rfl, HA, HJ11, BK208, BK213, BK218, HB⟩ := hcut
        cases kq with
        | zero => exact absurd HA.out (by simp [antecedentlaw20_FoldEnds.j0])
        | succ kj11 =>
          have H := HA.out
          clear HA
          simp only [antecedentlaw20_FoldEnds.j0] at H
          by_cases c27 : x45_11 = true
          · subst c27
            have H1 : (none) = some r := by rw [if_pos rfl] at H; exact H
            clear H
            have H := H1
            clear H1
            exact absurd H (by simp)
          · replace c27 := Bool.eq_false_iff.mpr c27
            subst c27
            have H1 : (if t207 = 0 then (antecedentlaw20_FoldEnds.l0 kj11 l0 0 false false (l0.length : Int) 0 t204 t205 t206 t209 t210 t211 t214 t215 t216) else (some ((t207 == 12) == ((l0.length : Int) == 0)))) = some r := by rw [if_neg (show ¬ (false = true) by decide)] at H; exact H
            clear H
            have H := H1
            clear H1
            by_cases c28 : t207 = 0
            · rw [if_pos c28] at H
              have c28b0 : (t207 == 0) = true := beq_iff_eq.mpr c28
              have c28b1 : (t207 != 0) = false := bne_eq_false_iff_eq.mpr c28
              clear c28
              have H' := Aside0.mk H
              clear H
              go_wp2
              go_loopg [9, 10, 11, 56] kj11 (fun kq v9 v10 v11 v56 w' => ∃ (x9_2 : Int) (x10_2 : Bool) (x11_2 : Bool) (x56_2 : Int), v9 = .int .i64 x9_2 ∧ v10 = .bool x10_2 ∧ v11 = .bool x11_2 ∧ v56 = .int .i64 x56_2 ∧ Aside0 (antecedentlaw20_FoldEnds.l0 kq l0 x9_2 x10_2 x11_2 (l0.length : Int) x56_2 t204 t205 t206 t209 t210 t211 t214 t215 t216 = some r) ∧ Aside0 (kq ≤ kj11) ∧ Aside0 (w'.heap[gb208]? = some (.cells #[.int .i64 t204, .int .i64 t205, .string t206] 27 (0, 0))) ∧ Aside0 (w'.heap[gb213]? = some (.cells #[.int .i64 t209, .int .i64 t210, .string t211] 27 (0, 0))) ∧ Aside0 (w'.heap[gb218]? = some (.cells #[.int .i64 t214, .int .i64 t215, .string t216] 27 (0, 0))) ∧ Aside0 (Below w.heap.size w w'))
              case atStart => exact ⟨(0), (false), (false), (0), (by first | rfl | (simp; done) | (simp [*]; done)), (by first | rfl | (simp; done) | (simp [*]; done)), (by first | rfl | (simp; done) | (simp [*]; done)), (by first | rfl | (simp; done) | (simp [*]; done)), H', ⟨Nat.le_refl _⟩, ⟨by (with_reducible repeat (first | refine blk_drewN ?_ _ | refine blk_drew ?_ | refine blk_alloc ?_ _)); exact BK208.out⟩, ⟨by (with_reducible repeat (first | refine blk_drewN ?_ _ | refine blk_drew ?_ | refine blk_alloc ?_ _)); exact BK213.out⟩, ⟨by (with_reducible repeat (first | refine blk_drewN ?_ _ | refine blk_drew ?_ | refine blk_alloc ?_ _)); exact BK218.out⟩, ⟨by repeat (first | (with_reducible first | exact HB.out | apply below_alloc | apply pw_below_drewN | apply below_drew1 | refine below_set ?_ GE208.out | refine below_set ?_ GE213.out | refine below_set ?_ GE218.out) | exact HB.out)⟩⟩
              case round =>
                clear H'
                try clear c1
                try clear c2
                try clear p2
                try clear c3
                try clear c4
                try clear c4b0
                try clear c4b1
                try clear c6
                try clear c8
                try clear c10
                try clear c19
                try clear c23
                try clear c24
                try clear c26
                try clear c26b0
                try clear c26b1
                try clear c27
                try clear c28
                try clear c28b0
                try clear c28b1
                try clear hcz16_0
                try clear hcz16_1
                try clear hcz16_2
                try clear hcz20_0
                try clear hcz20_1
                try clear hcz20_2
                try clear hcz25_0
                try clear hcz25_1
                try clear hcz25_2
                try clear hfz16_0
                try clear hfz16_1
                try clear hfz16_2
                try clear hfz20_0
                try clear hfz20_1
                try clear hfz20_2
                try clear hfz25_0
                try clear hfz25_1
                try clear hfz25_2
                try clear p2
                obtain ⟨x9_2, x10_2, x11_2, x56_2, rfl, rfl, rfl, rfl, HA, HK2, BK208, BK213, BK218, HB⟩ := hrel
                cases gk with
                | zero => exact absurd HA.out (by simp [antecedentlaw20_FoldEnds.l0])
                | succ k2 =>
                  have H := HA.out
                  clear HA
                  simp only [antecedentlaw20_FoldEnds.l0] at H
                  by_cases c29 : x56_2 < (l0.length : Int)
                  · rw [if_pos c29] at H
                    have c29b0 : decide (x56_2 < (l0.length : Int)) = true := decide_eq_true c29
                    clear c29
                    have H' := Aside0.mk H
                    clear H
                    go_wp2
                    go_loopg [13, 60] k2 (fun kq v13 v60 w' => ∃ (x13_3 : Bool) (x60_3 : Int), v13 = .bool x13_3 ∧ v60 = .int .i64 x60_3 ∧ Aside0 (antecedentlaw20_FoldEnds.l1 kq l0 x9_2 x10_2 x11_2 x56_2 x13_3 (l0.length : Int) x56_2 x56_2 x60_3 t204 t205 t206 t209 t210 t211 t214 t215 t216 = some r) ∧ Aside0 (kq ≤ k2) ∧ Aside0 (w'.heap[gb208]? = some (.cells #[.int .i64 t204, .int .i64 t205, .string t206] 27 (0, 0))) ∧ Aside0 (w'.heap[gb213]? = some (.cells #[.int .i64 t209, .int .i64 t210, .string t211] 27 (0, 0))) ∧ Aside0 (w'.heap[gb218]? = some (.cells #[.int .i64 t214, .int .i64 t215, .string t216] 27 (0, 0))) ∧ Aside0 (Below w.heap.size w w'))
                    case atStart => exact ⟨(true), (0), (by first | rfl | (simp; done) | (simp [*]; done)), (by first | rfl | (simp; done) | (simp [*]; done)), H', ⟨Nat.le_refl _⟩, ⟨by (with_reducible repeat (first | refine blk_drewN ?_ _ | refine blk_drew ?_ | refine blk_alloc ?_ _)); exact BK208.out⟩, ⟨by (with_reducible repeat (first | refine blk_drewN ?_ _ | refine blk_drew ?_ | refine blk_alloc ?_ _)); exact BK213.out⟩, ⟨by (with_reducible repeat (first | refine blk_drewN ?_ _ | refine blk_drew ?_ | refine blk_alloc ?_ _)); exact BK218.out⟩, ⟨by repeat (first | (with_reducible first | exact HB.out | apply below_alloc | apply pw_below_drewN | apply below_drew1 | refine below_set ?_ GE208.out | refine below_set ?_ GE213.out | refine below_set ?_ GE218.out) | exact HB.out)⟩⟩
                    case round =>
                      clear H'
                      try clear c1
                      try clear c2
                      try clear p2
                      try clear c3
                      try clear c4
                      try clear c4b0
                      try clear c4b1
                      try clear c6
                      try clear c8
                      try clear c10
                      try clear c19
                      try clear c23
                      try clear c24
                      try clear c26
                      try clear c26b0
                      try clear c26b1
                      try clear c27
                      try clear c28
                      try clear c28b0
                      try clear c28b1
                      try clear c29
                      try clear c29b0
                      try clear hcz16_0
                      try clear hcz16_1
                      try clear hcz16_2
                      try clear hcz20_0
                      try clear hcz20_1
                      try clear hcz20_2
                      try clear hcz25_0
                      try clear hcz25_1
                      try clear hcz25_2
                      try clear hfz16_0
                      try clear hfz16_1
                      try clear hfz16_2
                      try clear hfz20_0
                      try clear hfz20_1
                      try clear hfz20_2
                      try clear hfz25_0
                      try clear hfz25_1
                      try clear hfz25_2
                      try clear p2
                      obtain ⟨x13_3, x60_3, rfl, rfl, HA, HK3, BK208, BK213, BK218, HB⟩ := hrel
                      cases gk with
                      | zero => exact absurd HA.out (by simp [antecedentlaw20_FoldEnds.l1])
                      | succ k3 =>
                        have H := HA.out
                        clear HA
                        simp only [antecedentlaw20_FoldEnds.l1] at H
                        by_cases c30 : x60_3 < x56_2
                        · rw [if_pos c30] at H
                          have c30b0 : decide (x60_3 < x56_2) = true := decide_eq_true c30
                          clear c30
                          by_cases c31 : x13_3 = true
                          · subst c31
                            have H1 : (if 0 ≤ x60_3 then (if x60_3 < (l0.length : Int) then (if 0 ≤ x56_2 then (if x56_2 < (l0.length : Int) then (antecedentlaw20_FoldEnds.l1 k3 l0 x9_2 x10_2 x11_2 x56_2 (!(((rd_T27 l0 x60_3).f0) == ((rd_T27 l0 x56_2).f0)) || (!(((rd_T27 l0 x60_3).f1) == ((rd_T27 l0 x56_2).f1)) || (!((((rd_T27 l0 x60_3).f2).toList) == (((rd_T27 l0 x56_2).f2).toList))))) (l0.length : Int) x56_2 x56_2 (wrap64 (x60_3 + 1)) t204 t205 t206 t209 t210 t211 t214 t215 t216) else (none)) else (none)) else (none)) else (none)) = some r := by rw [if_pos rfl] at H; exact H
                            clear H
                            have H := H1
                            clear H1
                            by_cases c32 : 0 ≤ x60_3
                            · rw [if_pos c32] at H
                              have c32b0 : decide (0 ≤ x60_3) = true := decide_eq_true c32
                              clear c32
                              by_cases c33 : x60_3 < (l0.length : Int)
                              · rw [if_pos c33] at H
                                have c33b0 : decide (x60_3 < (l0.length : Int)) = true := decide_eq_true c33
                                clear c33
                                by_cases c34 : 0 ≤ x56_2
                                · rw [if_pos c34] at H
                                  have c34b0 : decide (0 ≤ x56_2) = true := decide_eq_true c34
                                  clear c34
                                  by_cases c35 : x56_2 < (l0.length : Int)
                                  · rw [if_pos c35] at H
                                    have c35b0 : decide (x56_2 < (l0.length : Int)) = true := decide_eq_true c35
                                    clear c35
                                    have H' := Aside0.mk H
                                    clear H
                                    try go_wp2
                                    have n0_ := Aside0.mk (blk_drew BK208.out)
                                    have n1_ := Aside0.mk (blk_drew BK213.out)
                                    have n2_ := Aside0.mk (blk_drew BK218.out)
                                    have n3_ := Aside0.mk (below_drew1 HB.out)
                                    clear BK208
                                    clear BK213
                                    clear BK218
                                    clear HB
                                    have BK208 := n0_
                                    have BK213 := n1_
                                    have BK218 := n2_
                                    have HB := n3_
                                    clear n0_ n1_ n2_ n3_
                                    have p219 : 0 ≤ (x60_3 : Int) := of_decide_eq_true (by first | (with_reducible assumption) | assumption)
                                    have q219 : x60_3 < (l0.length : Int) := of_decide_eq_true (by first | (with_reducible assumption) | assumption)
                                    obtain ⟨ad219, e219, hx219_0, hx219_1, hx219_2⟩ := at_T27 HR0.out x60_3 p219 q219
                                    have hw219_2 := hx219_2
                                    have hw219_1 := hx219_1
                                    have hw219_0 := hx219_0
                                    cases e219
                                    replace hx219_0 := (HB.out.cell (World.block_lt_of_cell? w _ hx219_0)).trans hx219_0
                                    replace hx219_1 := (HB.out.cell (World.block_lt_of_cell? w _ hx219_1)).trans hx219_1
                                    replace hx219_2 := (HB.out.cell (World.block_lt_of_cell? w _ hx219_2)).trans hx219_2
                                    replace p219 := eq_true p219
                                    replace q219 := eq_true q219
                                    have p220 : 0 ≤ (x56_2 : Int) := of_decide_eq_true (by first | (with_reducible assumption) | assumption)
                                    have q220 : x56_2 < (l0.length : Int) := of_decide_eq_true (by first | (with_reducible assumption) | assumption)
                                    obtain ⟨ad220, e220, hx220_0, hx220_1, hx220_2⟩ := at_T27 HR0.out x56_2 p220 q220
                                    have hw220_2 := hx220_2
                                    have hw220_1 := hx220_1
                                    have hw220_0 := hx220_0
                                    obtain rfl : ad219 = ad220 := (by injection e220)
                                    replace hx220_0 := (HB.out.cell (World.block_lt_of_cell? w _ hx220_0)).trans hx220_0
                                    replace hx220_1 := (HB.out.cell (World.block_lt_of_cell? w _ hx220_1)).trans hx220_1
                                    replace hx220_2 := (HB.out.cell (World.block_lt_of_cell? w _ hx220_2)).trans hx220_2
                                    replace p220 := eq_true p220
                                    replace q220 := eq_true q220
                                    refine start_ (n := 13) (S := fun w' => w'.cell? (ad219.add ((x60_3).toNat * 3)) = some (.int .i64 ((rd_T27 l0 x60_3).f0)) ∧ w'.cell? ⟨(ad219.add ((x60_3).toNat * 3)).block, (ad219.add ((x60_3).toNat * 3)).off + 1, none⟩ = some (.int .i64 ((rd_T27 l0 x60_3).f1)) ∧ w'.cell? ⟨(ad219.add ((x60_3).toNat * 3)).block, (ad219.add ((x60_3).toNat * 3)).off + 2, none⟩ = some (.string ((rd_T27 l0 x60_3).f2)) ∧ w'.cell? (ad219.add ((x56_2).toNat * 3)) = some (.int .i64 ((rd_T27 l0 x56_2).f0)) ∧ w'.cell? ⟨(ad219.add ((x56_2).toNat * 3)).block, (ad219.add ((x56_2).toNat * 3)).off + 1, none⟩ = some (.int .i64 ((rd_T27 l0 x56_2).f1)) ∧ w'.cell? ⟨(ad219.add ((x56_2).toNat * 3)).block, (ad219.add ((x56_2).toNat * 3)).off + 2, none⟩ = some (.string ((rd_T27 l0 x56_2).f2))) (ds := []) #[false, false, false, false, false, false, false, false, false, false, false, false, false] (by kernel_rfl) rfl rfl ⟨((HB.out.cell (World.block_lt_of_cell? w _ hw219_0)).trans hw219_0), ((HB.out.cell (World.block_lt_of_cell? w _ hw219_1)).trans hw219_1), ((HB.out.cell (World.block_lt_of_cell? w _ hw219_2)).trans hw219_2), ((HB.out.cell (World.block_lt_of_cell? w _ hw220_0)).trans hw220_0), ((HB.out.cell (World.block_lt_of_cell? w _ hw220_1)).trans hw220_1), ((HB.out.cell (World.block_lt_of_cell? w _ hw220_2)).trans hw220_2)⟩ (fun hHeld => ?_); refine with_tabW antecedentlaw20_FoldEnds.tab19 antecedentlaw20_FoldEnds.bits19 (fun HT_ HW_ => ?_)
                                    generalize wr.drew = w36 at BK208 BK213 BK218 HB hx219_0 hx219_1 hx219_2 hx220_0 hx220_1 hx220_2 hHeld ⊢
                                    refine pure_ (i := 0) (N := some 63) (v := ?_) (a' := ?_) #[true, false, false, false, false, false, false, false, false, false, false, false, false] rfl rfl (any_of HT_.out (by kernel_rfl)) (fun _ _ _ h => h) (Or.inl ⟨by rfl, ?_⟩) ?_ ?_
                                    rotate_left
                                    · intro w'
                                      go_simp
                                      with_reducible rfl
                                    rotate_left
                                    · simp only [Act.put, List.setIfInBounds_toArray, List.set_cons_zero, List.set_cons_succ, i64_w, i32_w]
                                      rfl
                                    refine pure_ (i := 1) (N := some 64) (v := ?_) (a' := ?_) #[true, true, false, false, false, false, false, false, false, false, false, false, false] rfl rfl (any_of HT_.out (by kernel_rfl)) (fun _ _ _ h => h) (Or.inl ⟨by rfl, ?_⟩) ?_ ?_
                                    rotate_left
                                    · intro w'
                                      go_simp
                                      with_reducible rfl
                                    rotate_left
                                    · simp only [Act.put, List.setIfInBounds_toArray, List.set_cons_zero, List.set_cons_succ, i64_w, i32_w]
                                      rfl
                                    refine pure_ (i := 2) (N := some 65) (v := ?_) (a' := ?_) #[true, true, true, false, false, false, false, false, false, false, false, false, false] rfl rfl (any_of HT_.out (by kernel_rfl)) (fun _ _ _ h => h) (Or.inl ⟨by rfl, ?_⟩) ?_ ?_
                                    rotate_left
                                    · intro w'
                                      go_simp
                                      with_reducible rfl
                                    rotate_left
                                    · simp only [Act.put, List.setIfInBounds_toArray, List.set_cons_zero, List.set_cons_succ, i64_w, i32_w]
                                      rfl
                                    refine pure_ (i := 3) (N := some 66) (v := ?_) (a' := ?_) #[true, true, true, true, false, false, false, false, false, false, false, false, false] rfl rfl (any_of HT_.out (by kernel_rfl)) (fun _ _ _ h => h) (Or.inl ⟨by rfl, ?_⟩) ?_ ?_
                                    rotate_left
                                    · intro w'
                                      go_simp
                                      with_reducible rfl
                                    rotate_left
                                    · simp only [Act.put, List.setIfInBounds_toArray, List.set_cons_zero, List.set_cons_succ, i64_w, i32_w]
                                      rfl
                                    refine pure_ (i := 4) (N := some 67) (v := ?_) (a' := ?_) #[true, true, true, true, true, false, false, false, false, false, false, false, false] rfl rfl (any_of HT_.out (by kernel_rfl)) (fun _ _ _ h => h) (Or.inl ⟨by rfl, ?_⟩) ?_ ?_
                                    rotate_left
                                    · intro w'
                                      go_simp
                                      with_reducible rfl
                                    rotate_left
                                    · simp only [Act.put, List.setIfInBounds_toArray, List.set_cons_zero, List.set_cons_succ, i64_w, i32_w]
                                      rfl
                                    refine pure_ (i := 6) (N := some 69) (v := ?_) (a' := ?_) #[true, true, true, true, true, false, true, false, false, false, false, false, false] rfl rfl (any_of HT_.out (by kernel_rfl)) (fun _ _ _ h => h) (Or.inl ⟨by rfl, ?_⟩) ?_ ?_
                                    rotate_left
                                    · intro w'
                                      go_simp
                                      with_reducible rfl
                                    rotate_left
                                    · simp only [Act.put, List.setIfInBounds_toArray, List.set_cons_zero, List.set_cons_succ, i64_w, i32_w]
                                      rfl
                                    refine pure_ (i := 7) (N := some 70) (v := ?_) (a' := ?_) #[true, true, true, true, true, false, true, true, false, false, false, false, false] rfl rfl (any_of HT_.out (by kernel_rfl)) (fun _ _ _ h => h) (Or.inl ⟨by rfl, ?_⟩) ?_ ?_
                                    rotate_left
                                    · intro w'
                                      go_simp
                                      with_reducible rfl
                                    rotate_left
                                    · simp only [Act.put, List.setIfInBounds_toArray, List.set_cons_zero, List.set_cons_succ, i64_w, i32_w]
                                      rfl
                                    refine pure_ (i := 8) (N := some 71) (v := ?_) (a' := ?_) #[true, true, true, true, true, false, true, true, true, false, false, false, false] rfl rfl (any_of HT_.out (by kernel_rfl)) (fun _ _ _ h => h) (Or.inl ⟨by rfl, ?_⟩) ?_ ?_
                                    rotate_left
                                    · intro w'
                                      go_simp
                                      with_reducible rfl
                                    rotate_left
                                    · simp only [Act.put, List.setIfInBounds_toArray, List.set_cons_zero, List.set_cons_succ, i64_w, i32_w]
                                      rfl
                                    refine take_ (i := 5) (N := some 68) (v := ?_) (a' := ?_) #[true, true, true, true, true, true, true, true, true, false, false, false, false] rfl rfl (take_ofW HT_.out HW_.out (by kernel_rfl)) (fun _ _ _ h => h) (Or.inl ⟨by rfl, ?_⟩) hHeld ?_ ?_
                                    rotate_left
                                    · rintro w' ⟨s0, s1, s2, s3, s4, s5⟩
                                      go_simp
                                      with_reducible rfl
                                    rotate_left
                                    · simp only [Act.put, List.setIfInBounds_toArray, List.set_cons_zero, List.set_cons_succ, i64_w, i32_w]
                                      rfl
                                    refine take_ (i := 9) (N := some 72) (v := ?_) (a' := ?_) #[true, true, true, true, true, true, true, true, true, true, false, false, false] rfl rfl (take_ofW HT_.out HW_.out (by kernel_rfl)) (fun _ _ _ h => h) (Or.inl ⟨by rfl, ?_⟩) hHeld ?_ ?_
                                    rotate_left
                                    · rintro w' ⟨s0, s1, s2, s3, s4, s5⟩
                                      go_simp
                                      with_reducible rfl
                                    rotate_left
                                    · simp only [Act.put, List.setIfInBounds_toArray, List.set_cons_zero, List.set_cons_succ, i64_w, i32_w]
                                      rfl
                                    refine pure_ (i := 10) (N := some 73) (v := ?_) (a' := ?_) #[true, true, true, true, true, true, true, true, true, true, true, false, false] rfl rfl (any_of HT_.out (by kernel_rfl)) (fun _ _ _ h => h) (Or.inl ⟨by rfl, ?_⟩) ?_ ?_
                                    rotate_left
                                    · intro w'
                                      go_simp
                                      with_reducible rfl
                                    rotate_left
                                    · simp only [Act.put, List.setIfInBounds_toArray, List.set_cons_zero, List.set_cons_succ, i64_w, i32_w]
                                      rfl
                                    refine pure_ (i := 11) (N := some 74) (v := ?_) (a' := ?_) #[true, true, true, true, true, true, true, true, true, true, true, true, false] rfl rfl (any_of HT_.out (by kernel_rfl)) (fun _ _ _ h => h) (Or.inl ⟨by rfl, ?_⟩) ?_ ?_
                                    rotate_left
                                    · intro w'
                                      go_simp
                                      with_reducible rfl
                                    rotate_left
                                    · simp only [Act.put, List.setIfInBounds_toArray, List.set_cons_zero, List.set_cons_succ, i64_w, i32_w]
                                      rfl
                                    refine pure_ (i := 12) (N := some 13) (v := ?_) (a' := ?_) #[true, true, true, true, true, true, true, true, true, true, true, true, true] rfl rfl (any_of HT_.out (by kernel_rfl)) (fun _ _ _ h => h) (Or.inl ⟨by rfl, ?_⟩) ?_ ?_
                                    rotate_left
                                    · intro w'
                                      go_simp
                                      with_reducible rfl
                                    rotate_left
                                    · simp only [Act.put, List.setIfInBounds_toArray, List.set_cons_zero, List.set_cons_succ, i64_w, i32_w]
                                      rfl
                                    refine done_ (done_of HT_.out (by kernel_rfl)) ?_
                                    try go_wp2
                                    go_roundg k3
                                    case measure => have := HJ11.out; have := HK2.out; have := HK3.out; omega
                                    case rel => exact ⟨((!(((rd_T27 l0 x60_3).f0) == ((rd_T27 l0 x56_2).f0)) || (!(((rd_T27 l0 x60_3).f1) == ((rd_T27 l0 x56_2).f1)) || (!((((rd_T27 l0 x60_3).f2).toList) == (((rd_T27 l0 x56_2).f2).toList)))))), (wrap64 (x60_3 + 1)), (by first | rfl | (simp; done) | (simp [*]; done)), (by first | rfl | (simp; done) | (simp [*]; done)), H', ⟨by have := HJ11.out; have := HK2.out; have := HK3.out; omega⟩, ⟨by (with_reducible repeat (first | refine blk_drewN ?_ _ | refine blk_drew ?_ | refine blk_alloc ?_ _)); exact BK208.out⟩, ⟨by (with_reducible repeat (first | refine blk_drewN ?_ _ | refine blk_drew ?_ | refine blk_alloc ?_ _)); exact BK213.out⟩, ⟨by (with_reducible repeat (first | refine blk_drewN ?_ _ | refine blk_drew ?_ | refine blk_alloc ?_ _)); exact BK218.out⟩, ⟨by repeat (first | (with_reducible first | exact HB.out | apply below_alloc | apply pw_below_drewN | apply below_drew1 | refine below_set ?_ GE208.out | refine below_set ?_ GE213.out | refine below_set ?_ GE218.out) | exact HB.out)⟩⟩
                                  · rw [if_neg c35] at H
                                    exact absurd H (by simp)
                                · rw [if_neg c34] at H
                                  exact absurd H (by simp)
                              · rw [if_neg c33] at H
                                exact absurd H (by simp)
                            · rw [if_neg c32] at H
                              exact absurd H (by simp)
                          · replace c31 := Bool.eq_false_iff.mpr c31
                            subst c31
                            have H1 : (antecedentlaw20_FoldEnds.l1 k3 l0 x9_2 x10_2 x11_2 x56_2 false (l0.length : Int) x56_2 x56_2 (wrap64 (x60_3 + 1)) t204 t205 t206 t209 t210 t211 t214 t215 t216) = some r := by rw [if_neg (show ¬ (false = true) by decide)] at H; exact H
                            clear H
                            have H := H1
                            clear H1
                            have H' := Aside0.mk H
                            clear H
                            try go_wp2
                            have n0_ := Aside0.mk (blk_drew BK208.out)
                            have n1_ := Aside0.mk (blk_drew BK213.out)
                            have n2_ := Aside0.mk (blk_drew BK218.out)
                            have n3_ := Aside0.mk (below_drew1 HB.out)
                            clear BK208
                            clear BK213
                            clear BK218
                            clear HB
                            have BK208 := n0_
                            have BK213 := n1_
                            have BK218 := n2_
                            have HB := n3_
                            clear n0_ n1_ n2_ n3_
                            refine start_ (n := 13) (S := fun w' => True) (ds := []) #[false, false, false, false, false, false, false, false, false, false, false, false, false] (by kernel_rfl) rfl rfl trivial (fun hHeld => ?_); refine with_tabW antecedentlaw20_FoldEnds.tab19 antecedentlaw20_FoldEnds.bits19 (fun HT_ HW_ => ?_)
                            generalize wr.drew = w37 at BK208 BK213 BK218 HB hHeld ⊢
                            refine pure_ (i := 0) (N := some 63) (v := ?_) (a' := ?_) #[true, false, false, false, false, false, false, false, false, false, false, false, false] rfl rfl (any_of HT_.out (by kernel_rfl)) (fun _ _ _ h => h) (Or.inl ⟨by rfl, ?_⟩) ?_ ?_
                            rotate_left
                            · intro w'
                              go_simp
                              with_reducible rfl
                            rotate_left
                            · simp only [Act.put, List.setIfInBounds_toArray, List.set_cons_zero, List.set_cons_succ, i64_w, i32_w]
                              rfl
                            refine pure_ (i := 1) (N := some 64) (v := ?_) (a' := ?_) #[true, true, false, false, false, false, false, false, false, false, false, false, false] rfl rfl (any_of HT_.out (by kernel_rfl)) (fun _ _ _ h => h) (Or.inl ⟨by rfl, ?_⟩) ?_ ?_
                            rotate_left
                            · intro w'
                              go_simp
                              with_reducible rfl
                            rotate_left
                            · simp only [Act.put, List.setIfInBounds_toArray, List.set_cons_zero, List.set_cons_succ, i64_w, i32_w]
                              rfl
                            refine pure_ (i := 2) (N := some 65) (v := undef) (a' := ?_) #[true, true, true, false, false, false, false, false, false, false, false, false, false] rfl rfl (any_of HT_.out (by kernel_rfl)) (fun _ _ _ h => h) (Or.inr ⟨by rfl, rfl⟩) ?_ ?_
                            rotate_left
                            · simp only [Act.put, List.setIfInBounds_toArray, List.set_cons_zero, List.set_cons_succ, i64_w, i32_w]
                              rfl
                            refine pure_ (i := 3) (N := some 66) (v := undef) (a' := ?_) #[true, true, true, true, false, false, false, false, false, false, false, false, false] rfl rfl (any_of HT_.out (by kernel_rfl)) (fun _ _ _ h => h) (Or.inr ⟨by rfl, rfl⟩) ?_ ?_
                            rotate_left
                            · simp only [Act.put, List.setIfInBounds_toArray, List.set_cons_zero, List.set_cons_succ, i64_w, i32_w]
                              rfl
                            refine pure_ (i := 4) (N := some 67) (v := undef) (a' := ?_) #[true, true, true, true, true, false, false, false, false, false, false, false, false] rfl rfl (any_of HT_.out (by kernel_rfl)) (fun _ _ _ h => h) (Or.inr ⟨by rfl, rfl⟩) ?_ ?_
                            rotate_left
                            · simp only [Act.put, List.setIfInBounds_toArray, List.set_cons_zero, List.set_cons_succ, i64_w, i32_w]
                              rfl
                            refine pure_ (i := 5) (N := some 68) (v := undef) (a' := ?_) #[true, true, true, true, true, true, false, false, false, false, false, false, false] rfl rfl (any_of HT_.out (by kernel_rfl)) (fun _ _ _ h => h) (Or.inr ⟨by rfl, rfl⟩) ?_ ?_
                            rotate_left
                            · simp only [Act.put, List.setIfInBounds_toArray, List.set_cons_zero, List.set_cons_succ, i64_w, i32_w]
                              rfl
                            refine pure_ (i := 6) (N := some 69) (v := undef) (a' := ?_) #[true, true, true, true, true, true, true, false, false, false, false, false, false] rfl rfl (any_of HT_.out (by kernel_rfl)) (fun _ _ _ h => h) (Or.inr ⟨by rfl, rfl⟩) ?_ ?_
                            rotate_left
                            · simp only [Act.put, List.setIfInBounds_toArray, List.set_cons_zero, List.set_cons_succ, i64_w, i32_w]
                              rfl
                            refine pure_ (i := 7) (N := some 70) (v := undef) (a' := ?_) #[true, true, true, true, true, true, true, true, false, false, false, false, false] rfl rfl (any_of HT_.out (by kernel_rfl)) (fun _ _ _ h => h) (Or.inr ⟨by rfl, rfl⟩) ?_ ?_
                            rotate_left
                            · simp only [Act.put, List.setIfInBounds_toArray, List.set_cons_zero, List.set_cons_succ, i64_w, i32_w]
                              rfl
                            refine pure_ (i := 8) (N := some 71) (v := undef) (a' := ?_) #[true, true, true, true, true, true, true, true, true, false, false, false, false] rfl rfl (any_of HT_.out (by kernel_rfl)) (fun _ _ _ h => h) (Or.inr ⟨by rfl, rfl⟩) ?_ ?_
                            rotate_left
                            · simp only [Act.put, List.setIfInBounds_toArray, List.set_cons_zero, List.set_cons_succ, i64_w, i32_w]
                              rfl
                            refine pure_ (i := 9) (N := some 72) (v := undef) (a' := ?_) #[true, true, true, true, true, true, true, true, true, true, false, false, false] rfl rfl (any_of HT_.out (by kernel_rfl)) (fun _ _ _ h => h) (Or.inr ⟨by rfl, rfl⟩) ?_ ?_
                            rotate_left
                            · simp only [Act.put, List.setIfInBounds_toArray, List.set_cons_zero, List.set_cons_succ, i64_w, i32_w]
                              rfl
                            refine pure_ (i := 10) (N := some 73) (v := undef) (a' := ?_) #[true, true, true, true, true, true, true, true, true, true, true, false, false] rfl rfl (any_of HT_.out (by kernel_rfl)) (fun _ _ _ h => h) (Or.inr ⟨by rfl, rfl⟩) ?_ ?_
                            rotate_left
                            · simp only [Act.put, List.setIfInBounds_toArray, List.set_cons_zero, List.set_cons_succ, i64_w, i32_w]
                              rfl
                            refine pure_ (i := 11) (N := some 74) (v := ?_) (a' := ?_) #[true, true, true, true, true, true, true, true, true, true, true, true, false] rfl rfl (any_of HT_.out (by kernel_rfl)) (fun _ _ _ h => h) (Or.inl ⟨by rfl, ?_⟩) ?_ ?_
                            rotate_left
                            · intro w'
                              go_simp
                              with_reducible rfl
                            rotate_left
                            · simp only [Act.put, List.setIfInBounds_toArray, List.set_cons_zero, List.set_cons_succ, i64_w, i32_w]
                              rfl
                            refine pure_ (i := 12) (N := some 13) (v := ?_) (a' := ?_) #[true, true, true, true, true, true, true, true, true, true, true, true, true] rfl rfl (any_of HT_.out (by kernel_rfl)) (fun _ _ _ h => h) (Or.inl ⟨by rfl, ?_⟩) ?_ ?_
                            rotate_left
                            · intro w'
                              go_simp
                              with_reducible rfl
                            rotate_left
                            · simp only [Act.put, List.setIfInBounds_toArray, List.set_cons_zero, List.set_cons_succ, i64_w, i32_w]
                              rfl
                            refine done_ (done_of HT_.out (by kernel_rfl)) ?_
                            try go_wp2
                            go_roundg k3
                            case measure => have := HJ11.out; have := HK2.out; have := HK3.out; omega
                            case rel => exact ⟨(false), (wrap64 (x60_3 + 1)), (by first | rfl | (simp; done) | (simp [*]; done)), (by first | rfl | (simp; done) | (simp [*]; done)), H', ⟨by have := HJ11.out; have := HK2.out; have := HK3.out; omega⟩, ⟨by (with_reducible repeat (first | refine blk_drewN ?_ _ | refine blk_drew ?_ | refine blk_alloc ?_ _)); exact BK208.out⟩, ⟨by (with_reducible repeat (first | refine blk_drewN ?_ _ | refine blk_drew ?_ | refine blk_alloc ?_ _)); exact BK213.out⟩, ⟨by (with_reducible repeat (first | refine blk_drewN ?_ _ | refine blk_drew ?_ | refine blk_alloc ?_ _)); exact BK218.out⟩, ⟨by repeat (first | (with_reducible first | exact HB.out | apply below_alloc | apply pw_below_drewN | apply below_drew1 | refine below_set ?_ GE208.out | refine below_set ?_ GE213.out | refine below_set ?_ GE218.out) | exact HB.out)⟩⟩
                        · rw [if_neg c30] at H
                          have c30b0 : decide (x60_3 < x56_2) = false := decide_eq_false c30
                          clear c30
                          have HC38 := Aside0.mk H
                          clear H
                          go_upto_if 76 with (fail)
                          go_cut [9] (fun v9 wc => ∃ (kq : Nat) (x9_37 : Int), v9 = .int .i64 x9_37 ∧ Aside0 (antecedentlaw20_FoldEnds.j3 kq l0 x9_37 x10_2 x11_2 x56_2 (l0.length : Int) x56_2 t204 t205 t206 t209 t210 t211 t214 t215 t216 = some r) ∧ Aside0 (kq ≤ k3) ∧ Aside0 (wc.heap[gb208]? = some (.cells #[.int .i64 t204, .int .i64 t205, .string t206] 27 (0, 0))) ∧ Aside0 (wc.heap[gb213]? = some (.cells #[.int .i64 t209, .int .i64 t210, .string t211] 27 (0, 0))) ∧ Aside0 (wc.heap[gb218]? = some (.cells #[.int .i64 t214, .int .i64 t215, .string t216] 27 (0, 0))) ∧ Aside0 (Below w.heap.size w wc))
                          case first =>
                            have H := HC38.out
                            clear HC38
                            by_cases c39 : x13_3 = true
                            · subst c39
                              have H1 : (antecedentlaw20_FoldEnds.j3 k3 l0 (wrap64 (x9_2 + 1)) x10_2 x11_2 x56_2 (l0.length : Int) x56_2 t204 t205 t206 t209 t210 t211 t214 t215 t216) = some r := by rw [if_pos rfl] at H; exact H
                              clear H
                              have H := H1
                              clear H1
                              have H' := Aside0.mk H
                              clear H
                              go_wp2
                              go_meet
                              case rel => exact ⟨_, (wrap64 (x9_2 + 1)), (by first | rfl | (simp; done) | (simp [*]; done)), H', ⟨by have := HJ11.out; have := HK2.out; have := HK3.out; first | omega | exact Nat.le_refl _⟩, ⟨by (with_reducible repeat (first | refine blk_drewN ?_ _ | refine blk_drew ?_ | refine blk_alloc ?_ _)); exact BK208.out⟩, ⟨by (with_reducible repeat (first | refine blk_drewN ?_ _ | refine blk_drew ?_ | refine blk_alloc ?_ _)); exact BK213.out⟩, ⟨by (with_reducible repeat (first | refine blk_drewN ?_ _ | refine blk_drew ?_ | refine blk_alloc ?_ _)); exact BK218.out⟩, ⟨by repeat (first | (with_reducible first | exact HB.out | apply below_alloc | apply pw_below_drewN | apply below_drew1 | refine below_set ?_ GE208.out | refine below_set ?_ GE213.out | refine below_set ?_ GE218.out) | exact HB.out)⟩⟩
                            · replace c39 := Bool.eq_false_iff.mpr c39
                              subst c39
                              have H1 : (antecedentlaw20_FoldEnds.j3 k3 l0 x9_2 x10_2 x11_2 x56_2 (l0.length : Int) x56_2 t204 t205 t206 t209 t210 t211 t214 t215 t216) = some r := by rw [if_neg (show ¬ (false = true) by decide)] at H; exact H
                              clear H
                              have H := H1
                              clear H1
                              have H' := Aside0.mk H
                              clear H
                              go_wp2
                              go_meet
                              case rel => exact ⟨_, (x9_2), (by first | rfl | (simp; done) | (simp [*]; done)), H', ⟨by have := HJ11.out; have := HK2.out; have := HK3.out; first | omega | exact Nat.le_refl _⟩, ⟨by (with_reducible repeat (first | refine blk_drewN ?_ _ | refine blk_drew ?_ | refine blk_alloc ?_ _)); exact BK208.out⟩, ⟨by (with_reducible repeat (first | refine blk_drewN ?_ _ | refine blk_drew ?_ | refine blk_alloc ?_ _)); exact BK213.out⟩, ⟨by (with_reducible repeat (first | refine blk_drewN ?_ _ | refine blk_drew ?_ | refine blk_alloc ?_ _)); exact BK218.out⟩, ⟨by repeat (first | (with_reducible first | exact HB.out | apply below_alloc | apply pw_below_drewN | apply below_drew1 | refine below_set ?_ GE208.out | refine below_set ?_ GE213.out | refine below_set ?_ GE218.out) | exact HB.out)⟩⟩
                          case rest =>
                            clear HC38
                            try clear c1
                            try clear c2
                            try clear p2
                            try clear q2
                            try clear hx2
                            try clear c3
                            try clear c4
                            try clear c4b0
                            try clear c4b1
                            try clear c6
                            try clear p6
                            try clear c8
                            try clear c10
                            try clear c19
                            try clear p21
                            try clear q21
                            try clear hx21
                            try clear p22
                            try clear q22
                            try clear hx22
                            try clear c23
                            try clear c24
                            try clear c26
                            try clear c26b0
                            try clear c26b1
                            try clear c27
                            try clear c28
                            try clear c28b0
                            try clear c28b1
                            try clear c29
                            try clear c29b0
                            try clear c30
                            try clear c30b0
                            try clear c31
                            try clear c32
                            try clear c32b0
                            try clear c33
                            try clear c33b0
                            try clear c34
                            try clear c34b0
                            try clear c35
                            try clear c35b0
                            try clear c39
                            try clear hcz16_0
                            try clear hcz16_1
                            try clear hcz16_2
                            try clear hcz20_0
                            try clear hcz20_1
                            try clear hcz20_2
                            try clear hcz25_0
                            try clear hcz25_1
                            try clear hcz25_2
                            try clear hfz16_0
                            try clear hfz16_1
                            try clear hfz16_2
                            try clear hfz20_0
                            try clear hfz20_1
                            try clear hfz20_2
                            try clear hfz25_0
                            try clear hfz25_1
                            try clear hfz25_2
                            try clear hx219_0
                            try clear hx219_1
                            try clear hx219_2
                            try clear hx220_0
                            try clear hx220_1
                            try clear hx220_2
                            try clear p2
                            try clear p219
                            try clear p220
                            try clear q219
                            try clear q220
                            obtain ⟨kq, x9_37, rfl, HA, HJ37, BK208, BK213, BK218, HB⟩ := hcut
                            cases kq with
                            | zero => exact absurd HA.out (by simp [antecedentlaw20_FoldEnds.j3])
                            | succ kj37 =>
                              have H := HA.out
                              clear HA
                              simp only [antecedentlaw20_FoldEnds.j3] at H
                              by_cases c40 : 0 ≤ x56_2
                              · rw [if_pos c40] at H
                                have c40b0 : decide (0 ≤ x56_2) = true := decide_eq_true c40
                                clear c40
                                by_cases c41 : x56_2 < (l0.length : Int)
                                · rw [if_pos c41] at H
                                  have c41b0 : decide (x56_2 < (l0.length : Int)) = true := decide_eq_true c41
                                  clear c41
                                  replace H := Option.bind_eq_some_iff.mp H
                                  obtain ⟨t222, A420, H⟩ := H
                                  replace H : (if t222 > 0 then (none) else ((antecedentref02_Compare.f ((rd_T27 l0 x56_2).f0) ((rd_T27 l0 x56_2).f1) ((rd_T27 l0 x56_2).f2) t209 t210 t211).bind fun t224 => (if t224 > 0 then (none) else (if x10_2 = true then (if x11_2 = true then (antecedentlaw20_FoldEnds.l0 kj37 l0 x9_37 true true (l0.length : Int) (wrap64 (x56_2 + 1)) t204 t205 t206 t209 t210 t211 t214 t215 t216) else (antecedentlaw20_FoldEnds.l0 kj37 l0 x9_37 true (((rd_T27 l0 x56_2).f0) == t209 && (((rd_T27 l0 x56_2).f1) == t210 && ((((rd_T27 l0 x56_2).f2).toList) == t211.toList))) (l0.length : Int) (wrap64 (x56_2 + 1)) t204 t205 t206 t209 t210 t211 t214 t215 t216)) else (if x11_2 = true then (antecedentlaw20_FoldEnds.l0 kj37 l0 x9_37 (((rd_T27 l0 x56_2).f0) == t204 && (((rd_T27 l0 x56_2).f1) == t205 && ((((rd_T27 l0 x56_2).f2).toList) == t206.toList))) true (l0.length : Int) (wrap64 (x56_2 + 1)) t204 t205 t206 t209 t210 t211 t214 t215 t216) else (antecedentlaw20_FoldEnds.l0 kj37 l0 x9_37 (((rd_T27 l0 x56_2).f0) == t204 && (((rd_T27 l0 x56_2).f1) == t205 && ((((rd_T27 l0 x56_2).f2).toList) == t206.toList))) (((rd_T27 l0 x56_2).f0) == t209 && (((rd_T27 l0 x56_2).f1) == t210 && ((((rd_T27 l0 x56_2).f2).toList) == t211.toList))) (l0.length : Int) (wrap64 (x56_2 + 1)) t204 t205 t206 t209 t210 t211 t214 t215 t216)))))) = some r := H
                                  have A42 := Aside0.mk A420
                                  clear A420
                                  by_cases c43 : t222 > 0
                                  · rw [if_pos c43] at H
                                    have c43b0 : decide (0 < t222) = true := decide_eq_true c43
                                    clear c43
                                    exact absurd H (by simp)
                                  · rw [if_neg c43] at H
                                    have c43b0 : decide (0 < t222) = false := decide_eq_false c43
                                    clear c43
                                    replace H := Option.bind_eq_some_iff.mp H
                                    obtain ⟨t224, A440, H⟩ := H
                                    replace H : (if t224 > 0 then (none) else (if x10_2 = true then (if x11_2 = true then (antecedentlaw20_FoldEnds.l0 kj37 l0 x9_37 true true (l0.length : Int) (wrap64 (x56_2 + 1)) t204 t205 t206 t209 t210 t211 t214 t215 t216) else (antecedentlaw20_FoldEnds.l0 kj37 l0 x9_37 true (((rd_T27 l0 x56_2).f0) == t209 && (((rd_T27 l0 x56_2).f1) == t210 && ((((rd_T27 l0 x56_2).f2).toList) == t211.toList))) (l0.length : Int) (wrap64 (x56_2 + 1)) t204 t205 t206 t209 t210 t211 t214 t215 t216)) else (if x11_2 = true then (antecedentlaw20_FoldEnds.l0 kj37 l0 x9_37 (((rd_T27 l0 x56_2).f0) == t204 && (((rd_T27 l0 x56_2).f1) == t205 && ((((rd_T27 l0 x56_2).f2).toList) == t206.toList))) true (l0.length : Int) (wrap64 (x56_2 + 1)) t204 t205 t206 t209 t210 t211 t214 t215 t216) else (antecedentlaw20_FoldEnds.l0 kj37 l0 x9_37 (((rd_T27 l0 x56_2).f0) == t204 && (((rd_T27 l0 x56_2).f1) == t205 && ((((rd_T27 l0 x56_2).f2).toList) == t206.toList))) (((rd_T27 l0 x56_2).f0) == t209 && (((rd_T27 l0 x56_2).f1) == t210 && ((((rd_T27 l0 x56_2).f2).toList) == t211.toList))) (l0.length : Int) (wrap64 (x56_2 + 1)) t204 t205 t206 t209 t210 t211 t214 t215 t216)))) = some r := H
                                    have A44 := Aside0.mk A440
                                    clear A440
                                    by_cases c45 : t224 > 0
                                    · rw [if_pos c45] at H
                                      exact absurd H (by simp)
                                    · rw [if_neg c45] at H
                                      have c45b0 : decide (0 < t224) = false := decide_eq_false c45
                                      clear c45
                                      by_cases c46 : x10_2 = true
                                      · subst c46
                                        have H1 : (if x11_2 = true then (antecedentlaw20_FoldEnds.l0 kj37 l0 x9_37 true true (l0.length : Int) (wrap64 (x56_2 + 1)) t204 t205 t206 t209 t210 t211 t214 t215 t216) else (antecedentlaw20_FoldEnds.l0 kj37 l0 x9_37 true (((rd_T27 l0 x56_2).f0) == t209 && (((rd_T27 l0 x56_2).f1) == t210 && ((((rd_T27 l0 x56_2).f2).toList) == t211.toList))) (l0.length : Int) (wrap64 (x56_2 + 1)) t204 t205 t206 t209 t210 t211 t214 t215 t216)) = some r := by rw [if_pos rfl] at H; exact H
                                        clear H
                                        have H := H1
                                        clear H1
                                        by_cases c47 : x11_2 = true
                                        · subst c47
                                          have H1 : (antecedentlaw20_FoldEnds.l0 kj37 l0 x9_37 true true (l0.length : Int) (wrap64 (x56_2 + 1)) t204 t205 t206 t209 t210 t211 t214 t215 t216) = some r := by rw [if_pos rfl] at H; exact H
                                          clear H
                                          have H := H1
                                          clear H1
                                          have H' := Aside0.mk H
                                          clear H
                                          try go_wp2
                                          have n0_ := Aside0.mk (blk_drew BK208.out)
                                          have n1_ := Aside0.mk (blk_drew BK213.out)
                                          have n2_ := Aside0.mk (blk_drew BK218.out)
                                          have n3_ := Aside0.mk (below_drew1 HB.out)
                                          clear BK208
                                          clear BK213
                                          clear BK218
                                          clear HB
                                          have BK208 := n0_
                                          have BK213 := n1_
                                          have BK218 := n2_
                                          have HB := n3_
                                          clear n0_ n1_ n2_ n3_
                                          have p221 : 0 ≤ (x56_2 : Int) := of_decide_eq_true (by first | (with_reducible assumption) | assumption)
                                          have q221 : x56_2 < (l0.length : Int) := of_decide_eq_true (by first | (with_reducible assumption) | assumption)
                                          obtain ⟨ad221, e221, hx221_0, hx221_1, hx221_2⟩ := at_T27 HR0.out x56_2 p221 q221
                                          have hw221_2 := hx221_2
                                          have hw221_1 := hx221_1
                                          have hw221_0 := hx221_0
                                          cases e221
                                          replace hx221_0 := (HB.out.cell (World.block_lt_of_cell? w _ hx221_0)).trans hx221_0
                                          replace hx221_1 := (HB.out.cell (World.block_lt_of_cell? w _ hx221_1)).trans hx221_1
                                          replace hx221_2 := (HB.out.cell (World.block_lt_of_cell? w _ hx221_2)).trans hx221_2
                                          replace p221 := eq_true p221
                                          replace q221 := eq_true q221
                                          have p223 : 0 ≤ (x56_2 : Int) := of_decide_eq_true (by first | (with_reducible assumption) | assumption)
                                          have q223 : x56_2 < (l0.length : Int) := of_decide_eq_true (by first | (with_reducible assumption) | assumption)
                                          obtain ⟨ad223, e223, hx223_0, hx223_1, hx223_2⟩ := at_T27 HR0.out x56_2 p223 q223
                                          have hw223_2 := hx223_2
                                          have hw223_1 := hx223_1
                                          have hw223_0 := hx223_0
                                          obtain rfl : ad221 = ad223 := (by injection e223)
                                          replace hx223_0 := (HB.out.cell (World.block_lt_of_cell? w _ hx223_0)).trans hx223_0
                                          replace hx223_1 := (HB.out.cell (World.block_lt_of_cell? w _ hx223_1)).trans hx223_1
                                          replace hx223_2 := (HB.out.cell (World.block_lt_of_cell? w _ hx223_2)).trans hx223_2
                                          replace p223 := eq_true p223
                                          replace q223 := eq_true q223
                                          refine start_ (n := 16) (S := fun w' => w'.cell? ⟨gb208, 0, none⟩ = some (.int .i64 t204) ∧ w'.cell? ⟨gb208, 1, none⟩ = some (.int .i64 t205) ∧ w'.cell? ⟨gb208, 2, none⟩ = some (.string t206) ∧ w'.cell? ⟨gb213, 0, none⟩ = some (.int .i64 t209) ∧ w'.cell? ⟨gb213, 1, none⟩ = some (.int .i64 t210) ∧ w'.cell? ⟨gb213, 2, none⟩ = some (.string t211) ∧ w'.cell? (ad221.add ((x56_2).toNat * 3)) = some (.int .i64 ((rd_T27 l0 x56_2).f0)) ∧ w'.cell? ⟨(ad221.add ((x56_2).toNat * 3)).block, (ad221.add ((x56_2).toNat * 3)).off + 1, none⟩ = some (.int .i64 ((rd_T27 l0 x56_2).f1)) ∧ w'.cell? ⟨(ad221.add ((x56_2).toNat * 3)).block, (ad221.add ((x56_2).toNat * 3)).off + 2, none⟩ = some (.string ((rd_T27 l0 x56_2).f2)) ∧ w'.cell? (ad221.add ((x56_2).toNat * 3)) = some (.int .i64 ((rd_T27 l0 x56_2).f0)) ∧ w'.cell? ⟨(ad221.add ((x56_2).toNat * 3)).block, (ad221.add ((x56_2).toNat * 3)).off + 1, none⟩ = some (.int .i64 ((rd_T27 l0 x56_2).f1)) ∧ w'.cell? ⟨(ad221.add ((x56_2).toNat * 3)).block, (ad221.add ((x56_2).toNat * 3)).off + 2, none⟩ = some (.string ((rd_T27 l0 x56_2).f2))) (ds := []) #[false, false, false, false, false, false, false, false, false, false, false, false, false, false, false, false] (by kernel_rfl) rfl rfl ⟨(blk_cell BK208.out 0).trans rfl, (blk_cell BK208.out 1).trans rfl, (blk_cell BK208.out 2).trans rfl, (blk_cell BK213.out 0).trans rfl, (blk_cell BK213.out 1).trans rfl, (blk_cell BK213.out 2).trans rfl, ((HB.out.cell (World.block_lt_of_cell? w _ hw221_0)).trans hw221_0), ((HB.out.cell (World.block_lt_of_cell? w _ hw221_1)).trans hw221_1), ((HB.out.cell (World.block_lt_of_cell? w _ hw221_2)).trans hw221_2), ((HB.out.cell (World.block_lt_of_cell? w _ hw223_0)).trans hw223_0), ((HB.out.cell (World.block_lt_of_cell? w _ hw223_1)).trans hw223_1), ((HB.out.cell (World.block_lt_of_cell? w _ hw223_2)).trans hw223_2)⟩ (fun hHeld => ?_); refine with_tabW antecedentlaw20_FoldEnds.tab23 antecedentlaw20_FoldEnds.bits23 (fun HT_ HW_ => ?_)
                                          generalize wc.drew = w48 at BK208 BK213 BK218 HB hx221_0 hx221_1 hx221_2 hx223_0 hx223_1 hx223_2 hHeld ⊢
                                          refine pure_ (i := 1) (N := some 80) (v := ?_) (a' := ?_) #[false, true, false, false, false, false, false, false, false, false, false, false, false, false, false, false] rfl rfl (any_of HT_.out (by kernel_rfl)) (fun _ _ _ h => h) (Or.inl ⟨by rfl, ?_⟩) ?_ ?_
                                          rotate_left
                                          · intro w'
                                            go_simp
                                            with_reducible rfl
                                          rotate_left
                                          · simp only [Act.put, List.setIfInBounds_toArray, List.set_cons_zero, List.set_cons_succ, i64_w, i32_w]
                                            rfl
                                          refine pure_ (i := 2) (N := some 81) (v := ?_) (a' := ?_) #[false, true, true, false, false, false, false, false, false, false, false, false, false, false, false, false] rfl rfl (any_of HT_.out (by kernel_rfl)) (fun _ _ _ h => h) (Or.inl ⟨by rfl, ?_⟩) ?_ ?_
                                          rotate_left
                                          · intro w'
                                            go_simp
                                            with_reducible rfl
                                          rotate_left
                                          · simp only [Act.put, List.setIfInBounds_toArray, List.set_cons_zero, List.set_cons_succ, i64_w, i32_w]
                                            rfl
                                          refine pure_ (i := 3) (N := some 82) (v := ?_) (a' := ?_) #[false, true, true, true, false, false, false, false, false, false, false, false, false, false, false, false] rfl rfl (any_of HT_.out (by kernel_rfl)) (fun _ _ _ h => h) (Or.inl ⟨by rfl, ?_⟩) ?_ ?_
                                          rotate_left
                                          · intro w'
                                            go_simp
                                            with_reducible rfl
                                          rotate_left
                                          · simp only [Act.put, List.setIfInBounds_toArray, List.set_cons_zero, List.set_cons_succ, i64_w, i32_w]
                                            rfl
                                          refine take_ (i := 0) (N := some 79) (v := ?_) (a' := ?_) #[true, true, true, true, false, false, false, false, false, false, false, false, false, false, false, false] rfl rfl (take_ofW HT_.out HW_.out (by kernel_rfl)) (fun _ _ _ h => h) (Or.inl ⟨by rfl, ?_⟩) hHeld ?_ ?_
                                          rotate_left
                                          · rintro w' ⟨s0, s1, s2, s3, s4, s5, s6, s7, s8, s9, s10, s11⟩
                                            go_simp
                                            with_reducible rfl
                                          rotate_left
                                          · simp only [Act.put, List.setIfInBounds_toArray, List.set_cons_zero, List.set_cons_succ, i64_w, i32_w]
                                            rfl
                                          refine take_ (i := 4) (N := some 83) (v := ?_) (a' := ?_) #[true, true, true, true, true, false, false, false, false, false, false, false, false, false, false, false] rfl rfl (take_ofW HT_.out HW_.out (by kernel_rfl)) (fun _ _ _ h => h) (Or.inl ⟨by rfl, ?_⟩) hHeld ?_ ?_
                                          rotate_left
                                          · rintro w' ⟨s0, s1, s2, s3, s4, s5, s6, s7, s8, s9, s10, s11⟩
                                            go_simp
                                            with_reducible rfl
                                          rotate_left
                                          · simp only [Act.put, List.setIfInBounds_toArray, List.set_cons_zero, List.set_cons_succ, i64_w, i32_w]
                                            rfl
                                          refine one_ (i := 5) (N := some 84) #[true, true, true, true, true, true, false, false, false, false, false, false, false, false, false, false] rfl rfl (one_of HT_.out (by kernel_rfl)) (by decide) (fun K hK => ?_)
                                          refine goes_ Try.func13 (by kernel_rfl) rfl #[.agg #[.int .i64 t204, .int .i64 t205, .string t206], .agg #[.int .i64 ((rd_T27 l0 x56_2).f0), .int .i64 ((rd_T27 l0 x56_2).f1), .string ((rd_T27 l0 x56_2).f2)]] (by rfl) rfl rfl (by (try simp only [List.map_toArray, List.map_cons, List.map_nil]); first | done | rfl | (simp only [List.length_drop, List.length_take]; rfl)) ?_
                                          with_reducible refine (antecedentref02_Compare.calls t204 t205 t206 ((rd_T27 l0 x56_2).f0) ((rd_T27 l0 x56_2).f1) ((rd_T27 l0 x56_2).f2) t222 _ A42.out).mono ?_
                                          rintro e w49 ⟨rfl, hb⟩
                                          refine ⟨_, rfl, ?_⟩
                                          have n0_ := Aside0.mk (blk_below (g := gb208) (o := .cells #[.int .i64 t204, .int .i64 t205, .string t206] 27 (0, 0)) (by (with_reducible repeat (first | refine blk_drewN ?_ _ | refine blk_drew ?_ | refine blk_alloc ?_ _)); exact BK208.out) hb)
                                          have n1_ := Aside0.mk (blk_below (g := gb213) (o := .cells #[.int .i64 t209, .int .i64 t210, .string t211] 27 (0, 0)) (by (with_reducible repeat (first | refine blk_drewN ?_ _ | refine blk_drew ?_ | refine blk_alloc ?_ _)); exact BK213.out) hb)
                                          have n2_ := Aside0.mk (blk_below (g := gb218) (o := .cells #[.int .i64 t214, .int .i64 t215, .string t216] 27 (0, 0)) (by (with_reducible repeat (first | refine blk_drewN ?_ _ | refine blk_drew ?_ | refine blk_alloc ?_ _)); exact BK218.out) hb)
                                          have n3_ := Aside0.mk (below_step (by repeat (first | (with_reducible first | exact HB.out | apply below_alloc | apply pw_below_drewN | apply below_drew1 | refine below_set ?_ GE208.out | refine below_set ?_ GE213.out | refine below_set ?_ GE218.out) | exact HB.out)) hb)
                                          clear BK208
                                          clear BK213
                                          clear BK218
                                          clear HB
                                          have BK208 := n0_
                                          have BK213 := n1_
                                          have BK218 := n2_
                                          have HB := n3_
                                          clear n0_ n1_ n2_ n3_
                                          (try clear hb)
                                          (try clear hb2)
                                          (try clear hk)
                                          (try clear hi)
                                          refine hK.out _ _ ⟨(blk_cell BK208.out 0).trans rfl, (blk_cell BK208.out 1).trans rfl, (blk_cell BK208.out 2).trans rfl, (blk_cell BK213.out 0).trans rfl, (blk_cell BK213.out 1).trans rfl, (blk_cell BK213.out 2).trans rfl, ((HB.out.cell (World.block_lt_of_cell? w _ hw221_0)).trans hw221_0), ((HB.out.cell (World.block_lt_of_cell? w _ hw221_1)).trans hw221_1), ((HB.out.cell (World.block_lt_of_cell? w _ hw221_2)).trans hw221_2), ((HB.out.cell (World.block_lt_of_cell? w _ hw223_0)).trans hw223_0), ((HB.out.cell (World.block_lt_of_cell? w _ hw223_1)).trans hw223_1), ((HB.out.cell (World.block_lt_of_cell? w _ hw223_2)).trans hw223_2)⟩ (fun hHeld => ?_)
                                          clear hK K
                                          refine norm_ (a' := ?_) ?_ ?_
                                          rotate_left
                                          · show Act.put _ (some 84) _ = _
                                            simp only [Act.put, List.setIfInBounds_toArray, List.set_cons_zero, List.set_cons_succ, i64_w, i32_w]
                                            rfl
                                          refine pure_ (i := 6) (N := some 85) (v := ?_) (a' := ?_) #[true, true, true, true, true, true, true, false, false, false, false, false, false, false, false, false] rfl rfl (any_of HT_.out (by kernel_rfl)) (fun _ _ _ h => h) (Or.inl ⟨by rfl, ?_⟩) ?_ ?_
                                          rotate_left
                                          · intro w'
                                            go_simp
                                            with_reducible rfl
                                          rotate_left
                                          · simp only [Act.put, List.setIfInBounds_toArray, List.set_cons_zero, List.set_cons_succ, i64_w, i32_w]
                                            rfl
                                          refine pure_ (i := 7) (N := some 86) (v := ?_) (a' := ?_) #[true, true, true, true, true, true, true, true, false, false, false, false, false, false, false, false] rfl rfl (any_of HT_.out (by kernel_rfl)) (fun _ _ _ h => h) (Or.inl ⟨by rfl, ?_⟩) ?_ ?_
                                          rotate_left
                                          · intro w'
                                            go_simp
                                            with_reducible rfl
                                          rotate_left
                                          · simp only [Act.put, List.setIfInBounds_toArray, List.set_cons_zero, List.set_cons_succ, i64_w, i32_w]
                                            rfl
                                          refine pure_ (i := 8) (N := some 87) (v := ?_) (a' := ?_) #[true, true, true, true, true, true, true, true, true, false, false, false, false, false, false, false] rfl rfl (any_of HT_.out (by kernel_rfl)) (fun _ _ _ h => h) (Or.inl ⟨by rfl, ?_⟩) ?_ ?_
                                          rotate_left
                                          · intro w'
                                            go_simp
                                            with_reducible rfl
                                          rotate_left
                                          · simp only [Act.put, List.setIfInBounds_toArray, List.set_cons_zero, List.set_cons_succ, i64_w, i32_w]
                                            rfl
                                          refine pure_ (i := 9) (N := some 88) (v := ?_) (a' := ?_) #[true, true, true, true, true, true, true, true, true, true, false, false, false, false, false, false] rfl rfl (any_of HT_.out (by kernel_rfl)) (fun _ _ _ h => h) (Or.inl ⟨by rfl, ?_⟩) ?_ ?_
                                          rotate_left
                                          · intro w'
                                            go_simp
                                            with_reducible rfl
                                          rotate_left
                                          · simp only [Act.put, List.setIfInBounds_toArray, List.set_cons_zero, List.set_cons_succ, i64_w, i32_w]
                                            rfl
                                          refine pure_ (i := 10) (N := some 89) (v := ?_) (a' := ?_) #[true, true, true, true, true, true, true, true, true, true, true, false, false, false, false, false] rfl rfl (any_of HT_.out (by kernel_rfl)) (fun _ _ _ h => h) (Or.inl ⟨by rfl, ?_⟩) ?_ ?_
                                          rotate_left
                                          · intro w'
                                            go_simp
                                            with_reducible rfl
                                          rotate_left
                                          · simp only [Act.put, List.setIfInBounds_toArray, List.set_cons_zero, List.set_cons_succ, i64_w, i32_w]
                                            rfl
                                          refine take_ (i := 11) (N := some 90) (v := ?_) (a' := ?_) #[true, true, true, true, true, true, true, true, true, true, true, true, false, false, false, false] rfl rfl (take_ofW HT_.out HW_.out (by kernel_rfl)) (fun _ _ _ h => h) (Or.inl ⟨by rfl, ?_⟩) hHeld ?_ ?_
                                          rotate_left
                                          · rintro w' ⟨s0, s1, s2, s3, s4, s5, s6, s7, s8, s9, s10, s11⟩
                                            go_simp
                                            with_reducible rfl
                                          rotate_left
                                          · simp only [Act.put, List.setIfInBounds_toArray, List.set_cons_zero, List.set_cons_succ, i64_w, i32_w]
                                            rfl
                                          refine take_ (i := 12) (N := some 91) (v := ?_) (a' := ?_) #[true, true, true, true, true, true, true, true, true, true, true, true, true, false, false, false] rfl rfl (take_ofW HT_.out HW_.out (by kernel_rfl)) (fun _ _ _ h => h) (Or.inl ⟨by rfl, ?_⟩) hHeld ?_ ?_
                                          rotate_left
                                          · rintro w' ⟨s0, s1, s2, s3, s4, s5, s6, s7, s8, s9, s10, s11⟩
                                            go_simp
                                            with_reducible rfl
                                          rotate_left
                                          · simp only [Act.put, List.setIfInBounds_toArray, List.set_cons_zero, List.set_cons_succ, i64_w, i32_w]
                                            rfl
                                          refine one_ (i := 13) (N := some 92) #[true, true, true, true, true, true, true, true, true, true, true, true, true, true, false, false] rfl rfl (one_of HT_.out (by kernel_rfl)) (by decide) (fun K hK => ?_)
                                          refine goes_ Try.func13 (by kernel_rfl) rfl #[.agg #[.int .i64 ((rd_T27 l0 x56_2).f0), .int .i64 ((rd_T27 l0 x56_2).f1), .string ((rd_T27 l0 x56_2).f2)], .agg #[.int .i64 t209, .int .i64 t210, .string t211]] (by rfl) rfl rfl (by (try simp only [List.map_toArray, List.map_cons, List.map_nil]); first | done | rfl | (simp only [List.length_drop, List.length_take]; rfl)) ?_
                                          with_reducible refine (antecedentref02_Compare.calls ((rd_T27 l0 x56_2).f0) ((rd_T27 l0 x56_2).f1) ((rd_T27 l0 x56_2).f2) t209 t210 t211 t224 _ A44.out).mono ?_
                                          rintro e w50 ⟨rfl, hb⟩
                                          refine ⟨_, rfl, ?_⟩
                                          have n0_ := Aside0.mk (blk_below (g := gb208) (o := .cells #[.int .i64 t204, .int .i64 t205, .string t206] 27 (0, 0)) (by (with_reducible repeat (first | refine blk_drewN ?_ _ | refine blk_drew ?_ | refine blk_alloc ?_ _)); exact BK208.out) hb)
                                          have n1_ := Aside0.mk (blk_below (g := gb213) (o := .cells #[.int .i64 t209, .int .i64 t210, .string t211] 27 (0, 0)) (by (with_reducible repeat (first | refine blk_drewN ?_ _ | refine blk_drew ?_ | refine blk_alloc ?_ _)); exact BK213.out) hb)
                                          have n2_ := Aside0.mk (blk_below (g := gb218) (o := .cells #[.int .i64 t214, .int .i64 t215, .string t216] 27 (0, 0)) (by (with_reducible repeat (first | refine blk_drewN ?_ _ | refine blk_drew ?_ | refine blk_alloc ?_ _)); exact BK218.out) hb)
                                          have n3_ := Aside0.mk (below_step (by repeat (first | (with_reducible first | exact HB.out | apply below_alloc | apply pw_below_drewN | apply below_drew1 | refine below_set ?_ GE208.out | refine below_set ?_ GE213.out | refine below_set ?_ GE218.out) | exact HB.out)) hb)
                                          clear BK208
                                          clear BK213
                                          clear BK218
                                          clear HB
                                          have BK208 := n0_
                                          have BK213 := n1_
                                          have BK218 := n2_
                                          have HB := n3_
                                          clear n0_ n1_ n2_ n3_
                                          (try clear hb)
                                          (try clear hb2)
                                          (try clear hk)
                                          (try clear hi)
                                          refine hK.out _ _ ⟨(blk_cell BK208.out 0).trans rfl, (blk_cell BK208.out 1).trans rfl, (blk_cell BK208.out 2).trans rfl, (blk_cell BK213.out 0).trans rfl, (blk_cell BK213.out 1).trans rfl, (blk_cell BK213.out 2).trans rfl, ((HB.out.cell (World.block_lt_of_cell? w _ hw221_0)).trans hw221_0), ((HB.out.cell (World.block_lt_of_cell? w _ hw221_1)).trans hw221_1), ((HB.out.cell (World.block_lt_of_cell? w _ hw221_2)).trans hw221_2), ((HB.out.cell (World.block_lt_of_cell? w _ hw223_0)).trans hw223_0), ((HB.out.cell (World.block_lt_of_cell? w _ hw223_1)).trans hw223_1), ((HB.out.cell (World.block_lt_of_cell? w _ hw223_2)).trans hw223_2)⟩ (fun hHeld => ?_)
                                          clear hK K
                                          refine norm_ (a' := ?_) ?_ ?_
                                          rotate_left
                                          · show Act.put _ (some 92) _ = _
                                            simp only [Act.put, List.setIfInBounds_toArray, List.set_cons_zero, List.set_cons_succ, i64_w, i32_w]
                                            rfl
                                          refine pure_ (i := 14) (N := some 93) (v := ?_) (a' := ?_) #[true, true, true, true, true, true, true, true, true, true, true, true, true, true, true, false] rfl rfl (any_of HT_.out (by kernel_rfl)) (fun _ _ _ h => h) (Or.inl ⟨by rfl, ?_⟩) ?_ ?_
                                          rotate_left
                                          · intro w'
                                            go_simp
                                            with_reducible rfl
                                          rotate_left
                                          · simp only [Act.put, List.setIfInBounds_toArray, List.set_cons_zero, List.set_cons_succ, i64_w, i32_w]
                                            rfl
                                          refine pure_ (i := 15) (N := some 94) (v := ?_) (a' := ?_) #[true, true, true, true, true, true, true, true, true, true, true, true, true, true, true, true] rfl rfl (any_of HT_.out (by kernel_rfl)) (fun _ _ _ h => h) (Or.inl ⟨by rfl, ?_⟩) ?_ ?_
                                          rotate_left
                                          · intro w'
                                            go_simp
                                            with_reducible rfl
                                          rotate_left
                                          · simp only [Act.put, List.setIfInBounds_toArray, List.set_cons_zero, List.set_cons_succ, i64_w, i32_w]
                                            rfl
                                          refine done_ (done_of HT_.out (by kernel_rfl)) ?_
                                          try go_wp2
                                          have n0_ := Aside0.mk (blk_drew BK208.out)
                                          have n1_ := Aside0.mk (blk_drew BK213.out)
                                          have n2_ := Aside0.mk (blk_drew BK218.out)
                                          have n3_ := Aside0.mk (below_drew1 HB.out)
                                          clear BK208
                                          clear BK213
                                          clear BK218
                                          clear HB
                                          have BK208 := n0_
                                          have BK213 := n1_
                                          have BK218 := n2_
                                          have HB := n3_
                                          clear n0_ n1_ n2_ n3_
                                          refine start_ (n := 20) (S := fun w' => True) (ds := []) #[false, false, false, false, false, false, false, false, false, false, false, false, false, false, false, false, false, false, false, false] (by kernel_rfl) rfl rfl trivial (fun hHeld => ?_); refine with_tabW antecedentlaw20_FoldEnds.tab25 antecedentlaw20_FoldEnds.bits25 (fun HT_ HW_ => ?_)
                                          generalize w50.drew = w51 at BK208 BK213 BK218 HB hHeld ⊢
                                          refine pure_ (i := 0) (N := some 95) (v := ?_) (a' := ?_) #[true, false, false, false, false, false, false, false, false, false, false, false, false, false, false, false, false, false, false, false] rfl rfl (any_of HT_.out (by kernel_rfl)) (fun _ _ _ h => h) (Or.inl ⟨by rfl, ?_⟩) ?_ ?_
                                          rotate_left
                                          · intro w'
                                            go_simp
                                            with_reducible rfl
                                          rotate_left
                                          · simp only [Act.put, List.setIfInBounds_toArray, List.set_cons_zero, List.set_cons_succ, i64_w, i32_w]
                                            rfl
                                          refine pure_ (i := 1) (N := some 96) (v := ?_) (a' := ?_) #[true, true, false, false, false, false, false, false, false, false, false, false, false, false, false, false, false, false, false, false] rfl rfl (any_of HT_.out (by kernel_rfl)) (fun _ _ _ h => h) (Or.inl ⟨by rfl, ?_⟩) ?_ ?_
                                          rotate_left
                                          · intro w'
                                            go_simp
                                            with_reducible rfl
                                          rotate_left
                                          · simp only [Act.put, List.setIfInBounds_toArray, List.set_cons_zero, List.set_cons_succ, i64_w, i32_w]
                                            rfl
                                          refine pure_ (i := 2) (N := some 97) (v := undef) (a' := ?_) #[true, true, true, false, false, false, false, false, false, false, false, false, false, false, false, false, false, false, false, false] rfl rfl (any_of HT_.out (by kernel_rfl)) (fun _ _ _ h => h) (Or.inr ⟨by rfl, rfl⟩) ?_ ?_
                                          rotate_left
                                          · simp only [Act.put, List.setIfInBounds_toArray, List.set_cons_zero, List.set_cons_succ, i64_w, i32_w]
                                            rfl
                                          refine pure_ (i := 3) (N := some 98) (v := undef) (a' := ?_) #[true, true, true, true, false, false, false, false, false, false, false, false, false, false, false, false, false, false, false, false] rfl rfl (any_of HT_.out (by kernel_rfl)) (fun _ _ _ h => h) (Or.inr ⟨by rfl, rfl⟩) ?_ ?_
                                          rotate_left
                                          · simp only [Act.put, List.setIfInBounds_toArray, List.set_cons_zero, List.set_cons_succ, i64_w, i32_w]
                                            rfl
                                          refine pure_ (i := 4) (N := some 99) (v := undef) (a' := ?_) #[true, true, true, true, true, false, false, false, false, false, false, false, false, false, false, false, false, false, false, false] rfl rfl (any_of HT_.out (by kernel_rfl)) (fun _ _ _ h => h) (Or.inr ⟨by rfl, rfl⟩) ?_ ?_
                                          rotate_left
                                          · simp only [Act.put, List.setIfInBounds_toArray, List.set_cons_zero, List.set_cons_succ, i64_w, i32_w]
                                            rfl
                                          refine pure_ (i := 5) (N := some 100) (v := undef) (a' := ?_) #[true, true, true, true, true, true, false, false, false, false, false, false, false, false, false, false, false, false, false, false] rfl rfl (any_of HT_.out (by kernel_rfl)) (fun _ _ _ h => h) (Or.inr ⟨by rfl, rfl⟩) ?_ ?_
                                          rotate_left
                                          · simp only [Act.put, List.setIfInBounds_toArray, List.set_cons_zero, List.set_cons_succ, i64_w, i32_w]
                                            rfl
                                          refine pure_ (i := 6) (N := some 101) (v := undef) (a' := ?_) #[true, true, true, true, true, true, true, false, false, false, false, false, false, false, false, false, false, false, false, false] rfl rfl (any_of HT_.out (by kernel_rfl)) (fun _ _ _ h => h) (Or.inr ⟨by rfl, rfl⟩) ?_ ?_
                                          rotate_left
                                          · simp only [Act.put, List.setIfInBounds_toArray, List.set_cons_zero, List.set_cons_succ, i64_w, i32_w]
                                            rfl
                                          refine pure_ (i := 7) (N := some 102) (v := undef) (a' := ?_) #[true, true, true, true, true, true, true, true, false, false, false, false, false, false, false, false, false, false, false, false] rfl rfl (any_of HT_.out (by kernel_rfl)) (fun _ _ _ h => h) (Or.inr ⟨by rfl, rfl⟩) ?_ ?_
                                          rotate_left
                                          · simp only [Act.put, List.setIfInBounds_toArray, List.set_cons_zero, List.set_cons_succ, i64_w, i32_w]
                                            rfl
                                          refine pure_ (i := 8) (N := some 103) (v := ?_) (a' := ?_) #[true, true, true, true, true, true, true, true, true, false, false, false, false, false, false, false, false, false, false, false] rfl rfl (any_of HT_.out (by kernel_rfl)) (fun _ _ _ h => h) (Or.inl ⟨by rfl, ?_⟩) ?_ ?_
                                          rotate_left
                                          · intro w'
                                            go_simp
                                            with_reducible rfl
                                          rotate_left
                                          · simp only [Act.put, List.setIfInBounds_toArray, List.set_cons_zero, List.set_cons_succ, i64_w, i32_w]
                                            rfl
                                          refine pure_ (i := 9) (N := some 104) (v := ?_) (a' := ?_) #[true, true, true, true, true, true, true, true, true, true, false, false, false, false, false, false, false, false, false, false] rfl rfl (any_of HT_.out (by kernel_rfl)) (fun _ _ _ h => h) (Or.inl ⟨by rfl, ?_⟩) ?_ ?_
                                          rotate_left
                                          · intro w'
                                            go_simp
                                            with_reducible rfl
                                          rotate_left
                                          · simp only [Act.put, List.setIfInBounds_toArray, List.set_cons_zero, List.set_cons_succ, i64_w, i32_w]
                                            rfl
                                          refine pure_ (i := 10) (N := some 105) (v := ?_) (a' := ?_) #[true, true, true, true, true, true, true, true, true, true, true, false, false, false, false, false, false, false, false, false] rfl rfl (any_of HT_.out (by kernel_rfl)) (fun _ _ _ h => h) (Or.inl ⟨by rfl, ?_⟩) ?_ ?_
                                          rotate_left
                                          · intro w'
                                            go_simp
                                            with_reducible rfl
                                          rotate_left
                                          · simp only [Act.put, List.setIfInBounds_toArray, List.set_cons_zero, List.set_cons_succ, i64_w, i32_w]
                                            rfl
                                          refine pure_ (i := 11) (N := some 106) (v := undef) (a' := ?_) #[true, true, true, true, true, true, true, true, true, true, true, true, false, false, false, false, false, false, false, false] rfl rfl (any_of HT_.out (by kernel_rfl)) (fun _ _ _ h => h) (Or.inr ⟨by rfl, rfl⟩) ?_ ?_
                                          rotate_left
                                          · simp only [Act.put, List.setIfInBounds_toArray, List.set_cons_zero, List.set_cons_succ, i64_w, i32_w]
                                            rfl
                                          refine pure_ (i := 12) (N := some 107) (v := undef) (a' := ?_) #[true, true, true, true, true, true, true, true, true, true, true, true, true, false, false, false, false, false, false, false] rfl rfl (any_of HT_.out (by kernel_rfl)) (fun _ _ _ h => h) (Or.inr ⟨by rfl, rfl⟩) ?_ ?_
                                          rotate_left
                                          · simp only [Act.put, List.setIfInBounds_toArray, List.set_cons_zero, List.set_cons_succ, i64_w, i32_w]
                                            rfl
                                          refine pure_ (i := 13) (N := some 108) (v := undef) (a' := ?_) #[true, true, true, true, true, true, true, true, true, true, true, true, true, true, false, false, false, false, false, false] rfl rfl (any_of HT_.out (by kernel_rfl)) (fun _ _ _ h => h) (Or.inr ⟨by rfl, rfl⟩) ?_ ?_
                                          rotate_left
                                          · simp only [Act.put, List.setIfInBounds_toArray, List.set_cons_zero, List.set_cons_succ, i64_w, i32_w]
                                            rfl
                                          refine pure_ (i := 14) (N := some 109) (v := undef) (a' := ?_) #[true, true, true, true, true, true, true, true, true, true, true, true, true, true, true, false, false, false, false, false] rfl rfl (any_of HT_.out (by kernel_rfl)) (fun _ _ _ h => h) (Or.inr ⟨by rfl, rfl⟩) ?_ ?_
                                          rotate_left
                                          · simp only [Act.put, List.setIfInBounds_toArray, List.set_cons_zero, List.set_cons_succ, i64_w, i32_w]
                                            rfl
                                          refine pure_ (i := 15) (N := some 110) (v := undef) (a' := ?_) #[true, true, true, true, true, true, true, true, true, true, true, true, true, true, true, true, false, false, false, false] rfl rfl (any_of HT_.out (by kernel_rfl)) (fun _ _ _ h => h) (Or.inr ⟨by rfl, rfl⟩) ?_ ?_
                                          rotate_left
                                          · simp only [Act.put, List.setIfInBounds_toArray, List.set_cons_zero, List.set_cons_succ, i64_w, i32_w]
                                            rfl
                                          refine pure_ (i := 16) (N := some 111) (v := undef) (a' := ?_) #[true, true, true, true, true, true, true, true, true, true, true, true, true, true, true, true, true, false, false, false] rfl rfl (any_of HT_.out (by kernel_rfl)) (fun _ _ _ h => h) (Or.inr ⟨by rfl, rfl⟩) ?_ ?_
                                          rotate_left
                                          · simp only [Act.put, List.setIfInBounds_toArray, List.set_cons_zero, List.set_cons_succ, i64_w, i32_w]
                                            rfl
                                          refine pure_ (i := 17) (N := some 112) (v := ?_) (a' := ?_) #[true, true, true, true, true, true, true, true, true, true, true, true, true, true, true, true, true, true, false, false] rfl rfl (any_of HT_.out (by kernel_rfl)) (fun _ _ _ h => h) (Or.inl ⟨by rfl, ?_⟩) ?_ ?_
                                          rotate_left
                                          · intro w'
                                            go_simp
                                            with_reducible rfl
                                          rotate_left
                                          · simp only [Act.put, List.setIfInBounds_toArray, List.set_cons_zero, List.set_cons_succ, i64_w, i32_w]
                                            rfl
                                          refine pure_ (i := 18) (N := some 10) (v := ?_) (a' := ?_) #[true, true, true, true, true, true, true, true, true, true, true, true, true, true, true, true, true, true, true, false] rfl rfl (any_of HT_.out (by kernel_rfl)) (fun _ _ _ h => h) (Or.inl ⟨by rfl, ?_⟩) ?_ ?_
                                          rotate_left
                                          · intro w'
                                            go_simp
                                            with_reducible rfl
                                          rotate_left
                                          · simp only [Act.put, List.setIfInBounds_toArray, List.set_cons_zero, List.set_cons_succ, i64_w, i32_w]
                                            rfl
                                          refine pure_ (i := 19) (N := some 11) (v := ?_) (a' := ?_) #[true, true, true, true, true, true, true, true, true, true, true, true, true, true, true, true, true, true, true, true] rfl rfl (any_of HT_.out (by kernel_rfl)) (fun _ _ _ h => h) (Or.inl ⟨by rfl, ?_⟩) ?_ ?_
                                          rotate_left
                                          · intro w'
                                            go_simp
                                            with_reducible rfl
                                          rotate_left
                                          · simp only [Act.put, List.setIfInBounds_toArray, List.set_cons_zero, List.set_cons_succ, i64_w, i32_w]
                                            rfl
                                          refine done_ (done_of HT_.out (by kernel_rfl)) ?_
                                          try go_wp2
                                          go_roundg kj37
                                          case measure => have := HJ11.out; have := HK2.out; have := HK3.out; have := HJ37.out; omega
                                          case rel => exact ⟨(x9_37), (true), (true), (wrap64 (x56_2 + 1)), (by first | rfl | (simp; done) | (simp [*]; done)), (by first | rfl | (simp; done) | (simp [*]; done)), (by first | rfl | (simp; done) | (simp [*]; done)), (by first | rfl | (simp; done) | (simp [*]; done)), H', ⟨by have := HJ11.out; have := HK2.out; have := HK3.out; have := HJ37.out; omega⟩, ⟨by (with_reducible repeat (first | refine blk_drewN ?_ _ | refine blk_drew ?_ | refine blk_alloc ?_ _)); exact BK208.out⟩, ⟨by (with_reducible repeat (first | refine blk_drewN ?_ _ | refine blk_drew ?_ | refine blk_alloc ?_ _)); exact BK213.out⟩, ⟨by (with_reducible repeat (first | refine blk_drewN ?_ _ | refine blk_drew ?_ | refine blk_alloc ?_ _)); exact BK218.out⟩, ⟨by repeat (first | (with_reducible first | exact HB.out | apply below_alloc | apply pw_below_drewN | apply below_drew1 | refine below_set ?_ GE208.out | refine below_set ?_ GE213.out | refine below_set ?_ GE218.out) | exact HB.out)⟩⟩
                                        · replace c47 := Bool.eq_false_iff.mpr c47
                                          subst c47
                                          have H1 : (antecedentlaw20_FoldEnds.l0 kj37 l0 x9_37 true (((rd_T27 l0 x56_2).f0) == t209 && (((rd_T27 l0 x56_2).f1) == t210 && ((((rd_T27 l0 x56_2).f2).toList) == t211.toList))) (l0.length : Int) (wrap64 (x56_2 + 1)) t204 t205 t206 t209 t210 t211 t214 t215 t216) = some r := by rw [if_neg (show ¬ (false = true) by decide)] at H; exact H
                                          clear H
                                          have H := H1
                                          clear H1
                                          have H' := Aside0.mk H
                                          clear H
                                          try go_wp2
                                          have n0_ := Aside0.mk (blk_drew BK208.out)
                                          have n1_ := Aside0.mk (blk_drew BK213.out)
                                          have n2_ := Aside0.mk (blk_drew BK218.out)
                                          have n3_ := Aside0.mk (below_drew1 HB.out)
                                          clear BK208
                                          clear BK213
                                          clear BK218
                                          clear HB
                                          have BK208 := n0_
                                          have BK213 := n1_
                                          have BK218 := n2_
                                          have HB := n3_
                                          clear n0_ n1_ n2_ n3_
                                          have p221 : 0 ≤ (x56_2 : Int) := of_decide_eq_true (by first | (with_reducible assumption) | assumption)
                                          have q221 : x56_2 < (l0.length : Int) := of_decide_eq_true (by first | (with_reducible assumption) | assumption)
                                          obtain ⟨ad221, e221, hx221_0, hx221_1, hx221_2⟩ := at_T27 HR0.out x56_2 p221 q221
                                          have hw221_2 := hx221_2
                                          have hw221_1 := hx221_1
                                          have hw221_0 := hx221_0
                                          cases e221
                                          replace hx221_0 := (HB.out.cell (World.block_lt_of_cell? w _ hx221_0)).trans hx221_0
                                          replace hx221_1 := (HB.out.cell (World.block_lt_of_cell? w _ hx221_1)).trans hx221_1
                                          replace hx221_2 := (HB.out.cell (World.block_lt_of_cell? w _ hx221_2)).trans hx221_2
                                          replace p221 := eq_true p221
                                          replace q221 := eq_true q221
                                          have p223 : 0 ≤ (x56_2 : Int) := of_decide_eq_true (by first | (with_reducible assumption) | assumption)
                                          have q223 : x56_2 < (l0.length : Int) := of_decide_eq_true (by first | (with_reducible assumption) | assumption)
                                          obtain ⟨ad223, e223, hx223_0, hx223_1, hx223_2⟩ := at_T27 HR0.out x56_2 p223 q223
                                          have hw223_2 := hx223_2
                                          have hw223_1 := hx223_1
                                          have hw223_0 := hx223_0
                                          obtain rfl : ad221 = ad223 := (by injection e223)
                                          replace hx223_0 := (HB.out.cell (World.block_lt_of_cell? w _ hx223_0)).trans hx223_0
                                          replace hx223_1 := (HB.out.cell (World.block_lt_of_cell? w _ hx223_1)).trans hx223_1
                                          replace hx223_2 := (HB.out.cell (World.block_lt_of_cell? w _ hx223_2)).trans hx223_2
                                          replace p223 := eq_true p223
                                          replace q223 := eq_true q223
                                          refine start_ (n := 16) (S := fun w' => w'.cell? ⟨gb208, 0, none⟩ = some (.int .i64 t204) ∧ w'.cell? ⟨gb208, 1, none⟩ = some (.int .i64 t205) ∧ w'.cell? ⟨gb208, 2, none⟩ = some (.string t206) ∧ w'.cell? ⟨gb213, 0, none⟩ = some (.int .i64 t209) ∧ w'.cell? ⟨gb213, 1, none⟩ = some (.int .i64 t210) ∧ w'.cell? ⟨gb213, 2, none⟩ = some (.string t211) ∧ w'.cell? (ad221.add ((x56_2).toNat * 3)) = some (.int .i64 ((rd_T27 l0 x56_2).f0)) ∧ w'.cell? ⟨(ad221.add ((x56_2).toNat * 3)).block, (ad221.add ((x56_2).toNat * 3)).off + 1, none⟩ = some (.int .i64 ((rd_T27 l0 x56_2).f1)) ∧ w'.cell? ⟨(ad221.add ((x56_2).toNat * 3)).block, (ad221.add ((x56_2).toNat * 3)).off + 2, none⟩ = some (.string ((rd_T27 l0 x56_2).f2)) ∧ w'.cell? (ad221.add ((x56_2).toNat * 3)) = some (.int .i64 ((rd_T27 l0 x56_2).f0)) ∧ w'.cell? ⟨(ad221.add ((x56_2).toNat * 3)).block, (ad221.add ((x56_2).toNat * 3)).off + 1, none⟩ = some (.int .i64 ((rd_T27 l0 x56_2).f1)) ∧ w'.cell? ⟨(ad221.add ((x56_2).toNat * 3)).block, (ad221.add ((x56_2).toNat * 3)).off + 2, none⟩ = some (.string ((rd_T27 l0 x56_2).f2))) (ds := []) #[false, false, false, false, false, false, false, false, false, false, false, false, false, false, false, false] (by kernel_rfl) rfl rfl ⟨(blk_cell BK208.out 0).trans rfl, (blk_cell BK208.out 1).trans rfl, (blk_cell BK208.out 2).trans rfl, (blk_cell BK213.out 0).trans rfl, (blk_cell BK213.out 1).trans rfl, (blk_cell BK213.out 2).trans rfl, ((HB.out.cell (World.block_lt_of_cell? w _ hw221_0)).trans hw221_0), ((HB.out.cell (World.block_lt_of_cell? w _ hw221_1)).trans hw221_1), ((HB.out.cell (World.block_lt_of_cell? w _ hw221_2)).trans hw221_2), ((HB.out.cell (World.block_lt_of_cell? w _ hw223_0)).trans hw223_0), ((HB.out.cell (World.block_lt_of_cell? w _ hw223_1)).trans hw223_1), ((HB.out.cell (World.block_lt_of_cell? w _ hw223_2)).trans hw223_2)⟩ (fun hHeld => ?_); refine with_tabW antecedentlaw20_FoldEnds.tab23 antecedentlaw20_FoldEnds.bits23 (fun HT_ HW_ => ?_)
                                          generalize wc.drew = w52 at BK208 BK213 BK218 HB hx221_0 hx221_1 hx221_2 hx223_0 hx223_1 hx223_2 hHeld ⊢
                                          refine pure_ (i := 1) (N := some 80) (v := ?_) (a' := ?_) #[false, true, false, false, false, false, false, false, false, false, false, false, false, false, false, false] rfl rfl (any_of HT_.out (by kernel_rfl)) (fun _ _ _ h => h) (Or.inl ⟨by rfl, ?_⟩) ?_ ?_
                                          rotate_left
                                          · intro w'
                                            go_simp
                                            with_reducible rfl
                                          rotate_left
                                          · simp only [Act.put, List.setIfInBounds_toArray, List.set_cons_zero, List.set_cons_succ, i64_w, i32_w]
                                            rfl
                                          refine pure_ (i := 2) (N := some 81) (v := ?_) (a' := ?_) #[false, true, true, false, false, false, false, false, false, false, false, false, false, false, false, false] rfl rfl (any_of HT_.out (by kernel_rfl)) (fun _ _ _ h => h) (Or.inl ⟨by rfl, ?_⟩) ?_ ?_
                                          rotate_left
                                          · intro w'
                                            go_simp
                                            with_reducible rfl
                                          rotate_left
                                          · simp only [Act.put, List.setIfInBounds_toArray, List.set_cons_zero, List.set_cons_succ, i64_w, i32_w]
                                            rfl
                                          refine pure_ (i := 3) (N := some 82) (v := ?_) (a' := ?_) #[false, true, true, true, false, false, false, false, false, false, false, false, false, false, false, false] rfl rfl (any_of HT_.out (by kernel_rfl)) (fun _ _ _ h => h) (Or.inl ⟨by rfl, ?_⟩) ?_ ?_
                                          rotate_left
                                          · intro w'
                                            go_simp
                                            with_reducible rfl
                                          rotate_left
                                          · simp only [Act.put, List.setIfInBounds_toArray, List.set_cons_zero, List.set_cons_succ, i64_w, i32_w]
                                            rfl
                                          refine take_ (i := 0) (N := some 79) (v := ?_) (a' := ?_) #[true, true, true, true, false, false, false, false, false, false, false, false, false, false, false, false] rfl rfl (take_ofW HT_.out HW_.out (by kernel_rfl)) (fun _ _ _ h => h) (Or.inl ⟨by rfl, ?_⟩) hHeld ?_ ?_
                                          rotate_left
                                          · rintro w' ⟨s0, s1, s2, s3, s4, s5, s6, s7, s8, s9, s10, s11⟩
                                            go_simp
                                            with_reducible rfl
                                          rotate_left
                                          · simp only [Act.put, List.setIfInBounds_toArray, List.set_cons_zero, List.set_cons_succ, i64_w, i32_w]
                                            rfl
                                          refine take_ (i := 4) (N := some 83) (v := ?_) (a' := ?_) #[true, true, true, true, true, false, false, false, false, false, false, false, false, false, false, false] rfl rfl (take_ofW HT_.out HW_.out (by kernel_rfl)) (fun _ _ _ h => h) (Or.inl ⟨by rfl, ?_⟩) hHeld ?_ ?_
                                          rotate_left
                                          · rintro w' ⟨s0, s1, s2, s3, s4, s5, s6, s7, s8, s9, s10, s11⟩
                                            go_simp
                                            with_reducible rfl
                                          rotate_left
                                          · simp only [Act.put, List.setIfInBounds_toArray, List.set_cons_zero, List.set_cons_succ, i64_w, i32_w]
                                            rfl
                                          refine one_ (i := 5) (N := some 84) #[true, true, true, true, true, true, false, false, false, false, false, false, false, false, false, false] rfl rfl (one_of HT_.out (by kernel_rfl)) (by decide) (fun K hK => ?_)
                                          refine goes_ Try.func13 (by kernel_rfl) rfl #[.agg #[.int .i64 t204, .int .i64 t205, .string t206], .agg #[.int .i64 ((rd_T27 l0 x56_2).f0), .int .i64 ((rd_T27 l0 x56_2).f1), .string ((rd_T27 l0 x56_2).f2)]] (by rfl) rfl rfl (by (try simp only [List.map_toArray, List.map_cons, List.map_nil]); first | done | rfl | (simp only [List.length_drop, List.length_take]; rfl)) ?_
                                          with_reducible refine (antecedentref02_Compare.calls t204 t205 t206 ((rd_T27 l0 x56_2).f0) ((rd_T27 l0 x56_2).f1) ((rd_T27 l0 x56_2).f2) t222 _ A42.out).mono ?_
                                          rintro e w53 ⟨rfl, hb⟩
                                          refine ⟨_, rfl, ?_⟩
                                          have n0_ := Aside0.mk (blk_below (g := gb208) (o := .cells #[.int .i64 t204, .int .i64 t205, .string t206] 27 (0, 0)) (by (with_reducible repeat (first | refine blk_drewN ?_ _ | refine blk_drew ?_ | refine blk_alloc ?_ _)); exact BK208.out) hb)
                                          have n1_ := Aside0.mk (blk_below (g := gb213) (o := .cells #[.int .i64 t209, .int .i64 t210, .string t211] 27 (0, 0)) (by (with_reducible repeat (first | refine blk_drewN ?_ _ | refine blk_drew ?_ | refine blk_alloc ?_ _)); exact BK213.out) hb)
                                          have n2_ := Aside0.mk (blk_below (g := gb218) (o := .cells #[.int .i64 t214, .int .i64 t215, .string t216] 27 (0, 0)) (by (with_reducible repeat (first | refine blk_drewN ?_ _ | refine blk_drew ?_ | refine blk_alloc ?_ _)); exact BK218.out) hb)
                                          have n3_ := Aside0.mk (below_step (by repeat (first | (with_reducible first | exact HB.out | apply below_alloc | apply pw_below_drewN | apply below_drew1 | refine below_set ?_ GE208.out | refine below_set ?_ GE213.out | refine below_set ?_ GE218.out) | exact HB.out)) hb)
                                          clear BK208
                                          clear BK213
                                          clear BK218
                                          clear HB
                                          have BK208 := n0_
                                          have BK213 := n1_
                                          have BK218 := n2_
                                          have HB := n3_
                                          clear n0_ n1_ n2_ n3_
                                          (try clear hb)
                                          (try clear hb2)
                                          (try clear hk)
                                          (try clear hi)
                                          refine hK.out _ _ ⟨(blk_cell BK208.out 0).trans rfl, (blk_cell BK208.out 1).trans rfl, (blk_cell BK208.out 2).trans rfl, (blk_cell BK213.out 0).trans rfl, (blk_cell BK213.out 1).trans rfl, (blk_cell BK213.out 2).trans rfl, ((HB.out.cell (World.block_lt_of_cell? w _ hw221_0)).trans hw221_0), ((HB.out.cell (World.block_lt_of_cell? w _ hw221_1)).trans hw221_1), ((HB.out.cell (World.block_lt_of_cell? w _ hw221_2)).trans hw221_2), ((HB.out.cell (World.block_lt_of_cell? w _ hw223_0)).trans hw223_0), ((HB.out.cell (World.block_lt_of_cell? w _ hw223_1)).trans hw223_1), ((HB.out.cell (World.block_lt_of_cell? w _ hw223_2)).trans hw223_2)⟩ (fun hHeld => ?_)
                                          clear hK K
                                          refine norm_ (a' := ?_) ?_ ?_
                                          rotate_left
                                          · show Act.put _ (some 84) _ = _
                                            simp only [Act.put, List.setIfInBounds_toArray, List.set_cons_zero, List.set_cons_succ, i64_w, i32_w]
                                            rfl
                                          refine pure_ (i := 6) (N := some 85) (v := ?_) (a' := ?_) #[true, true, true, true, true, true, true, false, false, false, false, false, false, false, false, false] rfl rfl (any_of HT_.out (by kernel_rfl)) (fun _ _ _ h => h) (Or.inl ⟨by rfl, ?_⟩) ?_ ?_
                                          rotate_left
                                          · intro w'
                                            go_simp
                                            with_reducible rfl
                                          rotate_left
                                          · simp only [Act.put, List.setIfInBounds_toArray, List.set_cons_zero, List.set_cons_succ, i64_w, i32_w]
                                            rfl
                                          refine pure_ (i := 7) (N := some 86) (v := ?_) (a' := ?_) #[true, true, true, true, true, true, true, true, false, false, false, false, false, false, false, false] rfl rfl (any_of HT_.out (by kernel_rfl)) (fun _ _ _ h => h) (Or.inl ⟨by rfl, ?_⟩) ?_ ?_
                                          rotate_left
                                          · intro w'
                                            go_simp
                                            with_reducible rfl
                                          rotate_left
                                          · simp only [Act.put, List.setIfInBounds_toArray, List.set_cons_zero, List.set_cons_succ, i64_w, i32_w]
                                            rfl
                                          refine pure_ (i := 8) (N := some 87) (v := ?_) (a' := ?_) #[true, true, true, true, true, true, true, true, true, false, false, false, false, false, false, false] rfl rfl (any_of HT_.out (by kernel_rfl)) (fun _ _ _ h => h) (Or.inl ⟨by rfl, ?_⟩) ?_ ?_
                                          rotate_left
                                          · intro w'
                                            go_simp
                                            with_reducible rfl
                                          rotate_left
                                          · simp only [Act.put, List.setIfInBounds_toArray, List.set_cons_zero, List.set_cons_succ, i64_w, i32_w]
                                            rfl
                                          refine pure_ (i := 9) (N := some 88) (v := ?_) (a' := ?_) #[true, true, true, true, true, true, true, true, true, true, false, false, false, false, false, false] rfl rfl (any_of HT_.out (by kernel_rfl)) (fun _ _ _ h => h) (Or.inl ⟨by rfl, ?_⟩) ?_ ?_
                                          rotate_left
                                          · intro w'
                                            go_simp
                                            with_reducible rfl
                                          rotate_left
                                          · simp only [Act.put, List.setIfInBounds_toArray, List.set_cons_zero, List.set_cons_succ, i64_w, i32_w]
                                            rfl
                                          refine pure_ (i := 10) (N := some 89) (v := ?_) (a' := ?_) #[true, true, true, true, true, true, true, true, true, true, true, false, false, false, false, false] rfl rfl (any_of HT_.out (by kernel_rfl)) (fun _ _ _ h => h) (Or.inl ⟨by rfl, ?_⟩) ?_ ?_
                                          rotate_left
                                          · intro w'
                                            go_simp
                                            with_reducible rfl
                                          rotate_left
                                          · simp only [Act.put, List.setIfInBounds_toArray, List.set_cons_zero, List.set_cons_succ, i64_w, i32_w]
                                            rfl
                                          refine take_ (i := 11) (N := some 90) (v := ?_) (a' := ?_) #[true, true, true, true, true, true, true, true, true, true, true, true, false, false, false, false] rfl rfl (take_ofW HT_.out HW_.out (by kernel_rfl)) (fun _ _ _ h => h) (Or.inl ⟨by rfl, ?_⟩) hHeld ?_ ?_
                                          rotate_left
                                          · rintro w' ⟨s0, s1, s2, s3, s4, s5, s6, s7, s8, s9, s10, s11⟩
                                            go_simp
                                            with_reducible rfl
                                          rotate_left
                                          · simp only [Act.put, List.setIfInBounds_toArray, List.set_cons_zero, List.set_cons_succ, i64_w, i32_w]
                                            rfl
                                          refine take_ (i := 12) (N := some 91) (v := ?_) (a' := ?_) #[true, true, true, true, true, true, true, true, true, true, true, true, true, false, false, false] rfl rfl (take_ofW HT_.out HW_.out (by kernel_rfl)) (fun _ _ _ h => h) (Or.inl ⟨by rfl, ?_⟩) hHeld ?_ ?_
                                          rotate_left
                                          · rintro w' ⟨s0, s1, s2, s3, s4, s5, s6, s7, s8, s9, s10, s11⟩
                                            go_simp
                                            with_reducible rfl
                                          rotate_left
                                          · simp only [Act.put, List.setIfInBounds_toArray, List.set_cons_zero, List.set_cons_succ, i64_w, i32_w]
                                            rfl
                                          refine one_ (i := 13) (N := some 92) #[true, true, true, true, true, true, true, true, true, true, true, true, true, true, false, false] rfl rfl (one_of HT_.out (by kernel_rfl)) (by decide) (fun K hK => ?_)
                                          refine goes_ Try.func13 (by kernel_rfl) rfl #[.agg #[.int .i64 ((rd_T27 l0 x56_2).f0), .int .i64 ((rd_T27 l0 x56_2).f1), .string ((rd_T27 l0 x56_2).f2)], .agg #[.int .i64 t209, .int .i64 t210, .string t211]] (by rfl) rfl rfl (by (try simp only [List.map_toArray, List.map_cons, List.map_nil]); first | done | rfl | (simp only [List.length_drop, List.length_take]; rfl)) ?_
                                          with_reducible refine (antecedentref02_Compare.calls ((rd_T27 l0 x56_2).f0) ((rd_T27 l0 x56_2).f1) ((rd_T27 l0 x56_2).f2) t209 t210 t211 t224 _ A44.out).mono ?_
                                          rintro e w54 ⟨rfl, hb⟩
                                          refine ⟨_, rfl, ?_⟩
                                          have n0_ := Aside0.mk (blk_below (g := gb208) (o := .cells #[.int .i64 t204, .int .i64 t205, .string t206] 27 (0, 0)) (by (with_reducible repeat (first | refine blk_drewN ?_ _ | refine blk_drew ?_ | refine blk_alloc ?_ _)); exact BK208.out) hb)
                                          have n1_ := Aside0.mk (blk_below (g := gb213) (o := .cells #[.int .i64 t209, .int .i64 t210, .string t211] 27 (0, 0)) (by (with_reducible repeat (first | refine blk_drewN ?_ _ | refine blk_drew ?_ | refine blk_alloc ?_ _)); exact BK213.out) hb)
                                          have n2_ := Aside0.mk (blk_below (g := gb218) (o := .cells #[.int .i64 t214, .int .i64 t215, .string t216] 27 (0, 0)) (by (with_reducible repeat (first | refine blk_drewN ?_ _ | refine blk_drew ?_ | refine blk_alloc ?_ _)); exact BK218.out) hb)
                                          have n3_ := Aside0.mk (below_step (by repeat (first | (with_reducible first | exact HB.out | apply below_alloc | apply pw_below_drewN | apply below_drew1 | refine below_set ?_ GE208.out | refine below_set ?_ GE213.out | refine below_set ?_ GE218.out) | exact HB.out)) hb)
                                          clear BK208
                                          clear BK213
                                          clear BK218
                                          clear HB
                                          have BK208 := n0_
                                          have BK213 := n1_
                                          have BK218 := n2_
                                          have HB := n3_
                                          clear n0_ n1_ n2_ n3_
                                          (try clear hb)
                                          (try clear hb2)
                                          (try clear hk)
                                          (try clear hi)
                                          refine hK.out _ _ ⟨(blk_cell BK208.out 0).trans rfl, (blk_cell BK208.out 1).trans rfl, (blk_cell BK208.out 2).trans rfl, (blk_cell BK213.out 0).trans rfl, (blk_cell BK213.out 1).trans rfl, (blk_cell BK213.out 2).trans rfl, ((HB.out.cell (World.block_lt_of_cell? w _ hw221_0)).trans hw221_0), ((HB.out.cell (World.block_lt_of_cell? w _ hw221_1)).trans hw221_1), ((HB.out.cell (World.block_lt_of_cell? w _ hw221_2)).trans hw221_2), ((HB.out.cell (World.block_lt_of_cell? w _ hw223_0)).trans hw223_0), ((HB.out.cell (World.block_lt_of_cell? w _ hw223_1)).trans hw223_1), ((HB.out.cell (World.block_lt_of_cell? w _ hw223_2)).trans hw223_2)⟩ (fun hHeld => ?_)
                                          clear hK K
                                          refine norm_ (a' := ?_) ?_ ?_
                                          rotate_left
                                          · show Act.put _ (some 92) _ = _
                                            simp only [Act.put, List.setIfInBounds_toArray, List.set_cons_zero, List.set_cons_succ, i64_w, i32_w]
                                            rfl
                                          refine pure_ (i := 14) (N := some 93) (v := ?_) (a' := ?_) #[true, true, true, true, true, true, true, true, true, true, true, true, true, true, true, false] rfl rfl (any_of HT_.out (by kernel_rfl)) (fun _ _ _ h => h) (Or.inl ⟨by rfl, ?_⟩) ?_ ?_
                                          rotate_left
                                          · intro w'
                                            go_simp
                                            with_reducible rfl
                                          rotate_left
                                          · simp only [Act.put, List.setIfInBounds_toArray, List.set_cons_zero, List.set_cons_succ, i64_w, i32_w]
                                            rfl
                                          refine pure_ (i := 15) (N := some 94) (v := ?_) (a' := ?_) #[true, true, true, true, true, true, true, true, true, true, true, true, true, true, true, true] rfl rfl (any_of HT_.out (by kernel_rfl)) (fun _ _ _ h => h) (Or.inl ⟨by rfl, ?_⟩) ?_ ?_
                                          rotate_left
                                          · intro w'
                                            go_simp
                                            with_reducible rfl
                                          rotate_left
                                          · simp only [Act.put, List.setIfInBounds_toArray, List.set_cons_zero, List.set_cons_succ, i64_w, i32_w]
                                            rfl
                                          refine done_ (done_of HT_.out (by kernel_rfl)) ?_
                                          try go_wp2
                                          have n0_ := Aside0.mk (blk_drew BK208.out)
                                          have n1_ := Aside0.mk (blk_drew BK213.out)
                                          have n2_ := Aside0.mk (blk_drew BK218.out)
                                          have n3_ := Aside0.mk (below_drew1 HB.out)
                                          clear BK208
                                          clear BK213
                                          clear BK218
                                          clear HB
                                          have BK208 := n0_
                                          have BK213 := n1_
                                          have BK218 := n2_
                                          have HB := n3_
                                          clear n0_ n1_ n2_ n3_
                                          have p225 : 0 ≤ (x56_2 : Int) := of_decide_eq_true (by first | (with_reducible assumption) | assumption)
                                          have q225 : x56_2 < (l0.length : Int) := of_decide_eq_true (by first | (with_reducible assumption) | assumption)
                                          obtain ⟨ad225, e225, hx225_0, hx225_1, hx225_2⟩ := at_T27 HR0.out x56_2 p225 q225
                                          have hw225_2 := hx225_2
                                          have hw225_1 := hx225_1
                                          have hw225_0 := hx225_0
                                          obtain rfl : ad221 = ad225 := (by injection e225)
                                          replace hx225_0 := (HB.out.cell (World.block_lt_of_cell? w _ hx225_0)).trans hx225_0
                                          replace hx225_1 := (HB.out.cell (World.block_lt_of_cell? w _ hx225_1)).trans hx225_1
                                          replace hx225_2 := (HB.out.cell (World.block_lt_of_cell? w _ hx225_2)).trans hx225_2
                                          replace p225 := eq_true p225
                                          replace q225 := eq_true q225
                                          refine start_ (n := 20) (S := fun w' => w'.cell? ⟨gb213, 0, none⟩ = some (.int .i64 t209) ∧ w'.cell? ⟨gb213, 1, none⟩ = some (.int .i64 t210) ∧ w'.cell? ⟨gb213, 2, none⟩ = some (.string t211) ∧ w'.cell? (ad221.add ((x56_2).toNat * 3)) = some (.int .i64 ((rd_T27 l0 x56_2).f0)) ∧ w'.cell? ⟨(ad221.add ((x56_2).toNat * 3)).block, (ad221.add ((x56_2).toNat * 3)).off + 1, none⟩ = some (.int .i64 ((rd_T27 l0 x56_2).f1)) ∧ w'.cell? ⟨(ad221.add ((x56_2).toNat * 3)).block, (ad221.add ((x56_2).toNat * 3)).off + 2, none⟩ = some (.string ((rd_T27 l0 x56_2).f2))) (ds := []) #[false, false, false, false, false, false, false, false, false, false, false, false, false, false, false, false, false, false, false, false] (by kernel_rfl) rfl rfl ⟨(blk_cell BK213.out 0).trans rfl, (blk_cell BK213.out 1).trans rfl, (blk_cell BK213.out 2).trans rfl, ((HB.out.cell (World.block_lt_of_cell? w _ hw225_0)).trans hw225_0), ((HB.out.cell (World.block_lt_of_cell? w _ hw225_1)).trans hw225_1), ((HB.out.cell (World.block_lt_of_cell? w _ hw225_2)).trans hw225_2)⟩ (fun hHeld => ?_); refine with_tabW antecedentlaw20_FoldEnds.tab25 antecedentlaw20_FoldEnds.bits25 (fun HT_ HW_ => ?_)
                                          generalize w54.drew = w55 at BK208 BK213 BK218 HB hx225_0 hx225_1 hx225_2 hHeld ⊢
                                          refine pure_ (i := 0) (N := some 95) (v := ?_) (a' := ?_) #[true, false, false, false, false, false, false, false, false, false, false, false, false, false, false, false, false, false, false, false] rfl rfl (any_of HT_.out (by kernel_rfl)) (fun _ _ _ h => h) (Or.inl ⟨by rfl, ?_⟩) ?_ ?_
                                          rotate_left
                                          · intro w'
                                            go_simp
                                            with_reducible rfl
                                          rotate_left
                                          · simp only [Act.put, List.setIfInBounds_toArray, List.set_cons_zero, List.set_cons_succ, i64_w, i32_w]
                                            rfl
                                          refine pure_ (i := 1) (N := some 96) (v := ?_) (a' := ?_) #[true, true, false, false, false, false, false, false, false, false, false, false, false, false, false, false, false, false, false, false] rfl rfl (any_of HT_.out (by kernel_rfl)) (fun _ _ _ h => h) (Or.inl ⟨by rfl, ?_⟩) ?_ ?_
                                          rotate_left
                                          · intro w'
                                            go_simp
                                            with_reducible rfl
                                          rotate_left
                                          · simp only [Act.put, List.setIfInBounds_toArray, List.set_cons_zero, List.set_cons_succ, i64_w, i32_w]
                                            rfl
                                          refine pure_ (i := 2) (N := some 97) (v := undef) (a' := ?_) #[true, true, true, false, false, false, false, false, false, false, false, false, false, false, false, false, false, false, false, false] rfl rfl (any_of HT_.out (by kernel_rfl)) (fun _ _ _ h => h) (Or.inr ⟨by rfl, rfl⟩) ?_ ?_
                                          rotate_left
                                          · simp only [Act.put, List.setIfInBounds_toArray, List.set_cons_zero, List.set_cons_succ, i64_w, i32_w]
                                            rfl
                                          refine pure_ (i := 3) (N := some 98) (v := undef) (a' := ?_) #[true, true, true, true, false, false, false, false, false, false, false, false, false, false, false, false, false, false, false, false] rfl rfl (any_of HT_.out (by kernel_rfl)) (fun _ _ _ h => h) (Or.inr ⟨by rfl, rfl⟩) ?_ ?_
                                          rotate_left
                                          · simp only [Act.put, List.setIfInBounds_toArray, List.set_cons_zero, List.set_cons_succ, i64_w, i32_w]
                                            rfl
                                          refine pure_ (i := 4) (N := some 99) (v := undef) (a' := ?_) #[true, true, true, true, true, false, false, false, false, false, false, false, false, false, false, false, false, false, false, false] rfl rfl (any_of HT_.out (by kernel_rfl)) (fun _ _ _ h => h) (Or.inr ⟨by rfl, rfl⟩) ?_ ?_
                                          rotate_left
                                          · simp only [Act.put, List.setIfInBounds_toArray, List.set_cons_zero, List.set_cons_succ, i64_w, i32_w]
                                            rfl
                                          refine pure_ (i := 5) (N := some 100) (v := undef) (a' := ?_) #[true, true, true, true, true, true, false, false, false, false, false, false, false, false, false, false, false, false, false, false] rfl rfl (any_of HT_.out (by kernel_rfl)) (fun _ _ _ h => h) (Or.inr ⟨by rfl, rfl⟩) ?_ ?_
                                          rotate_left
                                          · simp only [Act.put, List.setIfInBounds_toArray, List.set_cons_zero, List.set_cons_succ, i64_w, i32_w]
                                            rfl
                                          refine pure_ (i := 6) (N := some 101) (v := undef) (a' := ?_) #[true, true, true, true, true, true, true, false, false, false, false, false, false, false, false, false, false, false, false, false] rfl rfl (any_of HT_.out (by kernel_rfl)) (fun _ _ _ h => h) (Or.inr ⟨by rfl, rfl⟩) ?_ ?_
                                          rotate_left
                                          · simp only [Act.put, List.setIfInBounds_toArray, List.set_cons_zero, List.set_cons_succ, i64_w, i32_w]
                                            rfl
                                          refine pure_ (i := 7) (N := some 102) (v := undef) (a' := ?_) #[true, true, true, true, true, true, true, true, false, false, false, false, false, false, false, false, false, false, false, false] rfl rfl (any_of HT_.out (by kernel_rfl)) (fun _ _ _ h => h) (Or.inr ⟨by rfl, rfl⟩) ?_ ?_
                                          rotate_left
                                          · simp only [Act.put, List.setIfInBounds_toArray, List.set_cons_zero, List.set_cons_succ, i64_w, i32_w]
                                            rfl
                                          refine pure_ (i := 8) (N := some 103) (v := ?_) (a' := ?_) #[true, true, true, true, true, true, true, true, true, false, false, false, false, false, false, false, false, false, false, false] rfl rfl (any_of HT_.out (by kernel_rfl)) (fun _ _ _ h => h) (Or.inl ⟨by rfl, ?_⟩) ?_ ?_
                                          rotate_left
                                          · intro w'
                                            go_simp
                                            with_reducible rfl
                                          rotate_left
                                          · simp only [Act.put, List.setIfInBounds_toArray, List.set_cons_zero, List.set_cons_succ, i64_w, i32_w]
                                            rfl
                                          refine pure_ (i := 9) (N := some 104) (v := ?_) (a' := ?_) #[true, true, true, true, true, true, true, true, true, true, false, false, false, false, false, false, false, false, false, false] rfl rfl (any_of HT_.out (by kernel_rfl)) (fun _ _ _ h => h) (Or.inl ⟨by rfl, ?_⟩) ?_ ?_
                                          rotate_left
                                          · intro w'
                                            go_simp
                                            with_reducible rfl
                                          rotate_left
                                          · simp only [Act.put, List.setIfInBounds_toArray, List.set_cons_zero, List.set_cons_succ, i64_w, i32_w]
                                            rfl
                                          refine pure_ (i := 10) (N := some 105) (v := ?_) (a' := ?_) #[true, true, true, true, true, true, true, true, true, true, true, false, false, false, false, false, false, false, false, false] rfl rfl (any_of HT_.out (by kernel_rfl)) (fun _ _ _ h => h) (Or.inl ⟨by rfl, ?_⟩) ?_ ?_
                                          rotate_left
                                          · intro w'
                                            go_simp
                                            with_reducible rfl
                                          rotate_left
                                          · simp only [Act.put, List.setIfInBounds_toArray, List.set_cons_zero, List.set_cons_succ, i64_w, i32_w]
                                            rfl
                                          refine pure_ (i := 11) (N := some 106) (v := ?_) (a' := ?_) #[true, true, true, true, true, true, true, true, true, true, true, true, false, false, false, false, false, false, false, false] rfl rfl (any_of HT_.out (by kernel_rfl)) (fun _ _ _ h => h) (Or.inl ⟨by rfl, ?_⟩) ?_ ?_
                                          rotate_left
                                          · intro w'
                                            go_simp
                                            with_reducible rfl
                                          rotate_left
                                          · simp only [Act.put, List.setIfInBounds_toArray, List.set_cons_zero, List.set_cons_succ, i64_w, i32_w]
                                            rfl
                                          refine pure_ (i := 12) (N := some 107) (v := ?_) (a' := ?_) #[true, true, true, true, true, true, true, true, true, true, true, true, true, false, false, false, false, false, false, false] rfl rfl (any_of HT_.out (by kernel_rfl)) (fun _ _ _ h => h) (Or.inl ⟨by rfl, ?_⟩) ?_ ?_
                                          rotate_left
                                          · intro w'
                                            go_simp
                                            with_reducible rfl
                                          rotate_left
                                          · simp only [Act.put, List.setIfInBounds_toArray, List.set_cons_zero, List.set_cons_succ, i64_w, i32_w]
                                            rfl
                                          refine pure_ (i := 13) (N := some 108) (v := ?_) (a' := ?_) #[true, true, true, true, true, true, true, true, true, true, true, true, true, true, false, false, false, false, false, false] rfl rfl (any_of HT_.out (by kernel_rfl)) (fun _ _ _ h => h) (Or.inl ⟨by rfl, ?_⟩) ?_ ?_
                                          rotate_left
                                          · intro w'
                                            go_simp
                                            with_reducible rfl
                                          rotate_left
                                          · simp only [Act.put, List.setIfInBounds_toArray, List.set_cons_zero, List.set_cons_succ, i64_w, i32_w]
                                            rfl
                                          refine pure_ (i := 18) (N := some 10) (v := ?_) (a' := ?_) #[true, true, true, true, true, true, true, true, true, true, true, true, true, true, false, false, false, false, true, false] rfl rfl (any_of HT_.out (by kernel_rfl)) (fun _ _ _ h => h) (Or.inl ⟨by rfl, ?_⟩) ?_ ?_
                                          rotate_left
                                          · intro w'
                                            go_simp
                                            with_reducible rfl
                                          rotate_left
                                          · simp only [Act.put, List.setIfInBounds_toArray, List.set_cons_zero, List.set_cons_succ, i64_w, i32_w]
                                            rfl
                                          refine take_ (i := 14) (N := some 109) (v := ?_) (a' := ?_) #[true, true, true, true, true, true, true, true, true, true, true, true, true, true, true, false, false, false, true, false] rfl rfl (take_ofW HT_.out HW_.out (by kernel_rfl)) (fun _ _ _ h => h) (Or.inl ⟨by rfl, ?_⟩) hHeld ?_ ?_
                                          rotate_left
                                          · rintro w' ⟨s0, s1, s2, s3, s4, s5⟩
                                            go_simp
                                            with_reducible rfl
                                          rotate_left
                                          · simp only [Act.put, List.setIfInBounds_toArray, List.set_cons_zero, List.set_cons_succ, i64_w, i32_w]
                                            rfl
                                          refine take_ (i := 15) (N := some 110) (v := ?_) (a' := ?_) #[true, true, true, true, true, true, true, true, true, true, true, true, true, true, true, true, false, false, true, false] rfl rfl (take_ofW HT_.out HW_.out (by kernel_rfl)) (fun _ _ _ h => h) (Or.inl ⟨by rfl, ?_⟩) hHeld ?_ ?_
                                          rotate_left
                                          · rintro w' ⟨s0, s1, s2, s3, s4, s5⟩
                                            go_simp
                                            with_reducible rfl
                                          rotate_left
                                          · simp only [Act.put, List.setIfInBounds_toArray, List.set_cons_zero, List.set_cons_succ, i64_w, i32_w]
                                            rfl
                                          refine pure_ (i := 16) (N := some 111) (v := ?_) (a' := ?_) #[true, true, true, true, true, true, true, true, true, true, true, true, true, true, true, true, true, false, true, false] rfl rfl (any_of HT_.out (by kernel_rfl)) (fun _ _ _ h => h) (Or.inl ⟨by rfl, ?_⟩) ?_ ?_
                                          rotate_left
                                          · intro w'
                                            go_simp
                                            with_reducible rfl
                                          rotate_left
                                          · simp only [Act.put, List.setIfInBounds_toArray, List.set_cons_zero, List.set_cons_succ, i64_w, i32_w]
                                            rfl
                                          refine pure_ (i := 17) (N := some 112) (v := ?_) (a' := ?_) #[true, true, true, true, true, true, true, true, true, true, true, true, true, true, true, true, true, true, true, false] rfl rfl (any_of HT_.out (by kernel_rfl)) (fun _ _ _ h => h) (Or.inl ⟨by rfl, ?_⟩) ?_ ?_
                                          rotate_left
                                          · intro w'
                                            go_simp
                                            with_reducible rfl
                                          rotate_left
                                          · simp only [Act.put, List.setIfInBounds_toArray, List.set_cons_zero, List.set_cons_succ, i64_w, i32_w]
                                            rfl
                                          refine pure_ (i := 19) (N := some 11) (v := ?_) (a' := ?_) #[true, true, true, true, true, true, true, true, true, true, true, true, true, true, true, true, true, true, true, true] rfl rfl (any_of HT_.out (by kernel_rfl)) (fun _ _ _ h => h) (Or.inl ⟨by rfl, ?_⟩) ?_ ?_
                                          rotate_left
                                          · intro w'
                                            go_simp
                                            with_reducible rfl
                                          rotate_left
                                          · simp only [Act.put, List.setIfInBounds_toArray, List.set_cons_zero, List.set_cons_succ, i64_w, i32_w]
                                            rfl
                                          refine done_ (done_of HT_.out (by kernel_rfl)) ?_
                                          try go_wp2
                                          go_roundg kj37
                                          case measure => have := HJ11.out; have := HK2.out; have := HK3.out; have := HJ37.out; omega
                                          case rel => exact ⟨(x9_37), (true), ((((rd_T27 l0 x56_2).f0) == t209 && (((rd_T27 l0 x56_2).f1) == t210 && ((((rd_T27 l0 x56_2).f2).toList) == t211.toList)))), (wrap64 (x56_2 + 1)), (by first | rfl | (simp; done) | (simp [*]; done)), (by first | rfl | (simp; done) | (simp [*]; done)), (by first | rfl | (simp; done) | (simp [*]; done)), (by first | rfl | (simp; done) | (simp [*]; done)), H', ⟨by have := HJ11.out; have := HK2.out; have := HK3.out; have := HJ37.out; omega⟩, ⟨by (with_reducible repeat (first | refine blk_drewN ?_ _ | refine blk_drew ?_ | refine blk_alloc ?_ _)); exact BK208.out⟩, ⟨by (with_reducible repeat (first | refine blk_drewN ?_ _ | refine blk_drew ?_ | refine blk_alloc ?_ _)); exact BK213.out⟩, ⟨by (with_reducible repeat (first | refine blk_drewN ?_ _ | refine blk_drew ?_ | refine blk_alloc ?_ _)); exact BK218.out⟩, ⟨by repeat (first | (with_reducible first | exact HB.out | apply below_alloc | apply pw_below_drewN | apply below_drew1 | refine below_set ?_ GE208.out | refine below_set ?_ GE213.out | refine below_set ?_ GE218.out) | exact HB.out)⟩⟩
                                      · replace c46 := Bool.eq_false_iff.mpr c46
                                        subst c46
                                        have H1 : (if x11_2 = true then (antecedentlaw20_FoldEnds.l0 kj37 l0 x9_37 (((rd_T27 l0 x56_2).f0) == t204 && (((rd_T27 l0 x56_2).f1) == t205 && ((((rd_T27 l0 x56_2).f2).toList) == t206.toList))) true (l0.length : Int) (wrap64 (x56_2 + 1)) t204 t205 t206 t209 t210 t211 t214 t215 t216) else (antecedentlaw20_FoldEnds.l0 kj37 l0 x9_37 (((rd_T27 l0 x56_2).f0) == t204 && (((rd_T27 l0 x56_2).f1) == t205 && ((((rd_T27 l0 x56_2).f2).toList) == t206.toList))) (((rd_T27 l0 x56_2).f0) == t209 && (((rd_T27 l0 x56_2).f1) == t210 && ((((rd_T27 l0 x56_2).f2).toList) == t211.toList))) (l0.length : Int) (wrap64 (x56_2 + 1)) t204 t205 t206 t209 t210 t211 t214 t215 t216)) = some r := by rw [if_neg (show ¬ (false = true) by decide)] at H; exact H
                                        clear H
                                        have H := H1
                                        clear H1
                                        by_cases c56 : x11_2 = true
                                        · subst c56
                                          have H1 : (antecedentlaw20_FoldEnds.l0 kj37 l0 x9_37 (((rd_T27 l0 x56_2).f0) == t204 && (((rd_T27 l0 x56_2).f1) == t205 && ((((rd_T27 l0 x56_2).f2).toList) == t206.toList))) true (l0.length : Int) (wrap64 (x56_2 + 1)) t204 t205 t206 t209 t210 t211 t214 t215 t216) = some r := by rw [if_pos rfl] at H; exact H
                                          clear H
                                          have H := H1
                                          clear H1
                                          have H' := Aside0.mk H
                                          clear H
                                          try go_wp2
                                          have n0_ := Aside0.mk (blk_drew BK208.out)
                                          have n1_ := Aside0.mk (blk_drew BK213.out)
                                          have n2_ := Aside0.mk (blk_drew BK218.out)
                                          have n3_ := Aside0.mk (below_drew1 HB.out)
                                          clear BK208
                                          clear BK213
                                          clear BK218
                                          clear HB
                                          have BK208 := n0_
                                          have BK213 := n1_
                                          have BK218 := n2_
                                          have HB := n3_
                                          clear n0_ n1_ n2_ n3_
                                          have p221 : 0 ≤ (x56_2 : Int) := of_decide_eq_true (by first | (with_reducible assumption) | assumption)
                                          have q221 : x56_2 < (l0.length : Int) := of_decide_eq_true (by first | (with_reducible assumption) | assumption)
                                          obtain ⟨ad221, e221, hx221_0, hx221_1, hx221_2⟩ := at_T27 HR0.out x56_2 p221 q221
                                          have hw221_2 := hx221_2
                                          have hw221_1 := hx221_1
                                          have hw221_0 := hx221_0
                                          cases e221
                                          replace hx221_0 := (HB.out.cell (World.block_lt_of_cell? w _ hx221_0)).trans hx221_0
                                          replace hx221_1 := (HB.out.cell (World.block_lt_of_cell? w _ hx221_1)).trans hx221_1
                                          replace hx221_2 := (HB.out.cell (World.block_lt_of_cell? w _ hx221_2)).trans hx221_2
                                          replace p221 := eq_true p221
                                          replace q221 := eq_true q221
                                          have p223 : 0 ≤ (x56_2 : Int) := of_decide_eq_true (by first | (with_reducible assumption) | assumption)
                                          have q223 : x56_2 < (l0.length : Int) := of_decide_eq_true (by first | (with_reducible assumption) | assumption)
                                          obtain ⟨ad223, e223, hx223_0, hx223_1, hx223_2⟩ := at_T27 HR0.out x56_2 p223 q223
                                          have hw223_2 := hx223_2
                                          have hw223_1 := hx223_1
                                          have hw223_0 := hx223_0
                                          obtain rfl : ad221 = ad223 := (by injection e223)
                                          replace hx223_0 := (HB.out.cell (World.block_lt_of_cell? w _ hx223_0)).trans hx223_0
                                          replace hx223_1 := (HB.out.cell (World.block_lt_of_cell? w _ hx223_1)).trans hx223_1
                                          replace hx223_2 := (HB.out.cell (World.block_lt_of_cell? w _ hx223_2)).trans hx223_2
                                          replace p223 := eq_true p223
                                          replace q223 := eq_true q223
                                          refine start_ (n := 16) (S := fun w' => w'.cell? ⟨gb208, 0, none⟩ = some (.int .i64 t204) ∧ w'.cell? ⟨gb208, 1, none⟩ = some (.int .i64 t205) ∧ w'.cell? ⟨gb208, 2, none⟩ = some (.string t206) ∧ w'.cell? ⟨gb213, 0, none⟩ = some (.int .i64 t209) ∧ w'.cell? ⟨gb213, 1, none⟩ = some (.int .i64 t210) ∧ w'.cell? ⟨gb213, 2, none⟩ = some (.string t211) ∧ w'.cell? (ad221.add ((x56_2).toNat * 3)) = some (.int .i64 ((rd_T27 l0 x56_2).f0)) ∧ w'.cell? ⟨(ad221.add ((x56_2).toNat * 3)).block, (ad221.add ((x56_2).toNat * 3)).off + 1, none⟩ = some (.int .i64 ((rd_T27 l0 x56_2).f1)) ∧ w'.cell? ⟨(ad221.add ((x56_2).toNat * 3)).block, (ad221.add ((x56_2).toNat * 3)).off + 2, none⟩ = some (.string ((rd_T27 l0 x56_2).f2)) ∧ w'.cell? (ad221.add ((x56_2).toNat * 3)) = some (.int .i64 ((rd_T27 l0 x56_2).f0)) ∧ w'.cell? ⟨(ad221.add ((x56_2).toNat * 3)).block, (ad221.add ((x56_2).toNat * 3)).off + 1, none⟩ = some (.int .i64 ((rd_T27 l0 x56_2).f1)) ∧ w'.cell? ⟨(ad221.add ((x56_2).toNat * 3)).block, (ad221.add ((x56_2).toNat * 3)).off + 2, none⟩ = some (.string ((rd_T27 l0 x56_2).f2))) (ds := []) #[false, false, false, false, false, false, false, false, false, false, false, false, false, false, false, false] (by kernel_rfl) rfl rfl ⟨(blk_cell BK208.out 0).trans rfl, (blk_cell BK208.out 1).trans rfl, (blk_cell BK208.out 2).trans rfl, (blk_cell BK213.out 0).trans rfl, (blk_cell BK213.out 1).trans rfl, (blk_cell BK213.out 2).trans rfl, ((HB.out.cell (World.block_lt_of_cell? w _ hw221_0)).trans hw221_0), ((HB.out.cell (World.block_lt_of_cell? w _ hw221_1)).trans hw221_1), ((HB.out.cell (World.block_lt_of_cell? w _ hw221_2)).trans hw221_2), ((HB.out.cell (World.block_lt_of_cell? w _ hw223_0)).trans hw223_0), ((HB.out.cell (World.block_lt_of_cell? w _ hw223_1)).trans hw223_1), ((HB.out.cell (World.block_lt_of_cell? w _ hw223_2)).trans hw223_2)⟩ (fun hHeld => ?_); refine with_tabW antecedentlaw20_FoldEnds.tab23 antecedentlaw20_FoldEnds.bits23 (fun HT_ HW_ => ?_)
                                          generalize wc.drew = w57 at BK208 BK213 BK218 HB hx221_0 hx221_1 hx221_2 hx223_0 hx223_1 hx223_2 hHeld ⊢
                                          refine pure_ (i := 1) (N := some 80) (v := ?_) (a' := ?_) #[false, true, false, false, false, false, false, false, false, false, false, false, false, false, false, false] rfl rfl (any_of HT_.out (by kernel_rfl)) (fun _ _ _ h => h) (Or.inl ⟨by rfl, ?_⟩) ?_ ?_
                                          rotate_left
                                          · intro w'
                                            go_simp
                                            with_reducible rfl
                                          rotate_left
                                          · simp only [Act.put, List.setIfInBounds_toArray, List.set_cons_zero, List.set_cons_succ, i64_w, i32_w]
                                            rfl
                                          refine pure_ (i := 2) (N := some 81) (v := ?_) (a' := ?_) #[false, true, true, false, false, false, false, false, false, false, false, false, false, false, false, false] rfl rfl (any_of HT_.out (by kernel_rfl)) (fun _ _ _ h => h) (Or.inl ⟨by rfl, ?_⟩) ?_ ?_
                                          rotate_left
                                          · intro w'
                                            go_simp
                                            with_reducible rfl
                                          rotate_left
                                          · simp only [Act.put, List.setIfInBounds_toArray, List.set_cons_zero, List.set_cons_succ, i64_w, i32_w]
                                            rfl
                                          refine pure_ (i := 3) (N := some 82) (v := ?_) (a' := ?_) #[false, true, true, true, false, false, false, false, false, false, false, false, false, false, false, false] rfl rfl (any_of HT_.out (by kernel_rfl)) (fun _ _ _ h => h) (Or.inl ⟨by rfl, ?_⟩) ?_ ?_
                                          rotate_left
                                          · intro w'
                                            go_simp
                                            with_reducible rfl
                                          rotate_left
                                          · simp only [Act.put, List.setIfInBounds_toArray, List.set_cons_zero, List.set_cons_succ, i64_w, i32_w]
                                            rfl
                                          refine take_ (i := 0) (N := some 79) (v := ?_) (a' := ?_) #[true, true, true, true, false, false, false, false, false, false, false, false, false, false, false, false] rfl rfl (take_ofW HT_.out HW_.out (by kernel_rfl)) (fun _ _ _ h => h) (Or.inl ⟨by rfl, ?_⟩) hHeld ?_ ?_
                                          rotate_left
                                          · rintro w' ⟨s0, s1, s2, s3, s4, s5, s6, s7, s8, s9, s10, s11⟩
                                            go_simp
                                            with_reducible rfl
                                          rotate_left
                                          · simp only [Act.put, List.setIfInBounds_toArray, List.set_cons_zero, List.set_cons_succ, i64_w, i32_w]
                                            rfl
                                          refine take_ (i := 4) (N := some 83) (v := ?_) (a' := ?_) #[true, true, true, true, true, false, false, false, false, false, false, false, false, false, false, false] rfl rfl (take_ofW HT_.out HW_.out (by kernel_rfl)) (fun _ _ _ h => h) (Or.inl ⟨by rfl, ?_⟩) hHeld ?_ ?_
                                          rotate_left
                                          · rintro w' ⟨s0, s1, s2, s3, s4, s5, s6, s7, s8, s9, s10, s11⟩
                                            go_simp
                                            with_reducible rfl
                                          rotate_left
                                          · simp only [Act.put, List.setIfInBounds_toArray, List.set_cons_zero, List.set_cons_succ, i64_w, i32_w]
                                            rfl
                                          refine one_ (i := 5) (N := some 84) #[true, true, true, true, true, true, false, false, false, false, false, false, false, false, false, false] rfl rfl (one_of HT_.out (by kernel_rfl)) (by decide) (fun K hK => ?_)
                                          refine goes_ Try.func13 (by kernel_rfl) rfl #[.agg #[.int .i64 t204, .int .i64 t205, .string t206], .agg #[.int .i64 ((rd_T27 l0 x56_2).f0), .int .i64 ((rd_T27 l0 x56_2).f1), .string ((rd_T27 l0 x56_2).f2)]] (by rfl) rfl rfl (by (try simp only [List.map_toArray, List.map_cons, List.map_nil]); first | done | rfl | (simp only [List.length_drop, List.length_take]; rfl)) ?_
                                          with_reducible refine (antecedentref02_Compare.calls t204 t205 t206 ((rd_T27 l0 x56_2).f0) ((rd_T27 l0 x56_2).f1) ((rd_T27 l0 x56_2).f2) t222 _ A42.out).mono ?_
                                          rintro e w58 ⟨rfl, hb⟩
                                          refine ⟨_, rfl, ?_⟩
                                          have n0_ := Aside0.mk (blk_below (g := gb208) (o := .cells #[.int .i64 t204, .int .i64 t205, .string t206] 27 (0, 0)) (by (with_reducible repeat (first | refine blk_drewN ?_ _ | refine blk_drew ?_ | refine blk_alloc ?_ _)); exact BK208.out) hb)
                                          have n1_ := Aside0.mk (blk_below (g := gb213) (o := .cells #[.int .i64 t209, .int .i64 t210, .string t211] 27 (0, 0)) (by (with_reducible repeat (first | refine blk_drewN ?_ _ | refine blk_drew ?_ | refine blk_alloc ?_ _)); exact BK213.out) hb)
                                          have n2_ := Aside0.mk (blk_below (g := gb218) (o := .cells #[.int .i64 t214, .int .i64 t215, .string t216] 27 (0, 0)) (by (with_reducible repeat (first | refine blk_drewN ?_ _ | refine blk_drew ?_ | refine blk_alloc ?_ _)); exact BK218.out) hb)
                                          have n3_ := Aside0.mk (below_step (by repeat (first | (with_reducible first | exact HB.out | apply below_alloc | apply pw_below_drewN | apply below_drew1 | refine below_set ?_ GE208.out | refine below_set ?_ GE213.out | refine below_set ?_ GE218.out) | exact HB.out)) hb)
                                          clear BK208
                                          clear BK213
                                          clear BK218
                                          clear HB
                                          have BK208 := n0_
                                          have BK213 := n1_
                                          have BK218 := n2_
                                          have HB := n3_
                                          clear n0_ n1_ n2_ n3_
                                          (try clear hb)
                                          (try clear hb2)
                                          (try clear hk)
                                          (try clear hi)
                                          refine hK.out _ _ ⟨(blk_cell BK208.out 0).trans rfl, (blk_cell BK208.out 1).trans rfl, (blk_cell BK208.out 2).trans rfl, (blk_cell BK213.out 0).trans rfl, (blk_cell BK213.out 1).trans rfl, (blk_cell BK213.out 2).trans rfl, ((HB.out.cell (World.block_lt_of_cell? w _ hw221_0)).trans hw221_0), ((HB.out.cell (World.block_lt_of_cell? w _ hw221_1)).trans hw221_1), ((HB.out.cell (World.block_lt_of_cell? w _ hw221_2)).trans hw221_2), ((HB.out.cell (World.block_lt_of_cell? w _ hw223_0)).trans hw223_0), ((HB.out.cell (World.block_lt_of_cell? w _ hw223_1)).trans hw223_1), ((HB.out.cell (World.block_lt_of_cell? w _ hw223_2)).trans hw223_2)⟩ (fun hHeld => ?_)
                                          clear hK K
                                          refine norm_ (a' := ?_) ?_ ?_
                                          rotate_left
                                          · show Act.put _ (some 84) _ = _
                                            simp only [Act.put, List.setIfInBounds_toArray, List.set_cons_zero, List.set_cons_succ, i64_w, i32_w]
                                            rfl
                                          refine pure_ (i := 6) (N := some 85) (v := ?_) (a' := ?_) #[true, true, true, true, true, true, true, false, false, false, false, false, false, false, false, false] rfl rfl (any_of HT_.out (by kernel_rfl)) (fun _ _ _ h => h) (Or.inl ⟨by rfl, ?_⟩) ?_ ?_
                                          rotate_left
                                          · intro w'
                                            go_simp
                                            with_reducible rfl
                                          rotate_left
                                          · simp only [Act.put, List.setIfInBounds_toArray, List.set_cons_zero, List.set_cons_succ, i64_w, i32_w]
                                            rfl
                                          refine pure_ (i := 7) (N := some 86) (v := ?_) (a' := ?_) #[true, true, true, true, true, true, true, true, false, false, false, false, false, false, false, false] rfl rfl (any_of HT_.out (by kernel_rfl)) (fun _ _ _ h => h) (Or.inl ⟨by rfl, ?_⟩) ?_ ?_
                                          rotate_left
                                          · intro w'
                                            go_simp
                                            with_reducible rfl
                                          rotate_left
                                          · simp only [Act.put, List.setIfInBounds_toArray, List.set_cons_zero, List.set_cons_succ, i64_w, i32_w]
                                            rfl
                                          refine pure_ (i := 8) (N := some 87) (v := ?_) (a' := ?_) #[true, true, true, true, true, true, true, true, true, false, false, false, false, false, false, false] rfl rfl (any_of HT_.out (by kernel_rfl)) (fun _ _ _ h => h) (Or.inl ⟨by rfl, ?_⟩) ?_ ?_
                                          rotate_left
                                          · intro w'
                                            go_simp
                                            with_reducible rfl
                                          rotate_left
                                          · simp only [Act.put, List.setIfInBounds_toArray, List.set_cons_zero, List.set_cons_succ, i64_w, i32_w]
                                            rfl
                                          refine pure_ (i := 9) (N := some 88) (v := ?_) (a' := ?_) #[true, true, true, true, true, true, true, true, true, true, false, false, false, false, false, false] rfl rfl (any_of HT_.out (by kernel_rfl)) (fun _ _ _ h => h) (Or.inl ⟨by rfl, ?_⟩) ?_ ?_
                                          rotate_left
                                          · intro w'
                                            go_simp
                                            with_reducible rfl
                                          rotate_left
                                          · simp only [Act.put, List.setIfInBounds_toArray, List.set_cons_zero, List.set_cons_succ, i64_w, i32_w]
                                            rfl
                                          refine pure_ (i := 10) (N := some 89) (v := ?_) (a' := ?_) #[true, true, true, true, true, true, true, true, true, true, true, false, false, false, false, false] rfl rfl (any_of HT_.out (by kernel_rfl)) (fun _ _ _ h => h) (Or.inl ⟨by rfl, ?_⟩) ?_ ?_
                                          rotate_left
                                          · intro w'
                                            go_simp
                                            with_reducible rfl
                                          rotate_left
                                          · simp only [Act.put, List.setIfInBounds_toArray, List.set_cons_zero, List.set_cons_succ, i64_w, i32_w]
                                            rfl
                                          refine take_ (i := 11) (N := some 90) (v := ?_) (a' := ?_) #[true, true, true, true, true, true, true, true, true, true, true, true, false, false, false, false] rfl rfl (take_ofW HT_.out HW_.out (by kernel_rfl)) (fun _ _ _ h => h) (Or.inl ⟨by rfl, ?_⟩) hHeld ?_ ?_
                                          rotate_left
                                          · rintro w' ⟨s0, s1, s2, s3, s4, s5, s6, s7, s8, s9, s10, s11⟩
                                            go_simp
                                            with_reducible rfl
                                          rotate_left
                                          · simp only [Act.put, List.setIfInBounds_toArray, List.set_cons_zero, List.set_cons_succ, i64_w, i32_w]
                                            rfl
                                          refine take_ (i := 12) (N := some 91) (v := ?_) (a' := ?_) #[true, true, true, true, true, true, true, true, true, true, true, true, true, false, false, false] rfl rfl (take_ofW HT_.out HW_.out (by kernel_rfl)) (fun _ _ _ h => h) (Or.inl ⟨by rfl, ?_⟩) hHeld ?_ ?_
                                          rotate_left
                                          · rintro w' ⟨s0, s1, s2, s3, s4, s5, s6, s7, s8, s9, s10, s11⟩
                                            go_simp
                                            with_reducible rfl
                                          rotate_left
                                          · simp only [Act.put, List.setIfInBounds_toArray, List.set_cons_zero, List.set_cons_succ, i64_w, i32_w]
                                            rfl
                                          refine one_ (i := 13) (N := some 92) #[true, true, true, true, true, true, true, true, true, true, true, true, true, true, false, false] rfl rfl (one_of HT_.out (by kernel_rfl)) (by decide) (fun K hK => ?_)
                                          refine goes_ Try.func13 (by kernel_rfl) rfl #[.agg #[.int .i64 ((rd_T27 l0 x56_2).f0), .int .i64 ((rd_T27 l0 x56_2).f1), .string ((rd_T27 l0 x56_2).f2)], .agg #[.int .i64 t209, .int .i64 t210, .string t211]] (by rfl) rfl rfl (by (try simp only [List.map_toArray, List.map_cons, List.map_nil]); first | done | rfl | (simp only [List.length_drop, List.length_take]; rfl)) ?_
                                          with_reducible refine (antecedentref02_Compare.calls ((rd_T27 l0 x56_2).f0) ((rd_T27 l0 x56_2).f1) ((rd_T27 l0 x56_2).f2) t209 t210 t211 t224 _ A44.out).mono ?_
                                          rintro e w59 ⟨rfl, hb⟩
                                          refine ⟨_, rfl, ?_⟩
                                          have n0_ := Aside0.mk (blk_below (g := gb208) (o := .cells #[.int .i64 t204, .int .i64 t205, .string t206] 27 (0, 0)) (by (with_reducible repeat (first | refine blk_drewN ?_ _ | refine blk_drew ?_ | refine blk_alloc ?_ _)); exact BK208.out) hb)
                                          have n1_ := Aside0.mk (blk_below (g := gb213) (o := .cells #[.int .i64 t209, .int .i64 t210, .string t211] 27 (0, 0)) (by (with_reducible repeat (first | refine blk_drewN ?_ _ | refine blk_drew ?_ | refine blk_alloc ?_ _)); exact BK213.out) hb)
                                          have n2_ := Aside0.mk (blk_below (g := gb218) (o := .cells #[.int .i64 t214, .int .i64 t215, .string t216] 27 (0, 0)) (by (with_reducible repeat (first | refine blk_drewN ?_ _ | refine blk_drew ?_ | refine blk_alloc ?_ _)); exact BK218.out) hb)
                                          have n3_ := Aside0.mk (below_step (by repeat (first | (with_reducible first | exact HB.out | apply below_alloc | apply pw_below_drewN | apply below_drew1 | refine below_set ?_ GE208.out | refine below_set ?_ GE213.out | refine below_set ?_ GE218.out) | exact HB.out)) hb)
                                          clear BK208
                                          clear BK213
                                          clear BK218
                                          clear HB
                                          have BK208 := n0_
                                          have BK213 := n1_
                                          have BK218 := n2_
                                          have HB := n3_
                                          clear n0_ n1_ n2_ n3_
                                          (try clear hb)
                                          (try clear hb2)
                                          (try clear hk)
                                          (try clear hi)
                                          refine hK.out _ _ ⟨(blk_cell BK208.out 0).trans rfl, (blk_cell BK208.out 1).trans rfl, (blk_cell BK208.out 2).trans rfl, (blk_cell BK213.out 0).trans rfl, (blk_cell BK213.out 1).trans rfl, (blk_cell BK213.out 2).trans rfl, ((HB.out.cell (World.block_lt_of_cell? w _ hw221_0)).trans hw221_0), ((HB.out.cell (World.block_lt_of_cell? w _ hw221_1)).trans hw221_1), ((HB.out.cell (World.block_lt_of_cell? w _ hw221_2)).trans hw221_2), ((HB.out.cell (World.block_lt_of_cell? w _ hw223_0)).trans hw223_0), ((HB.out.cell (World.block_lt_of_cell? w _ hw223_1)).trans hw223_1), ((HB.out.cell (World.block_lt_of_cell? w _ hw223_2)).trans hw223_2)⟩ (fun hHeld => ?_)
                                          clear hK K
                                          refine norm_ (a' := ?_) ?_ ?_
                                          rotate_left
                                          · show Act.put _ (some 92) _ = _
                                            simp only [Act.put, List.setIfInBounds_toArray, List.set_cons_zero, List.set_cons_succ, i64_w, i32_w]
                                            rfl
                                          refine pure_ (i := 14) (N := some 93) (v := ?_) (a' := ?_) #[true, true, true, true, true, true, true, true, true, true, true, true, true, true, true, false] rfl rfl (any_of HT_.out (by kernel_rfl)) (fun _ _ _ h => h) (Or.inl ⟨by rfl, ?_⟩) ?_ ?_
                                          rotate_left
                                          · intro w'
                                            go_simp
                                            with_reducible rfl
                                          rotate_left
                                          · simp only [Act.put, List.setIfInBounds_toArray, List.set_cons_zero, List.set_cons_succ, i64_w, i32_w]
                                            rfl
                                          refine pure_ (i := 15) (N := some 94) (v := ?_) (a' := ?_) #[true, true, true, true, true, true, true, true, true, true, true, true, true, true, true, true] rfl rfl (any_of HT_.out (by kernel_rfl)) (fun _ _ _ h => h) (Or.inl ⟨by rfl, ?_⟩) ?_ ?_
                                          rotate_left
                                          · intro w'
                                            go_simp
                                            with_reducible rfl
                                          rotate_left
                                          · simp only [Act.put, List.setIfInBounds_toArray, List.set_cons_zero, List.set_cons_succ, i64_w, i32_w]
                                            rfl
                                          refine done_ (done_of HT_.out (by kernel_rfl)) ?_
                                          try go_wp2
                                          have n0_ := Aside0.mk (blk_drew BK208.out)
                                          have n1_ := Aside0.mk (blk_drew BK213.out)
                                          have n2_ := Aside0.mk (blk_drew BK218.out)
                                          have n3_ := Aside0.mk (below_drew1 HB.out)
                                          clear BK208
                                          clear BK213
                                          clear BK218
                                          clear HB
                                          have BK208 := n0_
                                          have BK213 := n1_
                                          have BK218 := n2_
                                          have HB := n3_
                                          clear n0_ n1_ n2_ n3_
                                          have p226 : 0 ≤ (x56_2 : Int) := of_decide_eq_true (by first | (with_reducible assumption) | assumption)
                                          have q226 : x56_2 < (l0.length : Int) := of_decide_eq_true (by first | (with_reducible assumption) | assumption)
                                          obtain ⟨ad226, e226, hx226_0, hx226_1, hx226_2⟩ := at_T27 HR0.out x56_2 p226 q226
                                          have hw226_2 := hx226_2
                                          have hw226_1 := hx226_1
                                          have hw226_0 := hx226_0
                                          obtain rfl : ad221 = ad226 := (by injection e226)
                                          replace hx226_0 := (HB.out.cell (World.block_lt_of_cell? w _ hx226_0)).trans hx226_0
                                          replace hx226_1 := (HB.out.cell (World.block_lt_of_cell? w _ hx226_1)).trans hx226_1
                                          replace hx226_2 := (HB.out.cell (World.block_lt_of_cell? w _ hx226_2)).trans hx226_2
                                          replace p226 := eq_true p226
                                          replace q226 := eq_true q226
                                          refine start_ (n := 20) (S := fun w' => w'.cell? ⟨gb208, 0, none⟩ = some (.int .i64 t204) ∧ w'.cell? ⟨gb208, 1, none⟩ = some (.int .i64 t205) ∧ w'.cell? ⟨gb208, 2, none⟩ = some (.string t206) ∧ w'.cell? (ad221.add ((x56_2).toNat * 3)) = some (.int .i64 ((rd_T27 l0 x56_2).f0)) ∧ w'.cell? ⟨(ad221.add ((x56_2).toNat * 3)).block, (ad221.add ((x56_2).toNat * 3)).off + 1, none⟩ = some (.int .i64 ((rd_T27 l0 x56_2).f1)) ∧ w'.cell? ⟨(ad221.add ((x56_2).toNat * 3)).block, (ad221.add ((x56_2).toNat * 3)).off + 2, none⟩ = some (.string ((rd_T27 l0 x56_2).f2))) (ds := []) #[false, false, false, false, false, false, false, false, false, false, false, false, false, false, false, false, false, false, false, false] (by kernel_rfl) rfl rfl ⟨(blk_cell BK208.out 0).trans rfl, (blk_cell BK208.out 1).trans rfl, (blk_cell BK208.out 2).trans rfl, ((HB.out.cell (World.block_lt_of_cell? w _ hw226_0)).trans hw226_0), ((HB.out.cell (World.block_lt_of_cell? w _ hw226_1)).trans hw226_1), ((HB.out.cell (World.block_lt_of_cell? w _ hw226_2)).trans hw226_2)⟩ (fun hHeld => ?_); refine with_tabW antecedentlaw20_FoldEnds.tab25 antecedentlaw20_FoldEnds.bits25 (fun HT_ HW_ => ?_)
                                          generalize w59.drew = w60 at BK208 BK213 BK218 HB hx226_0 hx226_1 hx226_2 hHeld ⊢
                                          refine pure_ (i := 0) (N := some 95) (v := ?_) (a' := ?_) #[true, false, false, false, false, false, false, false, false, false, false, false, false, false, false, false, false, false, false, false] rfl rfl (any_of HT_.out (by kernel_rfl)) (fun _ _ _ h => h) (Or.inl ⟨by rfl, ?_⟩) ?_ ?_
                                          rotate_left
                                          · intro w'
                                            go_simp
                                            with_reducible rfl
                                          rotate_left
                                          · simp only [Act.put, List.setIfInBounds_toArray, List.set_cons_zero, List.set_cons_succ, i64_w, i32_w]
                                            rfl
                                          refine pure_ (i := 1) (N := some 96) (v := ?_) (a' := ?_) #[true, true, false, false, false, false, false, false, false, false, false, false, false, false, false, false, false, false, false, false] rfl rfl (any_of HT_.out (by kernel_rfl)) (fun _ _ _ h => h) (Or.inl ⟨by rfl, ?_⟩) ?_ ?_
                                          rotate_left
                                          · intro w'
                                            go_simp
                                            with_reducible rfl
                                          rotate_left
                                          · simp only [Act.put, List.setIfInBounds_toArray, List.set_cons_zero, List.set_cons_succ, i64_w, i32_w]
                                            rfl
                                          refine pure_ (i := 2) (N := some 97) (v := ?_) (a' := ?_) #[true, true, true, false, false, false, false, false, false, false, false, false, false, false, false, false, false, false, false, false] rfl rfl (any_of HT_.out (by kernel_rfl)) (fun _ _ _ h => h) (Or.inl ⟨by rfl, ?_⟩) ?_ ?_
                                          rotate_left
                                          · intro w'
                                            go_simp
                                            with_reducible rfl
                                          rotate_left
                                          · simp only [Act.put, List.setIfInBounds_toArray, List.set_cons_zero, List.set_cons_succ, i64_w, i32_w]
                                            rfl
                                          refine pure_ (i := 3) (N := some 98) (v := ?_) (a' := ?_) #[true, true, true, true, false, false, false, false, false, false, false, false, false, false, false, false, false, false, false, false] rfl rfl (any_of HT_.out (by kernel_rfl)) (fun _ _ _ h => h) (Or.inl ⟨by rfl, ?_⟩) ?_ ?_
                                          rotate_left
                                          · intro w'
                                            go_simp
                                            with_reducible rfl
                                          rotate_left
                                          · simp only [Act.put, List.setIfInBounds_toArray, List.set_cons_zero, List.set_cons_succ, i64_w, i32_w]
                                            rfl
                                          refine pure_ (i := 4) (N := some 99) (v := ?_) (a' := ?_) #[true, true, true, true, true, false, false, false, false, false, false, false, false, false, false, false, false, false, false, false] rfl rfl (any_of HT_.out (by kernel_rfl)) (fun _ _ _ h => h) (Or.inl ⟨by rfl, ?_⟩) ?_ ?_
                                          rotate_left
                                          · intro w'
                                            go_simp
                                            with_reducible rfl
                                          rotate_left
                                          · simp only [Act.put, List.setIfInBounds_toArray, List.set_cons_zero, List.set_cons_succ, i64_w, i32_w]
                                            rfl
                                          refine pure_ (i := 9) (N := some 104) (v := ?_) (a' := ?_) #[true, true, true, true, true, false, false, false, false, true, false, false, false, false, false, false, false, false, false, false] rfl rfl (any_of HT_.out (by kernel_rfl)) (fun _ _ _ h => h) (Or.inl ⟨by rfl, ?_⟩) ?_ ?_
                                          rotate_left
                                          · intro w'
                                            go_simp
                                            with_reducible rfl
                                          rotate_left
                                          · simp only [Act.put, List.setIfInBounds_toArray, List.set_cons_zero, List.set_cons_succ, i64_w, i32_w]
                                            rfl
                                          refine pure_ (i := 10) (N := some 105) (v := ?_) (a' := ?_) #[true, true, true, true, true, false, false, false, false, true, true, false, false, false, false, false, false, false, false, false] rfl rfl (any_of HT_.out (by kernel_rfl)) (fun _ _ _ h => h) (Or.inl ⟨by rfl, ?_⟩) ?_ ?_
                                          rotate_left
                                          · intro w'
                                            go_simp
                                            with_reducible rfl
                                          rotate_left
                                          · simp only [Act.put, List.setIfInBounds_toArray, List.set_cons_zero, List.set_cons_succ, i64_w, i32_w]
                                            rfl
                                          refine pure_ (i := 11) (N := some 106) (v := undef) (a' := ?_) #[true, true, true, true, true, false, false, false, false, true, true, true, false, false, false, false, false, false, false, false] rfl rfl (any_of HT_.out (by kernel_rfl)) (fun _ _ _ h => h) (Or.inr ⟨by rfl, rfl⟩) ?_ ?_
                                          rotate_left
                                          · simp only [Act.put, List.setIfInBounds_toArray, List.set_cons_zero, List.set_cons_succ, i64_w, i32_w]
                                            rfl
                                          refine pure_ (i := 12) (N := some 107) (v := undef) (a' := ?_) #[true, true, true, true, true, false, false, false, false, true, true, true, true, false, false, false, false, false, false, false] rfl rfl (any_of HT_.out (by kernel_rfl)) (fun _ _ _ h => h) (Or.inr ⟨by rfl, rfl⟩) ?_ ?_
                                          rotate_left
                                          · simp only [Act.put, List.setIfInBounds_toArray, List.set_cons_zero, List.set_cons_succ, i64_w, i32_w]
                                            rfl
                                          refine pure_ (i := 13) (N := some 108) (v := undef) (a' := ?_) #[true, true, true, true, true, false, false, false, false, true, true, true, true, true, false, false, false, false, false, false] rfl rfl (any_of HT_.out (by kernel_rfl)) (fun _ _ _ h => h) (Or.inr ⟨by rfl, rfl⟩) ?_ ?_
                                          rotate_left
                                          · simp only [Act.put, List.setIfInBounds_toArray, List.set_cons_zero, List.set_cons_succ, i64_w, i32_w]
                                            rfl
                                          refine pure_ (i := 14) (N := some 109) (v := undef) (a' := ?_) #[true, true, true, true, true, false, false, false, false, true, true, true, true, true, true, false, false, false, false, false] rfl rfl (any_of HT_.out (by kernel_rfl)) (fun _ _ _ h => h) (Or.inr ⟨by rfl, rfl⟩) ?_ ?_
                                          rotate_left
                                          · simp only [Act.put, List.setIfInBounds_toArray, List.set_cons_zero, List.set_cons_succ, i64_w, i32_w]
                                            rfl
                                          refine pure_ (i := 15) (N := some 110) (v := undef) (a' := ?_) #[true, true, true, true, true, false, false, false, false, true, true, true, true, true, true, true, false, false, false, false] rfl rfl (any_of HT_.out (by kernel_rfl)) (fun _ _ _ h => h) (Or.inr ⟨by rfl, rfl⟩) ?_ ?_
                                          rotate_left
                                          · simp only [Act.put, List.setIfInBounds_toArray, List.set_cons_zero, List.set_cons_succ, i64_w, i32_w]
                                            rfl
                                          refine pure_ (i := 16) (N := some 111) (v := undef) (a' := ?_) #[true, true, true, true, true, false, false, false, false, true, true, true, true, true, true, true, true, false, false, false] rfl rfl (any_of HT_.out (by kernel_rfl)) (fun _ _ _ h => h) (Or.inr ⟨by rfl, rfl⟩) ?_ ?_
                                          rotate_left
                                          · simp only [Act.put, List.setIfInBounds_toArray, List.set_cons_zero, List.set_cons_succ, i64_w, i32_w]
                                            rfl
                                          refine pure_ (i := 17) (N := some 112) (v := ?_) (a' := ?_) #[true, true, true, true, true, false, false, false, false, true, true, true, true, true, true, true, true, true, false, false] rfl rfl (any_of HT_.out (by kernel_rfl)) (fun _ _ _ h => h) (Or.inl ⟨by rfl, ?_⟩) ?_ ?_
                                          rotate_left
                                          · intro w'
                                            go_simp
                                            with_reducible rfl
                                          rotate_left
                                          · simp only [Act.put, List.setIfInBounds_toArray, List.set_cons_zero, List.set_cons_succ, i64_w, i32_w]
                                            rfl
                                          refine take_ (i := 5) (N := some 100) (v := ?_) (a' := ?_) #[true, true, true, true, true, true, false, false, false, true, true, true, true, true, true, true, true, true, false, false] rfl rfl (take_ofW HT_.out HW_.out (by kernel_rfl)) (fun _ _ _ h => h) (Or.inl ⟨by rfl, ?_⟩) hHeld ?_ ?_
                                          rotate_left
                                          · rintro w' ⟨s0, s1, s2, s3, s4, s5⟩
                                            go_simp
                                            with_reducible rfl
                                          rotate_left
                                          · simp only [Act.put, List.setIfInBounds_toArray, List.set_cons_zero, List.set_cons_succ, i64_w, i32_w]
                                            rfl
                                          refine take_ (i := 6) (N := some 101) (v := ?_) (a' := ?_) #[true, true, true, true, true, true, true, false, false, true, true, true, true, true, true, true, true, true, false, false] rfl rfl (take_ofW HT_.out HW_.out (by kernel_rfl)) (fun _ _ _ h => h) (Or.inl ⟨by rfl, ?_⟩) hHeld ?_ ?_
                                          rotate_left
                                          · rintro w' ⟨s0, s1, s2, s3, s4, s5⟩
                                            go_simp
                                            with_reducible rfl
                                          rotate_left
                                          · simp only [Act.put, List.setIfInBounds_toArray, List.set_cons_zero, List.set_cons_succ, i64_w, i32_w]
                                            rfl
                                          refine pure_ (i := 7) (N := some 102) (v := ?_) (a' := ?_) #[true, true, true, true, true, true, true, true, false, true, true, true, true, true, true, true, true, true, false, false] rfl rfl (any_of HT_.out (by kernel_rfl)) (fun _ _ _ h => h) (Or.inl ⟨by rfl, ?_⟩) ?_ ?_
                                          rotate_left
                                          · intro w'
                                            go_simp
                                            with_reducible rfl
                                          rotate_left
                                          · simp only [Act.put, List.setIfInBounds_toArray, List.set_cons_zero, List.set_cons_succ, i64_w, i32_w]
                                            rfl
                                          refine pure_ (i := 8) (N := some 103) (v := ?_) (a' := ?_) #[true, true, true, true, true, true, true, true, true, true, true, true, true, true, true, true, true, true, false, false] rfl rfl (any_of HT_.out (by kernel_rfl)) (fun _ _ _ h => h) (Or.inl ⟨by rfl, ?_⟩) ?_ ?_
                                          rotate_left
                                          · intro w'
                                            go_simp
                                            with_reducible rfl
                                          rotate_left
                                          · simp only [Act.put, List.setIfInBounds_toArray, List.set_cons_zero, List.set_cons_succ, i64_w, i32_w]
                                            rfl
                                          refine pure_ (i := 18) (N := some 10) (v := ?_) (a' := ?_) #[true, true, true, true, true, true, true, true, true, true, true, true, true, true, true, true, true, true, true, false] rfl rfl (any_of HT_.out (by kernel_rfl)) (fun _ _ _ h => h) (Or.inl ⟨by rfl, ?_⟩) ?_ ?_
                                          rotate_left
                                          · intro w'
                                            go_simp
                                            with_reducible rfl
                                          rotate_left
                                          · simp only [Act.put, List.setIfInBounds_toArray, List.set_cons_zero, List.set_cons_succ, i64_w, i32_w]
                                            rfl
                                          refine pure_ (i := 19) (N := some 11) (v := ?_) (a' := ?_) #[true, true, true, true, true, true, true, true, true, true, true, true, true, true, true, true, true, true, true, true] rfl rfl (any_of HT_.out (by kernel_rfl)) (fun _ _ _ h => h) (Or.inl ⟨by rfl, ?_⟩) ?_ ?_
                                          rotate_left
                                          · intro w'
                                            go_simp
                                            with_reducible rfl
                                          rotate_left
                                          · simp only [Act.put, List.setIfInBounds_toArray, List.set_cons_zero, List.set_cons_succ, i64_w, i32_w]
                                            rfl
                                          refine done_ (done_of HT_.out (by kernel_rfl)) ?_
                                          try go_wp2
                                          go_roundg kj37
                                          case measure => have := HJ11.out; have := HK2.out; have := HK3.out; have := HJ37.out; omega
                                          case rel => exact ⟨(x9_37), ((((rd_T27 l0 x56_2).f0) == t204 && (((rd_T27 l0 x56_2).f1) == t205 && ((((rd_T27 l0 x56_2).f2).toList) == t206.toList)))), (true), (wrap64 (x56_2 + 1)), (by first | rfl | (simp; done) | (simp [*]; done)), (by first | rfl | (simp; done) | (simp [*]; done)), (by first | rfl | (simp; done) | (simp [*]; done)), (by first | rfl | (simp; done) | (simp [*]; done)), H', ⟨by have := HJ11.out; have := HK2.out; have := HK3.out; have := HJ37.out; omega⟩, ⟨by (with_reducible repeat (first | refine blk_drewN ?_ _ | refine blk_drew ?_ | refine blk_alloc ?_ _)); exact BK208.out⟩, ⟨by (with_reducible repeat (first | refine blk_drewN ?_ _ | refine blk_drew ?_ | refine blk_alloc ?_ _)); exact BK213.out⟩, ⟨by (with_reducible repeat (first | refine blk_drewN ?_ _ | refine blk_drew ?_ | refine blk_alloc ?_ _)); exact BK218.out⟩, ⟨by repeat (first | (with_reducible first | exact HB.out | apply below_alloc | apply pw_below_drewN | apply below_drew1 | refine below_set ?_ GE208.out | refine below_set ?_ GE213.out | refine below_set ?_ GE218.out) | exact HB.out)⟩⟩
                                        · replace c56 := Bool.eq_false_iff.mpr c56
                                          subst c56
                                          have H1 : (antecedentlaw20_FoldEnds.l0 kj37 l0 x9_37 (((rd_T27 l0 x56_2).f0) == t204 && (((rd_T27 l0 x56_2).f1) == t205 && ((((rd_T27 l0 x56_2).f2).toList) == t206.toList))) (((rd_T27 l0 x56_2).f0) == t209 && (((rd_T27 l0 x56_2).f1) == t210 && ((((rd_T27 l0 x56_2).f2).toList) == t211.toList))) (l0.length : Int) (wrap64 (x56_2 + 1)) t204 t205 t206 t209 t210 t211 t214 t215 t216) = some r := by rw [if_neg (show ¬ (false = true) by decide)] at H; exact H
                                          clear H
                                          have H := H1
                                          clear H1
                                          have H' := Aside0.mk H
                                          clear H
                                          try go_wp2
                                          have n0_ := Aside0.mk (blk_drew BK208.out)
                                          have n1_ := Aside0.mk (blk_drew BK213.out)
                                          have n2_ := Aside0.mk (blk_drew BK218.out)
                                          have n3_ := Aside0.mk (below_drew1 HB.out)
                                          clear BK208
                                          clear BK213
                                          clear BK218
                                          clear HB
                                          have BK208 := n0_
                                          have BK213 := n1_
                                          have BK218 := n2_
                                          have HB := n3_
                                          clear n0_ n1_ n2_ n3_
                                          have p221 : 0 ≤ (x56_2 : Int) := of_decide_eq_true (by first | (with_reducible assumption) | assumption)
                                          have q221 : x56_2 < (l0.length : Int) := of_decide_eq_true (by first | (with_reducible assumption) | assumption)
                                          obtain ⟨ad221, e221, hx221_0, hx221_1, hx221_2⟩ := at_T27 HR0.out x56_2 p221 q221
                                          have hw221_2 := hx221_2
                                          have hw221_1 := hx221_1
                                          have hw221_0 := hx221_0
                                          cases e221
                                          replace hx221_0 := (HB.out.cell (World.block_lt_of_cell? w _ hx221_0)).trans hx221_0
                                          replace hx221_1 := (HB.out.cell (World.block_lt_of_cell? w _ hx221_1)).trans hx221_1
                                          replace hx221_2 := (HB.out.cell (World.block_lt_of_cell? w _ hx221_2)).trans hx221_2
                                          replace p221 := eq_true p221
                                          replace q221 := eq_true q221
                                          have p223 : 0 ≤ (x56_2 : Int) := of_decide_eq_true (by first | (with_reducible assumption) | assumption)
                                          have q223 : x56_2 < (l0.length : Int) := of_decide_eq_true (by first | (with_reducible assumption) | assumption)
                                          obtain ⟨ad223, e223, hx223_0, hx223_1, hx223_2⟩ := at_T27 HR0.out x56_2 p223 q223
                                          have hw223_2 := hx223_2
                                          have hw223_1 := hx223_1
                                          have hw223_0 := hx223_0
                                          obtain rfl : ad221 = ad223 := (by injection e223)
                                          replace hx223_0 := (HB.out.cell (World.block_lt_of_cell? w _ hx223_0)).trans hx223_0
                                          replace hx223_1 := (HB.out.cell (World.block_lt_of_cell? w _ hx223_1)).trans hx223_1
                                          replace hx223_2 := (HB.out.cell (World.block_lt_of_cell? w _ hx223_2)).trans hx223_2
                                          replace p223 := eq_true p223
                                          replace q223 := eq_true q223
                                          refine start_ (n := 16) (S := fun w' => w'.cell? ⟨gb208, 0, none⟩ = some (.int .i64 t204) ∧ w'.cell? ⟨gb208, 1, none⟩ = some (.int .i64 t205) ∧ w'.cell? ⟨gb208, 2, none⟩ = some (.string t206) ∧ w'.cell? ⟨gb213, 0, none⟩ = some (.int .i64 t209) ∧ w'.cell? ⟨gb213, 1, none⟩ = some (.int .i64 t210) ∧ w'.cell? ⟨gb213, 2, none⟩ = some (.string t211) ∧ w'.cell? (ad221.add ((x56_2).toNat * 3)) = some (.int .i64 ((rd_T27 l0 x56_2).f0)) ∧ w'.cell? ⟨(ad221.add ((x56_2).toNat * 3)).block, (ad221.add ((x56_2).toNat * 3)).off + 1, none⟩ = some (.int .i64 ((rd_T27 l0 x56_2).f1)) ∧ w'.cell? ⟨(ad221.add ((x56_2).toNat * 3)).block, (ad221.add ((x56_2).toNat * 3)).off + 2, none⟩ = some (.string ((rd_T27 l0 x56_2).f2)) ∧ w'.cell? (ad221.add ((x56_2).toNat * 3)) = some (.int .i64 ((rd_T27 l0 x56_2).f0)) ∧ w'.cell? ⟨(ad221.add ((x56_2).toNat * 3)).block, (ad221.add ((x56_2).toNat * 3)).off + 1, none⟩ = some (.int .i64 ((rd_T27 l0 x56_2).f1)) ∧ w'.cell? ⟨(ad221.add ((x56_2).toNat * 3)).block, (ad221.add ((x56_2).toNat * 3)).off + 2, none⟩ = some (.string ((rd_T27 l0 x56_2).f2))) (ds := []) #[false, false, false, false, false, false, false, false, false, false, false, false, false, false, false, false] (by kernel_rfl) rfl rfl ⟨(blk_cell BK208.out 0).trans rfl, (blk_cell BK208.out 1).trans rfl, (blk_cell BK208.out 2).trans rfl, (blk_cell BK213.out 0).trans rfl, (blk_cell BK213.out 1).trans rfl, (blk_cell BK213.out 2).trans rfl, ((HB.out.cell (World.block_lt_of_cell? w _ hw221_0)).trans hw221_0), ((HB.out.cell (World.block_lt_of_cell? w _ hw221_1)).trans hw221_1), ((HB.out.cell (World.block_lt_of_cell? w _ hw221_2)).trans hw221_2), ((HB.out.cell (World.block_lt_of_cell? w _ hw223_0)).trans hw223_0), ((HB.out.cell (World.block_lt_of_cell? w _ hw223_1)).trans hw223_1), ((HB.out.cell (World.block_lt_of_cell? w _ hw223_2)).trans hw223_2)⟩ (fun hHeld => ?_); refine with_tabW antecedentlaw20_FoldEnds.tab23 antecedentlaw20_FoldEnds.bits23 (fun HT_ HW_ => ?_)
                                          generalize wc.drew = w61 at BK208 BK213 BK218 HB hx221_0 hx221_1 hx221_2 hx223_0 hx223_1 hx223_2 hHeld ⊢
                                          refine pure_ (i := 1) (N := some 80) (v := ?_) (a' := ?_) #[false, true, false, false, false, false, false, false, false, false, false, false, false, false, false, false] rfl rfl (any_of HT_.out (by kernel_rfl)) (fun _ _ _ h => h) (Or.inl ⟨by rfl, ?_⟩) ?_ ?_
                                          rotate_left
                                          · intro w'
                                            go_simp
                                            with_reducible rfl
                                          rotate_left
                                          · simp only [Act.put, List.setIfInBounds_toArray, List.set_cons_zero, List.set_cons_succ, i64_w, i32_w]
                                            rfl
                                          refine pure_ (i := 2) (N := some 81) (v := ?_) (a' := ?_) #[false, true, true, false, false, false, false, false, false, false, false, false, false, false, false, false] rfl rfl (any_of HT_.out (by kernel_rfl)) (fun _ _ _ h => h) (Or.inl ⟨by rfl, ?_⟩) ?_ ?_
                                          rotate_left
                                          · intro w'
                                            go_simp
                                            with_reducible rfl
                                          rotate_left
                                          · simp only [Act.put, List.setIfInBounds_toArray, List.set_cons_zero, List.set_cons_succ, i64_w, i32_w]
                                            rfl
                                          refine pure_ (i := 3) (N := some 82) (v := ?_) (a' := ?_) #[false, true, true, true, false, false, false, false, false, false, false, false, false, false, false, false] rfl rfl (any_of HT_.out (by kernel_rfl)) (fun _ _ _ h => h) (Or.inl ⟨by rfl, ?_⟩) ?_ ?_
                                          rotate_left
                                          · intro w'
                                            go_simp
                                            with_reducible rfl
                                          rotate_left
                                          · simp only [Act.put, List.setIfInBounds_toArray, List.set_cons_zero, List.set_cons_succ, i64_w, i32_w]
                                            rfl
                                          refine take_ (i := 0) (N := some 79) (v := ?_) (a' := ?_) #[true, true, true, true, false, false, false, false, false, false, false, false, false, false, false, false] rfl rfl (take_ofW HT_.out HW_.out (by kernel_rfl)) (fun _ _ _ h => h) (Or.inl ⟨by rfl, ?_⟩) hHeld ?_ ?_
                                          rotate_left
                                          · rintro w' ⟨s0, s1, s2, s3, s4, s5, s6, s7, s8, s9, s10, s11⟩
                                            go_simp
                                            with_reducible rfl
                                          rotate_left
                                          · simp only [Act.put, List.setIfInBounds_toArray, List.set_cons_zero, List.set_cons_succ, i64_w, i32_w]
                                            rfl
                                          refine take_ (i := 4) (N := some 83) (v := ?_) (a' := ?_) #[true, true, true, true, true, false, false, false, false, false, false, false, false, false, false, false] rfl rfl (take_ofW HT_.out HW_.out (by kernel_rfl)) (fun _ _ _ h => h) (Or.inl ⟨by rfl, ?_⟩) hHeld ?_ ?_
                                          rotate_left
                                          · rintro w' ⟨s0, s1, s2, s3, s4, s5, s6, s7, s8, s9, s10, s11⟩
                                            go_simp
                                            with_reducible rfl
                                          rotate_left
                                          · simp only [Act.put, List.setIfInBounds_toArray, List.set_cons_zero, List.set_cons_succ, i64_w, i32_w]
                                            rfl
                                          refine one_ (i := 5) (N := some 84) #[true, true, true, true, true, true, false, false, false, false, false, false, false, false, false, false] rfl rfl (one_of HT_.out (by kernel_rfl)) (by decide) (fun K hK => ?_)
                                          refine goes_ Try.func13 (by kernel_rfl) rfl #[.agg #[.int .i64 t204, .int .i64 t205, .string t206], .agg #[.int .i64 ((rd_T27 l0 x56_2).f0), .int .i64 ((rd_T27 l0 x56_2).f1), .string ((rd_T27 l0 x56_2).f2)]] (by rfl) rfl rfl (by (try simp only [List.map_toArray, List.map_cons, List.map_nil]); first | done | rfl | (simp only [List.length_drop, List.length_take]; rfl)) ?_
                                          with_reducible refine (antecedentref02_Compare.calls t204 t205 t206 ((rd_T27 l0 x56_2).f0) ((rd_T27 l0 x56_2).f1) ((rd_T27 l0 x56_2).f2) t222 _ A42.out).mono ?_
                                          rintro e w62 ⟨rfl, hb⟩
                                          refine ⟨_, rfl, ?_⟩
                                          have n0_ := Aside0.mk (blk_below (g := gb208) (o := .cells #[.int .i64 t204, .int .i64 t205, .string t206] 27 (0, 0)) (by (with_reducible repeat (first | refine blk_drewN ?_ _ | refine blk_drew ?_ | refine blk_alloc ?_ _)); exact BK208.out) hb)
                                          have n1_ := Aside0.mk (blk_below (g := gb213) (o := .cells #[.int .i64 t209, .int .i64 t210, .string t211] 27 (0, 0)) (by (with_reducible repeat (first | refine blk_drewN ?_ _ | refine blk_drew ?_ | refine blk_alloc ?_ _)); exact BK213.out) hb)
                                          have n2_ := Aside0.mk (blk_below (g := gb218) (o := .cells #[.int .i64 t214, .int .i64 t215, .string t216] 27 (0, 0)) (by (with_reducible repeat (first | refine blk_drewN ?_ _ | refine blk_drew ?_ | refine blk_alloc ?_ _)); exact BK218.out) hb)
                                          have n3_ := Aside0.mk (below_step (by repeat (first | (with_reducible first | exact HB.out | apply below_alloc | apply pw_below_drewN | apply below_drew1 | refine below_set ?_ GE208.out | refine below_set ?_ GE213.out | refine below_set ?_ GE218.out) | exact HB.out)) hb)
                                          clear BK208
                                          clear BK213
                                          clear BK218
                                          clear HB
                                          have BK208 := n0_
                                          have BK213 := n1_
                                          have BK218 := n2_
                                          have HB := n3_
                                          clear n0_ n1_ n2_ n3_
                                          (try clear hb)
                                          (try clear hb2)
                                          (try clear hk)
                                          (try clear hi)
                                          refine hK.out _ _ ⟨(blk_cell BK208.out 0).trans rfl, (blk_cell BK208.out 1).trans rfl, (blk_cell BK208.out 2).trans rfl, (blk_cell BK213.out 0).trans rfl, (blk_cell BK213.out 1).trans rfl, (blk_cell BK213.out 2).trans rfl, ((HB.out.cell (World.block_lt_of_cell? w _ hw221_0)).trans hw221_0), ((HB.out.cell (World.block_lt_of_cell? w _ hw221_1)).trans hw221_1), ((HB.out.cell (World.block_lt_of_cell? w _ hw221_2)).trans hw221_2), ((HB.out.cell (World.block_lt_of_cell? w _ hw223_0)).trans hw223_0), ((HB.out.cell (World.block_lt_of_cell? w _ hw223_1)).trans hw223_1), ((HB.out.cell (World.block_lt_of_cell? w _ hw223_2)).trans hw223_2)⟩ (fun hHeld => ?_)
                                          clear hK K
                                          refine norm_ (a' := ?_) ?_ ?_
                                          rotate_left
                                          · show Act.put _ (some 84) _ = _
                                            simp only [Act.put, List.setIfInBounds_toArray, List.set_cons_zero, List.set_cons_succ, i64_w, i32_w]
                                            rfl
                                          refine pure_ (i := 6) (N := some 85) (v := ?_) (a' := ?_) #[true, true, true, true, true, true, true, false, false, false, false, false, false, false, false, false] rfl rfl (any_of HT_.out (by kernel_rfl)) (fun _ _ _ h => h) (Or.inl ⟨by rfl, ?_⟩) ?_ ?_
                                          rotate_left
                                          · intro w'
                                            go_simp
                                            with_reducible rfl
                                          rotate_left
                                          · simp only [Act.put, List.setIfInBounds_toArray, List.set_cons_zero, List.set_cons_succ, i64_w, i32_w]
                                            rfl
                                          refine pure_ (i := 7) (N := some 86) (v := ?_) (a' := ?_) #[true, true, true, true, true, true, true, true, false, false, false, false, false, false, false, false] rfl rfl (any_of HT_.out (by kernel_rfl)) (fun _ _ _ h => h) (Or.inl ⟨by rfl, ?_⟩) ?_ ?_
                                          rotate_left
                                          · intro w'
                                            go_simp
                                            with_reducible rfl
                                          rotate_left
                                          · simp only [Act.put, List.setIfInBounds_toArray, List.set_cons_zero, List.set_cons_succ, i64_w, i32_w]
                                            rfl
                                          refine pure_ (i := 8) (N := some 87) (v := ?_) (a' := ?_) #[true, true, true, true, true, true, true, true, true, false, false, false, false, false, false, false] rfl rfl (any_of HT_.out (by kernel_rfl)) (fun _ _ _ h => h) (Or.inl ⟨by rfl, ?_⟩) ?_ ?_
                                          rotate_left
                                          · intro w'
                                            go_simp
                                            with_reducible rfl
                                          rotate_left
                                          · simp only [Act.put, List.setIfInBounds_toArray, List.set_cons_zero, List.set_cons_succ, i64_w, i32_w]
                                            rfl
                                          refine pure_ (i := 9) (N := some 88) (v := ?_) (a' := ?_) #[true, true, true, true, true, true, true, true, true, true, false, false, false, false, false, false] rfl rfl (any_of HT_.out (by kernel_rfl)) (fun _ _ _ h => h) (Or.inl ⟨by rfl, ?_⟩) ?_ ?_
                                          rotate_left
                                          · intro w'
                                            go_simp
                                            with_reducible rfl
                                          rotate_left
                                          · simp only [Act.put, List.setIfInBounds_toArray, List.set_cons_zero, List.set_cons_succ, i64_w, i32_w]
                                            rfl
                                          refine pure_ (i := 10) (N := some 89) (v := ?_) (a' := ?_) #[true, true, true, true, true, true, true, true, true, true, true, false, false, false, false, false] rfl rfl (any_of HT_.out (by kernel_rfl)) (fun _ _ _ h => h) (Or.inl ⟨by rfl, ?_⟩) ?_ ?_
                                          rotate_left
                                          · intro w'
                                            go_simp
                                            with_reducible rfl
                                          rotate_left
                                          · simp only [Act.put, List.setIfInBounds_toArray, List.set_cons_zero, List.set_cons_succ, i64_w, i32_w]
                                            rfl
                                          refine take_ (i := 11) (N := some 90) (v := ?_) (a' := ?_) #[true, true, true, true, true, true, true, true, true, true, true, true, false, false, false, false] rfl rfl (take_ofW HT_.out HW_.out (by kernel_rfl)) (fun _ _ _ h => h) (Or.inl ⟨by rfl, ?_⟩) hHeld ?_ ?_
                                          rotate_left
                                          · rintro w' ⟨s0, s1, s2, s3, s4, s5, s6, s7, s8, s9, s10, s11⟩
                                            go_simp
                                            with_reducible rfl
                                          rotate_left
                                          · simp only [Act.put, List.setIfInBounds_toArray, List.set_cons_zero, List.set_cons_succ, i64_w, i32_w]
                                            rfl
                                          refine take_ (i := 12) (N := some 91) (v := ?_) (a' := ?_) #[true, true, true, true, true, true, true, true, true, true, true, true, true, false, false, false] rfl rfl (take_ofW HT_.out HW_.out (by kernel_rfl)) (fun _ _ _ h => h) (Or.inl ⟨by rfl, ?_⟩) hHeld ?_ ?_
                                          rotate_left
                                          · rintro w' ⟨s0, s1, s2, s3, s4, s5, s6, s7, s8, s9, s10, s11⟩
                                            go_simp
                                            with_reducible rfl
                                          rotate_left
                                          · simp only [Act.put, List.setIfInBounds_toArray, List.set_cons_zero, List.set_cons_succ, i64_w, i32_w]
                                            rfl
                                          refine one_ (i := 13) (N := some 92) #[true, true, true, true, true, true, true, true, true, true, true, true, true, true, false, false] rfl rfl (one_of HT_.out (by kernel_rfl)) (by decide) (fun K hK => ?_)
                                          refine goes_ Try.func13 (by kernel_rfl) rfl #[.agg #[.int .i64 ((rd_T27 l0 x56_2).f0), .int .i64 ((rd_T27 l0 x56_2).f1), .string ((rd_T27 l0 x56_2).f2)], .agg #[.int .i64 t209, .int .i64 t210, .string t211]] (by rfl) rfl rfl (by (try simp only [List.map_toArray, List.map_cons, List.map_nil]); first | done | rfl | (simp only [List.length_drop, List.length_take]; rfl)) ?_
                                          with_reducible refine (antecedentref02_Compare.calls ((rd_T27 l0 x56_2).f0) ((rd_T27 l0 x56_2).f1) ((rd_T27 l0 x56_2).f2) t209 t210 t211 t224 _ A44.out).mono ?_
                                          rintro e w63 ⟨rfl, hb⟩
                                          refine ⟨_, rfl, ?_⟩
                                          have n0_ := Aside0.mk (blk_below (g := gb208) (o := .cells #[.int .i64 t204, .int .i64 t205, .string t206] 27 (0, 0)) (by (with_reducible repeat (first | refine blk_drewN ?_ _ | refine blk_drew ?_ | refine blk_alloc ?_ _)); exact BK208.out) hb)
                                          have n1_ := Aside0.mk (blk_below (g := gb213) (o := .cells #[.int .i64 t209, .int .i64 t210, .string t211] 27 (0, 0)) (by (with_reducible repeat (first | refine blk_drewN ?_ _ | refine blk_drew ?_ | refine blk_alloc ?_ _)); exact BK213.out) hb)
                                          have n2_ := Aside0.mk (blk_below (g := gb218) (o := .cells #[.int .i64 t214, .int .i64 t215, .string t216] 27 (0, 0)) (by (with_reducible repeat (first | refine blk_drewN ?_ _ | refine blk_drew ?_ | refine blk_alloc ?_ _)); exact BK218.out) hb)
                                          have n3_ := Aside0.mk (below_step (by repeat (first | (with_reducible first | exact HB.out | apply below_alloc | apply pw_below_drewN | apply below_drew1 | refine below_set ?_ GE208.out | refine below_set ?_ GE213.out | refine below_set ?_ GE218.out) | exact HB.out)) hb)
                                          clear BK208
                                          clear BK213
                                          clear BK218
                                          clear HB
                                          have BK208 := n0_
                                          have BK213 := n1_
                                          have BK218 := n2_
                                          have HB := n3_
                                          clear n0_ n1_ n2_ n3_
                                          (try clear hb)
                                          (try clear hb2)
                                          (try clear hk)
                                          (try clear hi)
                                          refine hK.out _ _ ⟨(blk_cell BK208.out 0).trans rfl, (blk_cell BK208.out 1).trans rfl, (blk_cell BK208.out 2).trans rfl, (blk_cell BK213.out 0).trans rfl, (blk_cell BK213.out 1).trans rfl, (blk_cell BK213.out 2).trans rfl, ((HB.out.cell (World.block_lt_of_cell? w _ hw221_0)).trans hw221_0), ((HB.out.cell (World.block_lt_of_cell? w _ hw221_1)).trans hw221_1), ((HB.out.cell (World.block_lt_of_cell? w _ hw221_2)).trans hw221_2), ((HB.out.cell (World.block_lt_of_cell? w _ hw223_0)).trans hw223_0), ((HB.out.cell (World.block_lt_of_cell? w _ hw223_1)).trans hw223_1), ((HB.out.cell (World.block_lt_of_cell? w _ hw223_2)).trans hw223_2)⟩ (fun hHeld => ?_)
                                          clear hK K
                                          refine norm_ (a' := ?_) ?_ ?_
                                          rotate_left
                                          · show Act.put _ (some 92) _ = _
                                            simp only [Act.put, List.setIfInBounds_toArray, List.set_cons_zero, List.set_cons_succ, i64_w, i32_w]
                                            rfl
                                          refine pure_ (i := 14) (N := some 93) (v := ?_) (a' := ?_) #[true, true, true, true, true, true, true, true, true, true, true, true, true, true, true, false] rfl rfl (any_of HT_.out (by kernel_rfl)) (fun _ _ _ h => h) (Or.inl ⟨by rfl, ?_⟩) ?_ ?_
                                          rotate_left
                                          · intro w'
                                            go_simp
                                            with_reducible rfl
                                          rotate_left
                                          · simp only [Act.put, List.setIfInBounds_toArray, List.set_cons_zero, List.set_cons_succ, i64_w, i32_w]
                                            rfl
                                          refine pure_ (i := 15) (N := some 94) (v := ?_) (a' := ?_) #[true, true, true, true, true, true, true, true, true, true, true, true, true, true, true, true] rfl rfl (any_of HT_.out (by kernel_rfl)) (fun _ _ _ h => h) (Or.inl ⟨by rfl, ?_⟩) ?_ ?_
                                          rotate_left
                                          · intro w'
                                            go_simp
                                            with_reducible rfl
                                          rotate_left
                                          · simp only [Act.put, List.setIfInBounds_toArray, List.set_cons_zero, List.set_cons_succ, i64_w, i32_w]
                                            rfl
                                          refine done_ (done_of HT_.out (by kernel_rfl)) ?_
                                          try go_wp2
                                          have n0_ := Aside0.mk (blk_drew BK208.out)
                                          have n1_ := Aside0.mk (blk_drew BK213.out)
                                          have n2_ := Aside0.mk (blk_drew BK218.out)
                                          have n3_ := Aside0.mk (below_drew1 HB.out)
                                          clear BK208
                                          clear BK213
                                          clear BK218
                                          clear HB
                                          have BK208 := n0_
                                          have BK213 := n1_
                                          have BK218 := n2_
                                          have HB := n3_
                                          clear n0_ n1_ n2_ n3_
                                          have p226 : 0 ≤ (x56_2 : Int) := of_decide_eq_true (by first | (with_reducible assumption) | assumption)
                                          have q226 : x56_2 < (l0.length : Int) := of_decide_eq_true (by first | (with_reducible assumption) | assumption)
                                          obtain ⟨ad226, e226, hx226_0, hx226_1, hx226_2⟩ := at_T27 HR0.out x56_2 p226 q226
                                          have hw226_2 := hx226_2
                                          have hw226_1 := hx226_1
                                          have hw226_0 := hx226_0
                                          obtain rfl : ad221 = ad226 := (by injection e226)
                                          replace hx226_0 := (HB.out.cell (World.block_lt_of_cell? w _ hx226_0)).trans hx226_0
                                          replace hx226_1 := (HB.out.cell (World.block_lt_of_cell? w _ hx226_1)).trans hx226_1
                                          replace hx226_2 := (HB.out.cell (World.block_lt_of_cell? w _ hx226_2)).trans hx226_2
                                          replace p226 := eq_true p226
                                          replace q226 := eq_true q226
                                          have p227 : 0 ≤ (x56_2 : Int) := of_decide_eq_true (by first | (with_reducible assumption) | assumption)
                                          have q227 : x56_2 < (l0.length : Int) := of_decide_eq_true (by first | (with_reducible assumption) | assumption)
                                          obtain ⟨ad227, e227, hx227_0, hx227_1, hx227_2⟩ := at_T27 HR0.out x56_2 p227 q227
                                          have hw227_2 := hx227_2
                                          have hw227_1 := hx227_1
                                          have hw227_0 := hx227_0
                                          obtain rfl : ad221 = ad227 := (by injection e227)
                                          replace hx227_0 := (HB.out.cell (World.block_lt_of_cell? w _ hx227_0)).trans hx227_0
                                          replace hx227_1 := (HB.out.cell (World.block_lt_of_cell? w _ hx227_1)).trans hx227_1
                                          replace hx227_2 := (HB.out.cell (World.block_lt_of_cell? w _ hx227_2)).trans hx227_2
                                          replace p227 := eq_true p227
                                          replace q227 := eq_true q227
                                          refine start_ (n := 20) (S := fun w' => w'.cell? ⟨gb208, 0, none⟩ = some (.int .i64 t204) ∧ w'.cell? ⟨gb208, 1, none⟩ = some (.int .i64 t205) ∧ w'.cell? ⟨gb208, 2, none⟩ = some (.string t206) ∧ w'.cell? ⟨gb213, 0, none⟩ = some (.int .i64 t209) ∧ w'.cell? ⟨gb213, 1, none⟩ = some (.int .i64 t210) ∧ w'.cell? ⟨gb213, 2, none⟩ = some (.string t211) ∧ w'.cell? (ad221.add ((x56_2).toNat * 3)) = some (.int .i64 ((rd_T27 l0 x56_2).f0)) ∧ w'.cell? ⟨(ad221.add ((x56_2).toNat * 3)).block, (ad221.add ((x56_2).toNat * 3)).off + 1, none⟩ = some (.int .i64 ((rd_T27 l0 x56_2).f1)) ∧ w'.cell? ⟨(ad221.add ((x56_2).toNat * 3)).block, (ad221.add ((x56_2).toNat * 3)).off + 2, none⟩ = some (.string ((rd_T27 l0 x56_2).f2)) ∧ w'.cell? (ad221.add ((x56_2).toNat * 3)) = some (.int .i64 ((rd_T27 l0 x56_2).f0)) ∧ w'.cell? ⟨(ad221.add ((x56_2).toNat * 3)).block, (ad221.add ((x56_2).toNat * 3)).off + 1, none⟩ = some (.int .i64 ((rd_T27 l0 x56_2).f1)) ∧ w'.cell? ⟨(ad221.add ((x56_2).toNat * 3)).block, (ad221.add ((x56_2).toNat * 3)).off + 2, none⟩ = some (.string ((rd_T27 l0 x56_2).f2))) (ds := []) #[false, false, false, false, false, false, false, false, false, false, false, false, false, false, false, false, false, false, false, false] (by kernel_rfl) rfl rfl ⟨(blk_cell BK208.out 0).trans rfl, (blk_cell BK208.out 1).trans rfl, (blk_cell BK208.out 2).trans rfl, (blk_cell BK213.out 0).trans rfl, (blk_cell BK213.out 1).trans rfl, (blk_cell BK213.out 2).trans rfl, ((HB.out.cell (World.block_lt_of_cell? w _ hw226_0)).trans hw226_0), ((HB.out.cell (World.block_lt_of_cell? w _ hw226_1)).trans hw226_1), ((HB.out.cell (World.block_lt_of_cell? w _ hw226_2)).trans hw226_2), ((HB.out.cell (World.block_lt_of_cell? w _ hw227_0)).trans hw227_0), ((HB.out.cell (World.block_lt_of_cell? w _ hw227_1)).trans hw227_1), ((HB.out.cell (World.block_lt_of_cell? w _ hw227_2)).trans hw227_2)⟩ (fun hHeld => ?_); refine with_tabW antecedentlaw20_FoldEnds.tab25 antecedentlaw20_FoldEnds.bits25 (fun HT_ HW_ => ?_)
                                          generalize w63.drew = w64 at BK208 BK213 BK218 HB hx226_0 hx226_1 hx226_2 hx227_0 hx227_1 hx227_2 hHeld ⊢
                                          refine pure_ (i := 0) (N := some 95) (v := ?_) (a' := ?_) #[true, false, false, false, false, false, false, false, false, false, false, false, false, false, false, false, false, false, false, false] rfl rfl (any_of HT_.out (by kernel_rfl)) (fun _ _ _ h => h) (Or.inl ⟨by rfl, ?_⟩) ?_ ?_
                                          rotate_left
                                          · intro w'
                                            go_simp
                                            with_reducible rfl
                                          rotate_left
                                          · simp only [Act.put, List.setIfInBounds_toArray, List.set_cons_zero, List.set_cons_succ, i64_w, i32_w]
                                            rfl
                                          refine pure_ (i := 1) (N := some 96) (v := ?_) (a' := ?_) #[true, true, false, false, false, false, false, false, false, false, false, false, false, false, false, false, false, false, false, false] rfl rfl (any_of HT_.out (by kernel_rfl)) (fun _ _ _ h => h) (Or.inl ⟨by rfl, ?_⟩) ?_ ?_
                                          rotate_left
                                          · intro w'
                                            go_simp
                                            with_reducible rfl
                                          rotate_left
                                          · simp only [Act.put, List.setIfInBounds_toArray, List.set_cons_zero, List.set_cons_succ, i64_w, i32_w]
                                            rfl
                                          refine pure_ (i := 2) (N := some 97) (v := ?_) (a' := ?_) #[true, true, true, false, false, false, false, false, false, false, false, false, false, false, false, false, false, false, false, false] rfl rfl (any_of HT_.out (by kernel_rfl)) (fun _ _ _ h => h) (Or.inl ⟨by rfl, ?_⟩) ?_ ?_
                                          rotate_left
                                          · intro w'
                                            go_simp
                                            with_reducible rfl
                                          rotate_left
                                          · simp only [Act.put, List.setIfInBounds_toArray, List.set_cons_zero, List.set_cons_succ, i64_w, i32_w]
                                            rfl
                                          refine pure_ (i := 3) (N := some 98) (v := ?_) (a' := ?_) #[true, true, true, true, false, false, false, false, false, false, false, false, false, false, false, false, false, false, false, false] rfl rfl (any_of HT_.out (by kernel_rfl)) (fun _ _ _ h => h) (Or.inl ⟨by rfl, ?_⟩) ?_ ?_
                                          rotate_left
                                          · intro w'
                                            go_simp
                                            with_reducible rfl
                                          rotate_left
                                          · simp only [Act.put, List.setIfInBounds_toArray, List.set_cons_zero, List.set_cons_succ, i64_w, i32_w]
                                            rfl
                                          refine pure_ (i := 4) (N := some 99) (v := ?_) (a' := ?_) #[true, true, true, true, true, false, false, false, false, false, false, false, false, false, false, false, false, false, false, false] rfl rfl (any_of HT_.out (by kernel_rfl)) (fun _ _ _ h => h) (Or.inl ⟨by rfl, ?_⟩) ?_ ?_
                                          rotate_left
                                          · intro w'
                                            go_simp
                                            with_reducible rfl
                                          rotate_left
                                          · simp only [Act.put, List.setIfInBounds_toArray, List.set_cons_zero, List.set_cons_succ, i64_w, i32_w]
                                            rfl
                                          refine pure_ (i := 9) (N := some 104) (v := ?_) (a' := ?_) #[true, true, true, true, true, false, false, false, false, true, false, false, false, false, false, false, false, false, false, false] rfl rfl (any_of HT_.out (by kernel_rfl)) (fun _ _ _ h => h) (Or.inl ⟨by rfl, ?_⟩) ?_ ?_
                                          rotate_left
                                          · intro w'
                                            go_simp
                                            with_reducible rfl
                                          rotate_left
                                          · simp only [Act.put, List.setIfInBounds_toArray, List.set_cons_zero, List.set_cons_succ, i64_w, i32_w]
                                            rfl
                                          refine pure_ (i := 10) (N := some 105) (v := ?_) (a' := ?_) #[true, true, true, true, true, false, false, false, false, true, true, false, false, false, false, false, false, false, false, false] rfl rfl (any_of HT_.out (by kernel_rfl)) (fun _ _ _ h => h) (Or.inl ⟨by rfl, ?_⟩) ?_ ?_
                                          rotate_left
                                          · intro w'
                                            go_simp
                                            with_reducible rfl
                                          rotate_left
                                          · simp only [Act.put, List.setIfInBounds_toArray, List.set_cons_zero, List.set_cons_succ, i64_w, i32_w]
                                            rfl
                                          refine pure_ (i := 11) (N := some 106) (v := ?_) (a' := ?_) #[true, true, true, true, true, false, false, false, false, true, true, true, false, false, false, false, false, false, false, false] rfl rfl (any_of HT_.out (by kernel_rfl)) (fun _ _ _ h => h) (Or.inl ⟨by rfl, ?_⟩) ?_ ?_
                                          rotate_left
                                          · intro w'
                                            go_simp
                                            with_reducible rfl
                                          rotate_left
                                          · simp only [Act.put, List.setIfInBounds_toArray, List.set_cons_zero, List.set_cons_succ, i64_w, i32_w]
                                            rfl
                                          refine pure_ (i := 12) (N := some 107) (v := ?_) (a' := ?_) #[true, true, true, true, true, false, false, false, false, true, true, true, true, false, false, false, false, false, false, false] rfl rfl (any_of HT_.out (by kernel_rfl)) (fun _ _ _ h => h) (Or.inl ⟨by rfl, ?_⟩) ?_ ?_
                                          rotate_left
                                          · intro w'
                                            go_simp
                                            with_reducible rfl
                                          rotate_left
                                          · simp only [Act.put, List.setIfInBounds_toArray, List.set_cons_zero, List.set_cons_succ, i64_w, i32_w]
                                            rfl
                                          refine pure_ (i := 13) (N := some 108) (v := ?_) (a' := ?_) #[true, true, true, true, true, false, false, false, false, true, true, true, true, true, false, false, false, false, false, false] rfl rfl (any_of HT_.out (by kernel_rfl)) (fun _ _ _ h => h) (Or.inl ⟨by rfl, ?_⟩) ?_ ?_
                                          rotate_left
                                          · intro w'
                                            go_simp
                                            with_reducible rfl
                                          rotate_left
                                          · simp only [Act.put, List.setIfInBounds_toArray, List.set_cons_zero, List.set_cons_succ, i64_w, i32_w]
                                            rfl
                                          refine take_ (i := 5) (N := some 100) (v := ?_) (a' := ?_) #[true, true, true, true, true, true, false, false, false, true, true, true, true, true, false, false, false, false, false, false] rfl rfl (take_ofW HT_.out HW_.out (by kernel_rfl)) (fun _ _ _ h => h) (Or.inl ⟨by rfl, ?_⟩) hHeld ?_ ?_
                                          rotate_left
                                          · rintro w' ⟨s0, s1, s2, s3, s4, s5, s6, s7, s8, s9, s10, s11⟩
                                            go_simp
                                            with_reducible rfl
                                          rotate_left
                                          · simp only [Act.put, List.setIfInBounds_toArray, List.set_cons_zero, List.set_cons_succ, i64_w, i32_w]
                                            rfl
                                          refine take_ (i := 6) (N := some 101) (v := ?_) (a' := ?_) #[true, true, true, true, true, true, true, false, false, true, true, true, true, true, false, false, false, false, false, false] rfl rfl (take_ofW HT_.out HW_.out (by kernel_rfl)) (fun _ _ _ h => h) (Or.inl ⟨by rfl, ?_⟩) hHeld ?_ ?_
                                          rotate_left
                                          · rintro w' ⟨s0, s1, s2, s3, s4, s5, s6, s7, s8, s9, s10, s11⟩
                                            go_simp
                                            with_reducible rfl
                                          rotate_left
                                          · simp only [Act.put, List.setIfInBounds_toArray, List.set_cons_zero, List.set_cons_succ, i64_w, i32_w]
                                            rfl
                                          refine pure_ (i := 7) (N := some 102) (v := ?_) (a' := ?_) #[true, true, true, true, true, true, true, true, false, true, true, true, true, true, false, false, false, false, false, false] rfl rfl (any_of HT_.out (by kernel_rfl)) (fun _ _ _ h => h) (Or.inl ⟨by rfl, ?_⟩) ?_ ?_
                                          rotate_left
                                          · intro w'
                                            go_simp
                                            with_reducible rfl
                                          rotate_left
                                          · simp only [Act.put, List.setIfInBounds_toArray, List.set_cons_zero, List.set_cons_succ, i64_w, i32_w]
                                            rfl
                                          refine pure_ (i := 8) (N := some 103) (v := ?_) (a' := ?_) #[true, true, true, true, true, true, true, true, true, true, true, true, true, true, false, false, false, false, false, false] rfl rfl (any_of HT_.out (by kernel_rfl)) (fun _ _ _ h => h) (Or.inl ⟨by rfl, ?_⟩) ?_ ?_
                                          rotate_left
                                          · intro w'
                                            go_simp
                                            with_reducible rfl
                                          rotate_left
                                          · simp only [Act.put, List.setIfInBounds_toArray, List.set_cons_zero, List.set_cons_succ, i64_w, i32_w]
                                            rfl
                                          refine pure_ (i := 18) (N := some 10) (v := ?_) (a' := ?_) #[true, true, true, true, true, true, true, true, true, true, true, true, true, true, false, false, false, false, true, false] rfl rfl (any_of HT_.out (by kernel_rfl)) (fun _ _ _ h => h) (Or.inl ⟨by rfl, ?_⟩) ?_ ?_
                                          rotate_left
                                          · intro w'
                                            go_simp
                                            with_reducible rfl
                                          rotate_left
                                          · simp only [Act.put, List.setIfInBounds_toArray, List.set_cons_zero, List.set_cons_succ, i64_w, i32_w]
                                            rfl
                                          refine take_ (i := 14) (N := some 109) (v := ?_) (a' := ?_) #[true, true, true, true, true, true, true, true, true, true, true, true, true, true, true, false, false, false, true, false] rfl rfl (take_ofW HT_.out HW_.out (by kernel_rfl)) (fun _ _ _ h => h) (Or.inl ⟨by rfl, ?_⟩) hHeld ?_ ?_
                                          rotate_left
                                          · rintro w' ⟨s0, s1, s2, s3, s4, s5, s6, s7, s8, s9, s10, s11⟩
                                            go_simp
                                            with_reducible rfl
                                          rotate_left
                                          · simp only [Act.put, List.setIfInBounds_toArray, List.set_cons_zero, List.set_cons_succ, i64_w, i32_w]
                                            rfl
                                          refine take_ (i := 15) (N := some 110) (v := ?_) (a' := ?_) #[true, true, true, true, true, true, true, true, true, true, true, true, true, true, true, true, false, false, true, false] rfl rfl (take_ofW HT_.out HW_.out (by kernel_rfl)) (fun _ _ _ h => h) (Or.inl ⟨by rfl, ?_⟩) hHeld ?_ ?_
                                          rotate_left
                                          · rintro w' ⟨s0, s1, s2, s3, s4, s5, s6, s7, s8, s9, s10, s11⟩
                                            go_simp
                                            with_reducible rfl
                                          rotate_left
                                          · simp only [Act.put, List.setIfInBounds_toArray, List.set_cons_zero, List.set_cons_succ, i64_w, i32_w]
                                            rfl
                                          refine pure_ (i := 16) (N := some 111) (v := ?_) (a' := ?_) #[true, true, true, true, true, true, true, true, true, true, true, true, true, true, true, true, true, false, true, false] rfl rfl (any_of HT_.out (by kernel_rfl)) (fun _ _ _ h => h) (Or.inl ⟨by rfl, ?_⟩) ?_ ?_
                                          rotate_left
                                          · intro w'
                                            go_simp
                                            with_reducible rfl
                                          rotate_left
                                          · simp only [Act.put, List.setIfInBounds_toArray, List.set_cons_zero, List.set_cons_succ, i64_w, i32_w]
                                            rfl
                                          refine pure_ (i := 17) (N := some 112) (v := ?_) (a' := ?_) #[true, true, true, true, true, true, true, true, true, true, true, true, true, true, true, true, true, true, true, false] rfl rfl (any_of HT_.out (by kernel_rfl)) (fun _ _ _ h => h) (Or.inl ⟨by rfl, ?_⟩) ?_ ?_
                                          rotate_left
                                          · intro w'
                                            go_simp
                                            with_reducible rfl
                                          rotate_left
                                          · simp only [Act.put, List.setIfInBounds_toArray, List.set_cons_zero, List.set_cons_succ, i64_w, i32_w]
                                            rfl
                                          refine pure_ (i := 19) (N := some 11) (v := ?_) (a' := ?_) #[true, true, true, true, true, true, true, true, true, true, true, true, true, true, true, true, true, true, true, true] rfl rfl (any_of HT_.out (by kernel_rfl)) (fun _ _ _ h => h) (Or.inl ⟨by rfl, ?_⟩) ?_ ?_
                                          rotate_left
                                          · intro w'
                                            go_simp
                                            with_reducible rfl
                                          rotate_left
                                          · simp only [Act.put, List.setIfInBounds_toArray, List.set_cons_zero, List.set_cons_succ, i64_w, i32_w]
                                            rfl
                                          refine done_ (done_of HT_.out (by kernel_rfl)) ?_
                                          try go_wp2
                                          go_roundg kj37
                                          case measure => have := HJ11.out; have := HK2.out; have := HK3.out; have := HJ37.out; omega
                                          case rel => exact ⟨(x9_37), ((((rd_T27 l0 x56_2).f0) == t204 && (((rd_T27 l0 x56_2).f1) == t205 && ((((rd_T27 l0 x56_2).f2).toList) == t206.toList)))), ((((rd_T27 l0 x56_2).f0) == t209 && (((rd_T27 l0 x56_2).f1) == t210 && ((((rd_T27 l0 x56_2).f2).toList) == t211.toList)))), (wrap64 (x56_2 + 1)), (by first | rfl | (simp; done) | (simp [*]; done)), (by first | rfl | (simp; done) | (simp [*]; done)), (by first | rfl | (simp; done) | (simp [*]; done)), (by first | rfl | (simp; done) | (simp [*]; done)), H', ⟨by have := HJ11.out; have := HK2.out; have := HK3.out; have := HJ37.out; omega⟩, ⟨by (with_reducible repeat (first | refine blk_drewN ?_ _ | refine blk_drew ?_ | refine blk_alloc ?_ _)); exact BK208.out⟩, ⟨by (with_reducible repeat (first | refine blk_drewN ?_ _ | refine blk_drew ?_ | refine blk_alloc ?_ _)); exact BK213.out⟩, ⟨by (with_reducible repeat (first | refine blk_drewN ?_ _ | refine blk_drew ?_ | refine blk_alloc ?_ _)); exact BK218.out⟩, ⟨by repeat (first | (with_reducible first | exact HB.out | apply below_alloc | apply pw_below_drewN | apply below_drew1 | refine below_set ?_ GE208.out | refine below_set ?_ GE213.out | refine below_set ?_ GE218.out) | exact HB.out)⟩⟩
                                · rw [if_neg c41] at H
                                  exact absurd H (by simp)
                              · rw [if_neg c40] at H
                                exact absurd H (by simp)
                  · rw [if_neg c29] at H
                    have c29b0 : decide (x56_2 < (l0.length : Int)) = false := decide_eq_false c29
                    clear c29
                    by_cases c65 : x10_2 = true
                    · subst c65
                      have H1 : (if x11_2 = true then (some (t214 == 1 && (t215 == x9_2 && (t216.toList == ([] : List UInt8))))) else (none)) = some r := by rw [if_pos rfl] at H; exact H
                      clear H
                      have H := H1
                      clear H1
                      by_cases c66 : x11_2 = true
                      · subst c66
                        have H1 : (some (t214 == 1 && (t215 == x9_2 && (t216.toList == ([] : List UInt8))))) = some r := by rw [if_pos rfl] at H; exact H
                        clear H
                        have H := H1
                        clear H1
                        obtain rfl := Option.some.inj H
                        have hnb67 := NB218_208.out
                        have hnc67 := NB208_218.out
                        have hnb68 := NB218_213.out
                        have hnc68 := NB213_218.out
                        have hcz69_0 : wr.cell? ⟨gb218, 0, none⟩ = some (.int .i64 t214) := (blk_cell BK218.out 0).trans rfl
                        have hcz69_1 : wr.cell? ⟨gb218, 1, none⟩ = some (.int .i64 t215) := (blk_cell BK218.out 1).trans rfl
                        have hcz69_2 : wr.cell? ⟨gb218, 2, none⟩ = some (.string t216) := (blk_cell BK218.out 2).trans rfl
                        have hfz69_0 := blk_frozen BK218.out 0
                        have hfz69_1 := blk_frozen BK218.out 1
                        have hfz69_2 := blk_frozen BK218.out 2
                        go_wp2
                        go_ret
                        exact ⟨by first | rfl | (simp [errW_none, errW_some] <;> rfl) | (simp [*, errW_none, errW_some] <;> rfl), by repeat (first | (with_reducible first | exact HB.out | apply below_alloc | apply pw_below_drewN | apply below_drew1 | refine below_set ?_ GE208.out | refine below_set ?_ GE213.out | refine below_set ?_ GE218.out) | exact HB.out)⟩
                      · replace c66 := Bool.eq_false_iff.mpr c66
                        subst c66
                        have H1 : (none) = some r := by rw [if_neg (show ¬ (false = true) by decide)] at H; exact H
                        clear H
                        have H := H1
                        clear H1
                        exact absurd H (by simp)
                    · replace c65 := Bool.eq_false_iff.mpr c65
                      subst c65
                      have H1 : (none) = some r := by rw [if_neg (show ¬ (false = true) by decide)] at H; exact H
                      clear H
                      have H := H1
                      clear H1
                      exact absurd H (by simp)
            · rw [if_neg c28] at H
              have c28b0 : (t207 == 0) = false := beq_eq_false_iff_ne.mpr c28
              have c28b1 : (t207 != 0) = true := bne_iff_ne.mpr c28
              obtain rfl := Option.some.inj H
              go_wp2
              go_ret
              exact ⟨by first | rfl | (simp [errW_none, errW_some] <;> rfl) | (simp [*, errW_none, errW_some] <;> rfl), by repeat (first | (with_reducible first | exact HB.out | apply below_alloc | apply pw_below_drewN | apply below_drew1 | refine below_set ?_ GE208.out | refine below_set ?_ GE213.out | refine below_set ?_ GE218.out) | exact HB.out)⟩
  · replace c3 := Bool.eq_false_iff.mpr c3
    subst c3
    have H1 : (none) = some r := by rw [if_neg (show ¬ (false = true) by decide)] at H; exact H
    clear H
    have H := H1
    clear H1
    exact absurd H (by simp)

end Go.Proofs.Ytolefpeiceiocaa.Ps
