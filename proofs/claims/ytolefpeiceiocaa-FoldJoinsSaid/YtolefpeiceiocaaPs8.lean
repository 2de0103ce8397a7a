-- printed by a program of this session out of the translation
import Derived.Test.YtolefpeiceiocaaPs0
import Derived.Test.YtolefpeiceiocaaPs1
import Derived.Test.YtolefpeiceiocaaPsOf
import Derived.Test.YtolefpeiceiocaaPsAw
import Derived.Test.YtolefpeiceiocaaPs3
import Derived.Test.YtolefpeiceiocaaGj
namespace Go.Proofs.Ytolefpeiceiocaa.Ps
open Go.RowKit Go.Proofs.YtolefpeiceiocaaW.PrintWords Go.Proofs.YtolefpeiceiocaaW.PrintLast Go.Proofs.YtolefpeiceiocaaW.PrintMore
attribute [local go_sem] max2_int min2_int max_two min_two max_three min_three max_four min_four   -- for this text's walks alone
set_option linter.unusedVariables false
set_option linter.unusedSimpArgs false

attribute [local go_sem high] eqA27
mutual
def antecedentlaw20_FoldJoins.j0 : Nat → List (S27) → List (S27) → Bool → Option (Bool)
  | 0, _, _, _ => none
  | k + 1, x0, x1, x35 => if x35 = true then ((antecedentlaw20_awake.f k).bind fun t281 => (if t281 = true then (some t281) else (none))) else ((some (([] : List (S27)) : List (S27))).bind fun y282 => (if y282.length + x0.length < 4398046511104 then ((some (y282 ++ x0 : List (S27))).bind fun y285 => (if y285.length + x1.length < 4398046511104 then ((some (y285 ++ x1 : List (S27))).bind fun y288 => ((fold_Of.f k 3 x0).bind fun bt291 => ((fold_Of.f k 3 x1).bind fun bt296 => ((fold_Of.f k 3 y288).bind fun bt301 => (if bt291.2.2.2 = 0 then (if bt296.2.2.2 = 0 then (antecedentlaw20_FoldJoins.j1 k x0 x1 y288 bt301.2.2.2 (bt301.2.2.2 != 0) bt291.1 bt291.2.1 bt291.2.2.1 bt296.1 bt296.2.1 bt296.2.2.1 bt301.1 bt301.2.1 bt301.2.2.1) else (antecedentlaw20_FoldJoins.j1 k x0 x1 y288 bt301.2.2.2 true bt291.1 bt291.2.1 bt291.2.2.1 bt296.1 bt296.2.1 bt296.2.2.1 bt301.1 bt301.2.1 bt301.2.2.1)) else (antecedentlaw20_FoldJoins.j1 k x0 x1 y288 bt301.2.2.2 true bt291.1 bt291.2.1 bt291.2.2.1 bt296.1 bt296.2.1 bt296.2.2.1 bt301.1 bt301.2.1 bt301.2.2.1)))))) else (none))) else (none)))
def antecedentlaw20_FoldJoins.j1 : Nat → List (S27) → List (S27) → List (S27) → Int → Bool → Int → Int → ByteArray → Int → Int → ByteArray → Int → Int → ByteArray → Option (Bool)
  | 0, _, _, _, _, _, _, _, _, _, _, _, _, _, _ => none
  | k + 1, x0, x1, x5, x11, x66, x296000, x296001, x296002, x301000, x301001, x301002, x306000, x306001, x306002 => if x66 = true then (if x11 = 0 then (if (x0.length : Int) = 0 then (some true) else (some ((x1.length : Int) == 0))) else (some true)) else ((fold_Of.f k 4 x0).bind fun bt306 => ((fold_Of.f k 4 x1).bind fun bt311 => ((fold_Of.f k 4 x5).bind fun bt316 => ((fold_Of.f k 1 x0).bind fun bt321 => ((fold_Of.f k 1 x1).bind fun bt326 => ((fold_Of.f k 1 x5).bind fun bt331 => ((antecedentref02_Compare.f x296000 x296001 x296002 x301000 x301001 x301002).bind fun t336 => (if t336 > 0 then ((antecedentref02_Compare.f bt306.1 bt306.2.1 bt306.2.2.1 bt311.1 bt311.2.1 bt311.2.2.1).bind fun t337 => (if t337 < 0 then (if (x306000 == x301000 && (x306001 == x301001 && (x306002.toList == x301002.toList))) = true then (if (bt316.1 == bt311.1 && (bt316.2.1 == bt311.2.1 && (bt316.2.2.1.toList == bt311.2.2.1.toList))) = true then (if bt331.2.1 ≤ (wrap64 (bt321.2.1 + bt326.2.1)) then (some (decide (bt331.2.1 ≥ (mx bt321.2.1 bt326.2.1)))) else (none)) else (none)) else (none)) else (if (x306000 == x301000 && (x306001 == x301001 && (x306002.toList == x301002.toList))) = true then (if (bt316.1 == bt306.1 && (bt316.2.1 == bt306.2.1 && (bt316.2.2.1.toList == bt306.2.2.1.toList))) = true then (if bt331.2.1 ≤ (wrap64 (bt321.2.1 + bt326.2.1)) then (some (decide (bt331.2.1 ≥ (mx bt321.2.1 bt326.2.1)))) else (none)) else (none)) else (none)))) else ((antecedentref02_Compare.f bt306.1 bt306.2.1 bt306.2.2.1 bt311.1 bt311.2.1 bt311.2.2.1).bind fun t338 => (if t338 < 0 then (if (x306000 == x296000 && (x306001 == x296001 && (x306002.toList == x296002.toList))) = true then (if (bt316.1 == bt311.1 && (bt316.2.1 == bt311.2.1 && (bt316.2.2.1.toList == bt311.2.2.1.toList))) = true then (if bt331.2.1 ≤ (wrap64 (bt321.2.1 + bt326.2.1)) then (some (decide (bt331.2.1 ≥ (mx bt321.2.1 bt326.2.1)))) else (none)) else (none)) else (none)) else (if (x306000 == x296000 && (x306001 == x296001 && (x306002.toList == x296002.toList))) = true then (if (bt316.1 == bt306.1 && (bt316.2.1 == bt306.2.1 && (bt316.2.2.1.toList == bt306.2.2.1.toList))) = true then (if bt331.2.1 ≤ (wrap64 (bt321.2.1 + bt326.2.1)) then (some (decide (bt331.2.1 ≥ (mx bt321.2.1 bt326.2.1)))) else (none)) else (none)) else (none))))))))))))
end
def antecedentlaw20_FoldJoins.f (k : Nat) (l0 : List (S27)) (l1 : List (S27)) : Option (Bool) := (antecedentlaw20_awake.f k).bind fun t280 => (if t280 = true then (if (l0.length : Int) > 40 then (antecedentlaw20_FoldJoins.j0 k l0 l1 true) else (antecedentlaw20_FoldJoins.j0 k l0 l1 (decide ((l1.length : Int) > 40)))) else (none))
set_option maxHeartbeats 8000000 in
set_option maxRecDepth 100000 in
theorem antecedentlaw20_FoldJoins.calls (k : Nat) (A0 : Option Addr) (c0 : Nat) (l0 : List (S27)) (A1 : Option Addr) (c1 : Nat) (l1 : List (S27)) (r : Bool) (w : World) (hr0 : Kd.C k27 w A0 l0.length l0) (hc0 : l0.length ≤ c0) (hr1 : Kd.C k27 w A1 l1.length l1) (hc1 : l1.length ≤ c1) (h : antecedentlaw20_FoldJoins.f k l0 l1 = some r) :
    Calls Try.prog 7 #[.slice A0 l0.length c0, .slice A1 l1.length c1] w fun e w' => e = .returned (.bool r) ∧ Below w.heap.size w w' := by
  have hu27 := Try.underlying27
  have HR0 := Aside0.mk hr0
  have HC0 := Aside0.mk hc0
  clear hr0 hc0
  have HR1 := Aside0.mk hr1
  have HC1 := Aside0.mk hc1
  clear hr1 hc1
  have HB := Aside0.mk (Below.refl w.heap.size w)
  have H : ((antecedentlaw20_awake.f k).bind fun t280 => (if t280 = true then (if (l0.length : Int) > 40 then (antecedentlaw20_FoldJoins.j0 k l0 l1 true) else (antecedentlaw20_FoldJoins.j0 k l0 l1 (decide ((l1.length : Int) > 40)))) else (none))) = some r := h
  clear h
  have HC3 := Aside0.mk H
  clear H
  go_enter Try.func7, Try.ntmps7
  go_upto_region 1 with (fail)
  go_cut [35] (fun v35 wc => ∃ (kq : Nat) (x35_2 : Bool), v35 = .bool x35_2 ∧ Aside0 (antecedentlaw20_FoldJoins.j0 kq l0 l1 x35_2 = some r) ∧ Aside0 (kq ≤ k) ∧ Aside0 (Below w.heap.size w wc))
  case first =>
    have H := HC3.out
    clear HC3
    replace H := Option.bind_eq_some_iff.mp H
    obtain ⟨t280, A40, H⟩ := H
    replace H : (if t280 = true then (if (l0.length : Int) > 40 then (antecedentlaw20_FoldJoins.j0 k l0 l1 true) else (antecedentlaw20_FoldJoins.j0 k l0 l1 (decide ((l1.length : Int) > 40)))) else (none)) = some r := H
    have A4 := Aside0.mk A40
    clear A40
    by_cases c5 : t280 = true
    · subst c5
      have H1 : (if (l0.length : Int) > 40 then (antecedentlaw20_FoldJoins.j0 k l0 l1 true) else (antecedentlaw20_FoldJoins.j0 k l0 l1 (decide ((l1.length : Int) > 40)))) = some r := by rw [if_pos rfl] at H; exact H
      clear H
      have H := H1
      clear H1
      by_cases c6 : (l0.length : Int) > 40
      · rw [if_pos c6] at H
        have c6b0 : decide (40 < (l0.length : Int)) = true := decide_eq_true c6
        have c6b1 : decide (40 < l0.length) = true := decide_eq_true (by omega)
        clear c6
        (first | rw [c6b0] | (simp only [i64_w, i32_w]; rw [c6b0]) | skip)
        have H' := Aside0.mk H
        clear H
        go_wp2_with (first | ((with_reducible refine gate_callee (f := 8) rfl ?_); refine goesL_ (some 24) rfl rfl Try.func8 (by kernel_rfl) rfl #[] rfl (by (try simp only [List.map_toArray, List.map_cons, List.map_nil]); first | done | rfl | (simp only [List.length_drop, List.length_take]; rfl)) ?_; (with_reducible refine (antecedentlaw20_awake.calls k  true _ A4.out).mono ?_); rintro e w7 ⟨rfl, hb⟩; refine ⟨_, rfl, ?_⟩; have n0_ := Aside0.mk (below_step (by repeat (first | (with_reducible first | exact HB.out | apply below_alloc | apply pw_below_drewN | apply below_drew1) | exact HB.out)) hb); clear HB; have HB := n0_; clear n0_; (try clear hb); (try clear hb2); (try clear hk); (try clear hi)))
        go_meet
        case rel => exact ⟨_, (true), (by first | rfl | (simp; done) | (simp [*]; done)), H', ⟨by first | omega | exact Nat.le_refl _⟩, ⟨by repeat (first | (with_reducible first | exact HB.out | apply below_alloc | apply pw_below_drewN | apply below_drew1) | exact HB.out)⟩⟩
      · rw [if_neg c6] at H
        have c6b0 : decide (40 < (l0.length : Int)) = false := decide_eq_false c6
        have c6b1 : decide (40 < l0.length) = false := decide_eq_false (by omega)
        clear c6
        (first | rw [c6b0] | (simp only [i64_w, i32_w]; rw [c6b0]) | skip)
        have H' := Aside0.mk H
        clear H
        go_wp2_with (first | ((with_reducible refine gate_callee (f := 8) rfl ?_); refine goesL_ (some 24) rfl rfl Try.func8 (by kernel_rfl) rfl #[] rfl (by (try simp only [List.map_toArray, List.map_cons, List.map_nil]); first | done | rfl | (simp only [List.length_drop, List.length_take]; rfl)) ?_; (with_reducible refine (antecedentlaw20_awake.calls k  true _ A4.out).mono ?_); rintro e w8 ⟨rfl, hb⟩; refine ⟨_, rfl, ?_⟩; have n0_ := Aside0.mk (below_step (by repeat (first | (with_reducible first | exact HB.out | apply below_alloc | apply pw_below_drewN | apply below_drew1) | exact HB.out)) hb); clear HB; have HB := n0_; clear n0_; (try clear hb); (try clear hb2); (try clear hk); (try clear hi)))
        go_meet
        case rel => exact ⟨_, (decide ((l1.length : Int) > 40)), (by first | rfl | (simp; done) | (simp [*]; done)), H', ⟨by first | omega | exact Nat.le_refl _⟩, ⟨by repeat (first | (with_reducible first | exact HB.out | apply below_alloc | apply pw_below_drewN | apply below_drew1) | exact HB.out)⟩⟩
    · replace c5 := Bool.eq_false_iff.mpr c5
      subst c5
      have H1 : (none) = some r := by rw [if_neg (show ¬ (false = true) by decide)] at H; exact H
      clear H
      have H := H1
      clear H1
      exact absurd H (by simp)
  case rest =>
    clear HC3
    try clear c1
    try clear p2
    try clear c5
    try clear c6
    try clear c6b0
    try clear c6b1
    try clear c7
    try clear c8
    obtain ⟨kq, x35_2, rfl, HA, HJ2, HB⟩ := hcut
    cases kq with
    | zero => exact absurd HA.out (by simp [antecedentlaw20_FoldJoins.j0])
    | succ kj2 =>
      have H := HA.out
      clear HA
      simp only [antecedentlaw20_FoldJoins.j0] at H
      by_cases c9 : x35_2 = true
      · subst c9
        have H1 : ((antecedentlaw20_awake.f kj2).bind fun t281 => (if t281 = true then (some t281) else (none))) = some r := by rw [if_pos rfl] at H; exact H
        clear H
        have H := H1
        clear H1
        replace H := Option.bind_eq_some_iff.mp H
        obtain ⟨t281, A100, H⟩ := H
        replace H : (if t281 = true then (some t281) else (none)) = some r := H
        have A10 := Aside0.mk A100
        clear A100
        by_cases c11 : t281 = true
        · subst c11
          have H1 : (some true) = some r := by rw [if_pos rfl] at H; exact H
          clear H
          have H := H1
          clear H1
          obtain rfl := Option.some.inj H
          go_wp2_with (first | ((with_reducible refine gate_callee (f := 8) rfl ?_); refine goesL_ (some 36) rfl rfl Try.func8 (by kernel_rfl) rfl #[] rfl (by (try simp only [List.map_toArray, List.map_cons, List.map_nil]); first | done | rfl | (simp only [List.length_drop, List.length_take]; rfl)) ?_; (with_reducible refine (antecedentlaw20_awake.calls kj2  true _ A10.out).mono ?_); rintro e w12 ⟨rfl, hb⟩; refine ⟨_, rfl, ?_⟩; have n0_ := Aside0.mk (below_step (by repeat (first | (with_reducible first | exact HB.out | apply below_alloc | apply pw_below_drewN | apply below_drew1) | exact HB.out)) hb); clear HB; have HB := n0_; clear n0_; (try clear hb); (try clear hb2); (try clear hk); (try clear hi)))
          go_ret
          exact ⟨by first | rfl | (simp [errW_none, errW_some] <;> rfl) | (simp [*, errW_none, errW_some] <;> rfl), by repeat (first | (with_reducible first | exact HB.out | apply below_alloc | apply pw_below_drewN | apply below_drew1) | exact HB.out)⟩
        · replace c11 := Bool.eq_false_iff.mpr c11
          subst c11
          have H1 : (none) = some r := by rw [if_neg (show ¬ (false = true) by decide)] at H; exact H
          clear H
          have H := H1
          clear H1
          exact absurd H (by simp)
      · replace c9 := Bool.eq_false_iff.mpr c9
        subst c9
        have H1 : ((some (([] : List (S27)) : List (S27))).bind fun y282 => (if y282.length + l0.length < 4398046511104 then ((some (y282 ++ l0 : List (S27))).bind fun y285 => (if y285.length + l1.length < 4398046511104 then ((some (y285 ++ l1 : List (S27))).bind fun y288 => ((fold_Of.f kj2 3 l0).bind fun bt291 => ((fold_Of.f kj2 3 l1).bind fun bt296 => ((fold_Of.f kj2 3 y288).bind fun bt301 => (if bt291.2.2.2 = 0 then (if bt296.2.2.2 = 0 then (antecedentlaw20_FoldJoins.j1 kj2 l0 l1 y288 bt301.2.2.2 (bt301.2.2.2 != 0) bt291.1 bt291.2.1 bt291.2.2.1 bt296.1 bt296.2.1 bt296.2.2.1 bt301.1 bt301.2.1 bt301.2.2.1) else (antecedentlaw20_FoldJoins.j1 kj2 l0 l1 y288 bt301.2.2.2 true bt291.1 bt291.2.1 bt291.2.2.1 bt296.1 bt296.2.1 bt296.2.2.1 bt301.1 bt301.2.1 bt301.2.2.1)) else (antecedentlaw20_FoldJoins.j1 kj2 l0 l1 y288 bt301.2.2.2 true bt291.1 bt291.2.1 bt291.2.2.1 bt296.1 bt296.2.1 bt296.2.2.1 bt301.1 bt301.2.1 bt301.2.2.1)))))) else (none))) else (none))) = some r := by rw [if_neg (show ¬ (false = true) by decide)] at H; exact H
        clear H
        have H := H1
        clear H1
        obtain ⟨y282, hy282⟩ : ∃ y_ : List (S27), y_ = (([] : List (S27))) := ⟨_, rfl⟩
        replace H : (if y282.length + l0.length < 4398046511104 then ((some (y282 ++ l0 : List (S27))).bind fun y285 => (if y285.length + l1.length < 4398046511104 then ((some (y285 ++ l1 : List (S27))).bind fun y288 => ((fold_Of.f kj2 3 l0).bind fun bt291 => ((fold_Of.f kj2 3 l1).bind fun bt296 => ((fold_Of.f kj2 3 y288).bind fun bt301 => (if bt291.2.2.2 = 0 then (if bt296.2.2.2 = 0 then (antecedentlaw20_FoldJoins.j1 kj2 l0 l1 y288 bt301.2.2.2 (bt301.2.2.2 != 0) bt291.1 bt291.2.1 bt291.2.2.1 bt296.1 bt296.2.1 bt296.2.2.1 bt301.1 bt301.2.1 bt301.2.2.1) else (antecedentlaw20_FoldJoins.j1 kj2 l0 l1 y288 bt301.2.2.2 true bt291.1 bt291.2.1 bt291.2.2.1 bt296.1 bt296.2.1 bt296.2.2.1 bt301.1 bt301.2.1 bt301.2.2.1)) else (antecedentlaw20_FoldJoins.j1 kj2 l0 l1 y288 bt301.2.2.2 true bt291.1 bt291.2.1 bt291.2.2.1 bt296.1 bt296.2.1 bt296.2.2.1 bt301.1 bt301.2.1 bt301.2.2.1)))))) else (none))) else (none)) = some r := by first | (rw [hy282]; with_reducible exact H) | (have H2_ := (Option.bind_some _ _).symm.trans H; rw [hy282]; with_reducible exact H2_) | (have H2_ := (Option.bind_some _ _).symm.trans H; with_reducible exact H2_) | with_reducible exact H | (rw [hy282]; exact H) | exact H
        have Ny282 := Aside0.mk hy282
        clear hy282
        by_cases c13 : y282.length + l0.length < 4398046511104
        · rw [if_pos c13] at H
          have LMc13 := Aside0.mk c13
          clear c13
          obtain ⟨y285, hy285⟩ : ∃ y_ : List (S27), y_ = (y282 ++ l0) := ⟨_, rfl⟩
          replace H : (if y285.length + l1.length < 4398046511104 then ((some (y285 ++ l1 : List (S27))).bind fun y288 => ((fold_Of.f kj2 3 l0).bind fun bt291 => ((fold_Of.f kj2 3 l1).bind fun bt296 => ((fold_Of.f kj2 3 y288).bind fun bt301 => (if bt291.2.2.2 = 0 then (if bt296.2.2.2 = 0 then (antecedentlaw20_FoldJoins.j1 kj2 l0 l1 y288 bt301.2.2.2 (bt301.2.2.2 != 0) bt291.1 bt291.2.1 bt291.2.2.1 bt296.1 bt296.2.1 bt296.2.2.1 bt301.1 bt301.2.1 bt301.2.2.1) else (antecedentlaw20_FoldJoins.j1 kj2 l0 l1 y288 bt301.2.2.2 true bt291.1 bt291.2.1 bt291.2.2.1 bt296.1 bt296.2.1 bt296.2.2.1 bt301.1 bt301.2.1 bt301.2.2.1)) else (antecedentlaw20_FoldJoins.j1 kj2 l0 l1 y288 bt301.2.2.2 true bt291.1 bt291.2.1 bt291.2.2.1 bt296.1 bt296.2.1 bt296.2.2.1 bt301.1 bt301.2.1 bt301.2.2.1)))))) else (none)) = some r := by first | (rw [hy285]; with_reducible exact H) | (have H2_ := (Option.bind_some _ _).symm.trans H; rw [hy285]; with_reducible exact H2_) | (have H2_ := (Option.bind_some _ _).symm.trans H; with_reducible exact H2_) | with_reducible exact H | (rw [hy285]; exact H) | exact H
          have Ny285 := Aside0.mk hy285
          clear hy285
          by_cases c14 : y285.length + l1.length < 4398046511104
          · rw [if_pos c14] at H
            have LMc14 := Aside0.mk c14
            clear c14
            obtain ⟨y288, hy288⟩ : ∃ y_ : List (S27), y_ = (y285 ++ l1) := ⟨_, rfl⟩
            replace H : ((fold_Of.f kj2 3 l0).bind fun bt291 => ((fold_Of.f kj2 3 l1).bind fun bt296 => ((fold_Of.f kj2 3 y288).bind fun bt301 => (if bt291.2.2.2 = 0 then (if bt296.2.2.2 = 0 then (antecedentlaw20_FoldJoins.j1 kj2 l0 l1 y288 bt301.2.2.2 (bt301.2.2.2 != 0) bt291.1 bt291.2.1 bt291.2.2.1 bt296.1 bt296.2.1 bt296.2.2.1 bt301.1 bt301.2.1 bt301.2.2.1) else (antecedentlaw20_FoldJoins.j1 kj2 l0 l1 y288 bt301.2.2.2 true bt291.1 bt291.2.1 bt291.2.2.1 bt296.1 bt296.2.1 bt296.2.2.1 bt301.1 bt301.2.1 bt301.2.2.1)) else (antecedentlaw20_FoldJoins.j1 kj2 l0 l1 y288 bt301.2.2.2 true bt291.1 bt291.2.1 bt291.2.2.1 bt296.1 bt296.2.1 bt296.2.2.1 bt301.1 bt301.2.1 bt301.2.2.1))))) = some r := by first | (rw [hy288]; with_reducible exact H) | (have H2_ := (Option.bind_some _ _).symm.trans H; rw [hy288]; with_reducible exact H2_) | (have H2_ := (Option.bind_some _ _).symm.trans H; with_reducible exact H2_) | with_reducible exact H | (rw [hy288]; exact H) | exact H
            have Ny288 := Aside0.mk hy288
            clear hy288
            replace H := Option.bind_eq_some_iff.mp H
            obtain ⟨⟨t291, t292, t293, t294⟩, A150, H⟩ := H
            replace H : ((fold_Of.f kj2 3 l1).bind fun bt296 => ((fold_Of.f kj2 3 y288).bind fun bt301 => (if t294 = 0 then (if bt296.2.2.2 = 0 then (antecedentlaw20_FoldJoins.j1 kj2 l0 l1 y288 bt301.2.2.2 (bt301.2.2.2 != 0) t291 t292 t293 bt296.1 bt296.2.1 bt296.2.2.1 bt301.1 bt301.2.1 bt301.2.2.1) else (antecedentlaw20_FoldJoins.j1 kj2 l0 l1 y288 bt301.2.2.2 true t291 t292 t293 bt296.1 bt296.2.1 bt296.2.2.1 bt301.1 bt301.2.1 bt301.2.2.1)) else (antecedentlaw20_FoldJoins.j1 kj2 l0 l1 y288 bt301.2.2.2 true t291 t292 t293 bt296.1 bt296.2.1 bt296.2.2.1 bt301.1 bt301.2.1 bt301.2.2.1)))) = some r := H
            have A15 := Aside0.mk A150
            clear A150
            replace H := Option.bind_eq_some_iff.mp H
            obtain ⟨⟨t296, t297, t298, t299⟩, A160, H⟩ := H
            replace H : ((fold_Of.f kj2 3 y288).bind fun bt301 => (if t294 = 0 then (if t299 = 0 then (antecedentlaw20_FoldJoins.j1 kj2 l0 l1 y288 bt301.2.2.2 (bt301.2.2.2 != 0) t291 t292 t293 t296 t297 t298 bt301.1 bt301.2.1 bt301.2.2.1) else (antecedentlaw20_FoldJoins.j1 kj2 l0 l1 y288 bt301.2.2.2 true t291 t292 t293 t296 t297 t298 bt301.1 bt301.2.1 bt301.2.2.1)) else (antecedentlaw20_FoldJoins.j1 kj2 l0 l1 y288 bt301.2.2.2 true t291 t292 t293 t296 t297 t298 bt301.1 bt301.2.1 bt301.2.2.1))) = some r := H
            have A16 := Aside0.mk A160
            clear A160
            replace H := Option.bind_eq_some_iff.mp H
            obtain ⟨⟨t301, t302, t303, t304⟩, A170, H⟩ := H
            replace H : (if t294 = 0 then (if t299 = 0 then (antecedentlaw20_FoldJoins.j1 kj2 l0 l1 y288 t304 (t304 != 0) t291 t292 t293 t296 t297 t298 t301 t302 t303) else (antecedentlaw20_FoldJoins.j1 kj2 l0 l1 y288 t304 true t291 t292 t293 t296 t297 t298 t301 t302 t303)) else (antecedentlaw20_FoldJoins.j1 kj2 l0 l1 y288 t304 true t291 t292 t293 t296 t297 t298 t301 t302 t303)) = some r := H
            have A17 := Aside0.mk A170
            clear A170
            have HC18 := Aside0.mk H
            clear H
            go_upto_region 7 with (first | ((with_reducible refine gate_dst (N := 37) rfl ?_); (try (refine gate_guard (by rfl) ?_; dsimp only)); refine Kd.R_lit k27 _ 27 ?hg (N := 37) ?hd (xs := ([] : List (S27))) (inner := []) (ok := fun _ => True) (okp := fun _ => True) ?hr ?hp (fun _ hk => hk) trivial (Below.refl _ _) (Nat.le_refl _) (by simp) ?_; (case hd => rfl); (case hg => rfl); (case hr => first | (go_simp; done) | (go_simp; rfl)); (case hp => exact (Reps.none _ _)); intro v283 w19 ho20 hb hg_ hnew_; clear hg_ hnew_; (first | rw [← Ny282.out] at ho20 | (simp only [Int.reduceToNat] at ho20; rw [← Ny282.out] at ho20)); have n0_ := Aside0.mk (Kd.R_lower ho20 (below_size (by repeat (first | (with_reducible first | exact HB.out | apply below_alloc | apply pw_below_drewN | apply below_drew1) | exact HB.out)))); have n1_ := Aside0.mk (below_step (by repeat (first | (with_reducible first | exact HB.out | apply below_alloc | apply pw_below_drewN | apply below_drew1) | exact HB.out)) hb); clear HB; have HO284 := n0_; have HB := n1_; clear n0_ n1_; clear hb ho20) | ((with_reducible refine gate_builtin (b := .append) (xs := #[.tmp 37, .tmp 38]) rfl ?_); (try (refine gate_guard (by rfl) ?_; dsimp only)); at_builtin; refine Kd.R_append_rows k27 (w0 := w) w.heap.size rfl (.tmp 37) (.tmp 38) 22 27 (.agg #[(.int .i64 0), (.int .i64 0), (.string ⟨#[]⟩)]) 32 rfl Try.underlying22 info27 rfl (by decide) (by omega) v283 y282 l0 _ _ _ (fun _ => True) (fun _ => False) rfl rfl ?aO ?aR (fun _ _ h => h) (fun _ h => h.elim) ?aF ?aB ?aS ?aL ?_; (case aR => repeat (first | exact (Kd.C_below HR0.out HB.out) | (with_reducible refine Kd.C_alloc ?_ _) | (with_reducible refine Kd.C_drewN ?_ _) | (with_reducible refine Kd.C_drew ?_))); (case aB => exact (by repeat (first | (with_reducible first | exact HB.out | apply below_alloc | apply pw_below_drewN | apply below_drew1) | exact HB.out))); (case aF => exact (fun _ _ => trivial)); (case aO => exact (by (with_reducible repeat (first | apply Kd.R_alloc | apply Kd.R_drewN | apply Kd.R_drew)); exact HO284.out)); (case aS => exact (below_size (by repeat (first | (with_reducible first | exact HB.out | apply below_alloc | apply pw_below_drewN | apply below_drew1) | exact HB.out)))); (case aL => have := LMc13.out; omega); intro v286 w21 ho hb hg hat; rw [← Ny285.out] at ho; have n0_ := Aside0.mk (hb); have n1_ := Aside0.mk (ho); clear HB; clear HO284; have HB := n0_; have HO287 := n1_; clear n0_ n1_; clear ho hb hg hat) | ((with_reducible refine gate_builtin (b := .append) (xs := #[.tmp 39, .tmp 40]) rfl ?_); (try (refine gate_guard (by rfl) ?_; dsimp only)); at_builtin; refine Kd.R_append_rows k27 (w0 := w) w.heap.size rfl (.tmp 39) (.tmp 40) 22 27 (.agg #[(.int .i64 0), (.int .i64 0), (.string ⟨#[]⟩)]) 32 rfl Try.underlying22 info27 rfl (by decide) (by omega) v286 y285 l1 _ _ _ (fun _ => True) (fun _ => False) rfl rfl ?aO ?aR (fun _ _ h => h) (fun _ h => h.elim) ?aF ?aB ?aS ?aL ?_; (case aR => repeat (first | exact (Kd.C_below HR1.out HB.out) | (with_reducible refine Kd.C_alloc ?_ _) | (with_reducible refine Kd.C_drewN ?_ _) | (with_reducible refine Kd.C_drew ?_))); (case aB => exact (by repeat (first | (with_reducible first | exact HB.out | apply below_alloc | apply pw_below_drewN | apply below_drew1) | exact HB.out))); (case aF => exact (fun _ _ => trivial)); (case aO => exact (by (with_reducible repeat (first | apply Kd.R_alloc | apply Kd.R_drewN | apply Kd.R_drew)); exact HO287.out)); (case aS => exact (below_size (by repeat (first | (with_reducible first | exact HB.out | apply below_alloc | apply pw_below_drewN | apply below_drew1) | exact HB.out)))); (case aL => have := LMc14.out; omega); intro v289 w22 ho hb hg hat; rw [← Ny288.out] at ho; have n0_ := Aside0.mk (hb); have n1_ := Aside0.mk (ho); clear HB; clear HO287; have HB := n0_; have HO290 := n1_; clear n0_ n1_; clear ho hb hg hat) | ((with_reducible refine gate_callee (f := 10) rfl ?_); refine goesL_ (some 44) rfl rfl Try.func10 (by kernel_rfl) rfl #[.int .i64 3, .slice A0 l0.length c0] rfl (by (try simp only [List.map_toArray, List.map_cons, List.map_nil]); first | done | rfl | (simp only [List.length_drop, List.length_take]; rfl)) ?_; (with_reducible refine (fold_Of.calls kj2 3 _ _ l0 t291 t292 t293 t294 _ ?side1 ?side2 A15.out).mono ?_); (case side1 => repeat (first | exact (Kd.C_below HR0.out HB.out) | (with_reducible refine Kd.C_alloc ?_ _) | (with_reducible refine Kd.C_drewN ?_ _) | (with_reducible refine Kd.C_drew ?_))); (case side2 => exact HC0.out); rintro e w23 ⟨rfl, hb⟩; refine ⟨_, rfl, ?_⟩; have n0_ := Aside0.mk (Kd.R_below (by (with_reducible repeat (first | apply Kd.R_alloc | apply Kd.R_drewN | apply Kd.R_drew)); exact HO290.out) hb); have n1_ := Aside0.mk (below_step (by repeat (first | (with_reducible first | exact HB.out | apply below_alloc | apply pw_below_drewN | apply below_drew1) | exact HB.out)) hb); clear HO290; clear HB; have HO290 := n0_; have HB := n1_; clear n0_ n1_; (try clear hb); (try clear hb2); (try clear hk); (try clear hi)) | ((with_reducible refine gate_dst (N := 6) rfl ?_); (try (refine gate_guard (by rfl) ?_; dsimp only)); refine box_event ?hg (N := 6) ?hd (cs := #[.int .i64 0, .int .i64 0, .string (⟨#[]⟩ : ByteArray)]) (t := 27) ?hr ?_; (case hd => rfl); (case hg => rfl); (case hr => first | (go_simp; done) | (go_simp; rfl)); intro gb295 hg w24 hbox hb; have n0_ := Aside0.mk (Kd.R_below (Kd.R_elderB (by (with_reducible repeat (first | apply Kd.R_alloc | apply Kd.R_drewN | apply Kd.R_drew)); exact HO290.out) gb295 (Nat.le_of_eq hg.symm)) hb); have n1_ := Aside0.mk (below_step (by repeat (first | (with_reducible first | exact HB.out | apply below_alloc | apply pw_below_drewN | apply below_drew1) | exact HB.out)) hb); have n2_ := Aside0.mk (hbox); have n3_ := Aside0.mk ((by rw [hg]; exact (below_size (by repeat (first | (with_reducible first | exact HB.out | apply below_alloc | apply pw_below_drewN | apply below_drew1) | exact HB.out))) : w.heap.size ≤ gb295)); have n4_ := Aside0.mk ((by rw [hg]; exact (below_size (by repeat (first | (with_reducible first | exact HB.out | apply below_alloc | apply pw_below_drewN | apply below_drew1) | exact HB.out))) : w.heap.size ≤ gb295)); clear HO290; clear HB; have HO290 := n0_; have HB := n1_; have BK295 := n2_; have GW295 := n3_; have GE295 := n4_; clear n0_ n1_ n2_ n3_ n4_; clear hb hbox hg; have hcz25_0 : w24.cell? ⟨gb295, 0, none⟩ = some (.int .i64 0) := (blk_cell BK295.out 0).trans rfl; have hcz25_1 : w24.cell? ⟨gb295, 1, none⟩ = some (.int .i64 0) := (blk_cell BK295.out 1).trans rfl; have hcz25_2 : w24.cell? ⟨gb295, 2, none⟩ = some (.string (⟨#[]⟩ : ByteArray)) := (blk_cell BK295.out 2).trans rfl; have hfz25_0 := blk_frozen BK295.out 0; have hfz25_1 := blk_frozen BK295.out 1; have hfz25_2 := blk_frozen BK295.out 2) | ((with_reducible refine gate_callee (f := 10) rfl ?_); refine goesL_ (some 49) rfl rfl Try.func10 (by kernel_rfl) rfl #[.int .i64 3, .slice A1 l1.length c1] rfl (by (try simp only [List.map_toArray, List.map_cons, List.map_nil]); first | done | rfl | (simp only [List.length_drop, List.length_take]; rfl)) ?_; (with_reducible refine (fold_Of.calls kj2 3 _ _ l1 t296 t297 t298 t299 _ ?side1 ?side2 A16.out).mono ?_); (case side1 => exact Kd.C_below HR1.out (by repeat (first | (with_reducible first | exact HB.out | apply below_alloc | apply pw_below_drewN | apply below_drew1 | refine below_set ?_ GE295.out) | exact HB.out))); (case side2 => exact HC1.out); rintro e w26 ⟨rfl, hb⟩; refine ⟨_, rfl, ?_⟩; have n0_ := Aside0.mk (Kd.R_below (by (with_reducible repeat (first | apply Kd.R_alloc | apply Kd.R_drewN | apply Kd.R_drew)); exact (Kd.R_mono (Kd.R_far (p := ⟨gb295, 2, none⟩) (Kd.R_far (p := ⟨gb295, 1, none⟩) (Kd.R_far (p := ⟨gb295, 0, none⟩) (Kd.R_mono HO290.out (fun k_ hk => (⟨hk, hk.2⟩ : _ ∧ k_ ≠ gb295))) (fun _ hk => hk.2) (.int .i64 t291)) (fun _ hk => hk.2) (.int .i64 t292)) (fun _ hk => hk.2) (.string t293)) (fun _ h_ => h_.1))) hb); have n1_ := Aside0.mk (blk_below (g := gb295) (o := .cells #[.int .i64 t291, .int .i64 t292, .string t293] 27 (0, 0)) (by (with_reducible repeat (first | refine blk_drewN ?_ _ | refine blk_drew ?_ | refine blk_alloc ?_ _)); refine blk_put (cs := #[.int .i64 t291, .int .i64 t292, .string (⟨#[]⟩ : ByteArray)]) ?_ 2 _ rfl; (with_reducible repeat (first | refine blk_drewN ?_ _ | refine blk_drew ?_ | refine blk_alloc ?_ _)); refine blk_put (cs := #[.int .i64 t291, .int .i64 0, .string (⟨#[]⟩ : ByteArray)]) ?_ 1 _ rfl; (with_reducible repeat (first | refine blk_drewN ?_ _ | refine blk_drew ?_ | refine blk_alloc ?_ _)); refine blk_put (cs := #[.int .i64 0, .int .i64 0, .string (⟨#[]⟩ : ByteArray)]) ?_ 0 _ rfl; (with_reducible repeat (first | refine blk_drewN ?_ _ | refine blk_drew ?_ | refine blk_alloc ?_ _)); exact BK295.out) hb); have n2_ := Aside0.mk (below_step (by repeat (first | (with_reducible first | exact HB.out | apply below_alloc | apply pw_below_drewN | apply below_drew1 | refine below_set ?_ GE295.out) | exact HB.out)) hb); clear HO290; clear BK295; clear HB; have HO290 := n0_; have BK295 := n1_; have HB := n2_; clear n0_ n1_ n2_; (try clear hb); (try clear hb2); (try clear hk); (try clear hi)) | ((with_reducible refine gate_dst (N := 8) rfl ?_); (try (refine gate_guard (by rfl) ?_; dsimp only)); refine box_event ?hg (N := 8) ?hd (cs := #[.int .i64 0, .int .i64 0, .string (⟨#[]⟩ : ByteArray)]) (t := 27) ?hr ?_; (case hd => rfl); (case hg => rfl); (case hr => first | (go_simp; done) | (go_simp; rfl)); intro gb300 hg w27 hbox hb; have n0_ := Aside0.mk (Kd.R_below (Kd.R_elderB (by (with_reducible repeat (first | apply Kd.R_alloc | apply Kd.R_drewN | apply Kd.R_drew)); exact HO290.out) gb300 (Nat.le_of_eq hg.symm)) hb); have n1_ := Aside0.mk (blk_below (g := gb295) (o := .cells #[.int .i64 t291, .int .i64 t292, .string t293] 27 (0, 0)) (by (with_reducible repeat (first | refine blk_drewN ?_ _ | refine blk_drew ?_ | refine blk_alloc ?_ _)); exact BK295.out) hb); have n2_ := Aside0.mk (below_step (by repeat (first | (with_reducible first | exact HB.out | apply below_alloc | apply pw_below_drewN | apply below_drew1 | refine below_set ?_ GE295.out) | exact HB.out)) hb); have n3_ := Aside0.mk (hbox); have n4_ := Aside0.mk ((by rw [hg]; exact (below_size (by repeat (first | (with_reducible first | exact HB.out | apply below_alloc | apply pw_below_drewN | apply below_drew1 | refine below_set ?_ GE295.out) | exact HB.out))) : w.heap.size ≤ gb300)); have n5_ := Aside0.mk ((by rw [hg]; exact (below_size (by repeat (first | (with_reducible first | exact HB.out | apply below_alloc | apply pw_below_drewN | apply below_drew1 | refine below_set ?_ GE295.out) | exact HB.out))) : w.heap.size ≤ gb300)); have n6_ := Aside0.mk ((by rw [hg]; exact Nat.ne_of_lt (blk_lt (g := gb295) (o := .cells #[.int .i64 t291, .int .i64 t292, .string t293] 27 (0, 0)) (by (with_reducible repeat (first | refine blk_drewN ?_ _ | refine blk_drew ?_ | refine blk_alloc ?_ _)); exact BK295.out)) : gb295 ≠ gb300)); have n7_ := Aside0.mk ((by rw [hg]; exact Nat.ne_of_gt (blk_lt (g := gb295) (o := .cells #[.int .i64 t291, .int .i64 t292, .string t293] 27 (0, 0)) (by (with_reducible repeat (first | refine blk_drewN ?_ _ | refine blk_drew ?_ | refine blk_alloc ?_ _)); exact BK295.out)) : gb300 ≠ gb295)); clear HO290; clear BK295; clear HB; have HO290 := n0_; have BK295 := n1_; have HB := n2_; have BK300 := n3_; have GW300 := n4_; have GE300 := n5_; have NB295_300 := n6_; have NB300_295 := n7_; clear n0_ n1_ n2_ n3_ n4_ n5_ n6_ n7_; clear hb hbox hg; have hnb28 := NB300_295.out; have hnc28 := NB295_300.out; have hcz29_0 : w27.cell? ⟨gb300, 0, none⟩ = some (.int .i64 0) := (blk_cell BK300.out 0).trans rfl; have hcz29_1 : w27.cell? ⟨gb300, 1, none⟩ = some (.int .i64 0) := (blk_cell BK300.out 1).trans rfl; have hcz29_2 : w27.cell? ⟨gb300, 2, none⟩ = some (.string (⟨#[]⟩ : ByteArray)) := (blk_cell BK300.out 2).trans rfl; have hfz29_0 := blk_frozen BK300.out 0; have hfz29_1 := blk_frozen BK300.out 1; have hfz29_2 := blk_frozen BK300.out 2; obtain ⟨Ao30, co30, eo30⟩ := Kd.R_slice HO290.out; subst eo30) | ((with_reducible refine gate_callee (f := 10) rfl ?_); refine goesL_ (some 54) rfl rfl Try.func10 (by kernel_rfl) rfl #[.int .i64 3, .slice Ao30 y288.length co30] rfl (by (try simp only [List.map_toArray, List.map_cons, List.map_nil]); first | done | rfl | (simp only [List.length_drop, List.length_take]; rfl)) ?_; (with_reducible refine (fold_Of.calls kj2 3 _ _ y288 t301 t302 t303 t304 _ ?side1 ?side2 A17.out).mono ?_); (case side1 => refine (Kd.R_reads' (e := 27) (base := w.heap.size) (ok := fun k_ => ((True ∧ k_ ≠ gb295) ∧ k_ ≠ gb300)) (n := y288.length) (c := co30) ?_).2.2; exact (by (with_reducible repeat (first | apply Kd.R_alloc | apply Kd.R_drewN | apply Kd.R_drew)); exact (Kd.R_mono (Kd.R_far (p := ⟨gb300, 2, none⟩) (Kd.R_far (p := ⟨gb300, 1, none⟩) (Kd.R_far (p := ⟨gb300, 0, none⟩) (Kd.R_mono HO290.out (fun k_ hk => (⟨hk, hk.2⟩ : _ ∧ k_ ≠ gb300))) (fun _ hk => hk.2) (.int .i64 t296)) (fun _ hk => hk.2) (.int .i64 t297)) (fun _ hk => hk.2) (.string t298)) (fun _ h_ => h_.1)))); (case side2 => exact (Kd.R_reads' HO290.out).2.1); rintro e w31 ⟨rfl, hb⟩; refine ⟨_, rfl, ?_⟩; have n0_ := Aside0.mk (Kd.R_below (by (with_reducible repeat (first | apply Kd.R_alloc | apply Kd.R_drewN | apply Kd.R_drew)); exact (Kd.R_mono (Kd.R_far (p := ⟨gb300, 2, none⟩) (Kd.R_far (p := ⟨gb300, 1, none⟩) (Kd.R_far (p := ⟨gb300, 0, none⟩) (Kd.R_mono HO290.out (fun k_ hk => (⟨hk, hk.2⟩ : _ ∧ k_ ≠ gb300))) (fun _ hk => hk.2) (.int .i64 t296)) (fun _ hk => hk.2) (.int .i64 t297)) (fun _ hk => hk.2) (.string t298)) (fun _ h_ => h_.1))) hb); have n1_ := Aside0.mk (blk_below (g := gb295) (o := .cells #[.int .i64 t291, .int .i64 t292, .string t293] 27 (0, 0)) (by (with_reducible repeat (first | refine blk_drewN ?_ _ | refine blk_drew ?_ | refine blk_alloc ?_ _)); refine blk_far ?_ NB295_300.out _; (with_reducible repeat (first | refine blk_drewN ?_ _ | refine blk_drew ?_ | refine blk_alloc ?_ _)); refine blk_far ?_ NB295_300.out _; (with_reducible repeat (first | refine blk_drewN ?_ _ | refine blk_drew ?_ | refine blk_alloc ?_ _)); refine blk_far ?_ NB295_300.out _; (with_reducible repeat (first | refine blk_drewN ?_ _ | refine blk_drew ?_ | refine blk_alloc ?_ _)); exact BK295.out) hb); have n2_ := Aside0.mk (blk_below (g := gb300) (o := .cells #[.int .i64 t296, .int .i64 t297, .string t298] 27 (0, 0)) (by (with_reducible repeat (first | refine blk_drewN ?_ _ | refine blk_drew ?_ | refine blk_alloc ?_ _)); refine blk_put (cs := #[.int .i64 t296, .int .i64 t297, .string (⟨#[]⟩ : ByteArray)]) ?_ 2 _ rfl; (with_reducible repeat (first | refine blk_drewN ?_ _ | refine blk_drew ?_ | refine blk_alloc ?_ _)); refine blk_put (cs := #[.int .i64 t296, .int .i64 0, .string (⟨#[]⟩ : ByteArray)]) ?_ 1 _ rfl; (with_reducible repeat (first | refine blk_drewN ?_ _ | refine blk_drew ?_ | refine blk_alloc ?_ _)); refine blk_put (cs := #[.int .i64 0, .int .i64 0, .string (⟨#[]⟩ : ByteArray)]) ?_ 0 _ rfl; (with_reducible repeat (first | refine blk_drewN ?_ _ | refine blk_drew ?_ | refine blk_alloc ?_ _)); exact BK300.out) hb); have n3_ := Aside0.mk (below_step (by repeat (first | (with_reducible first | exact HB.out | apply below_alloc | apply pw_below_drewN | apply below_drew1 | refine below_set ?_ GE295.out | refine below_set ?_ GE300.out) | exact HB.out)) hb); clear HO290; clear BK295; clear BK300; clear HB; have HO290 := n0_; have BK295 := n1_; have BK300 := n2_; have HB := n3_; clear n0_ n1_ n2_ n3_; (try clear hb); (try clear hb2); (try clear hk); (try clear hi)) | ((with_reducible refine gate_dst (N := 10) rfl ?_); (try (refine gate_guard (by rfl) ?_; dsimp only)); refine box_event ?hg (N := 10) ?hd (cs := #[.int .i64 0, .int .i64 0, .string (⟨#[]⟩ : ByteArray)]) (t := 27) ?hr ?_; (case hd => rfl); (case hg => rfl); (case hr => first | (go_simp; done) | (go_simp; rfl)); intro gb305 hg w32 hbox hb; have n0_ := Aside0.mk (Kd.R_below (Kd.R_elderB (by (with_reducible repeat (first | apply Kd.R_alloc | apply Kd.R_drewN | apply Kd.R_drew)); exact HO290.out) gb305 (Nat.le_of_eq hg.symm)) hb); have n1_ := Aside0.mk (blk_below (g := gb295) (o := .cells #[.int .i64 t291, .int .i64 t292, .string t293] 27 (0, 0)) (by (with_reducible repeat (first | refine blk_drewN ?_ _ | refine blk_drew ?_ | refine blk_alloc ?_ _)); exact BK295.out) hb); have n2_ := Aside0.mk (blk_below (g := gb300) (o := .cells #[.int .i64 t296, .int .i64 t297, .string t298] 27 (0, 0)) (by (with_reducible repeat (first | refine blk_drewN ?_ _ | refine blk_drew ?_ | refine blk_alloc ?_ _)); exact BK300.out) hb); have n3_ := Aside0.mk (below_step (by repeat (first | (with_reducible first | exact HB.out | apply below_alloc | apply pw_below_drewN | apply below_drew1 | refine below_set ?_ GE295.out | refine below_set ?_ GE300.out) | exact HB.out)) hb); have n4_ := Aside0.mk (hbox); have n5_ := Aside0.mk ((by rw [hg]; exact (below_size (by repeat (first | (with_reducible first | exact HB.out | apply below_alloc | apply pw_below_drewN | apply below_drew1 | refine below_set ?_ GE295.out | refine below_set ?_ GE300.out) | exact HB.out))) : w.heap.size ≤ gb305)); have n6_ := Aside0.mk ((by rw [hg]; exact (below_size (by repeat (first | (with_reducible first | exact HB.out | apply below_alloc | apply pw_below_drewN | apply below_drew1 | refine below_set ?_ GE295.out | refine below_set ?_ GE300.out) | exact HB.out))) : w.heap.size ≤ gb305)); have n7_ := Aside0.mk ((by rw [hg]; exact Nat.ne_of_lt (blk_lt (g := gb295) (o := .cells #[.int .i64 t291, .int .i64 t292, .string t293] 27 (0, 0)) (by (with_reducible repeat (first | refine blk_drewN ?_ _ | refine blk_drew ?_ | refine blk_alloc ?_ _)); exact BK295.out)) : gb295 ≠ gb305)); have n8_ := Aside0.mk ((by rw [hg]; exact Nat.ne_of_gt (blk_lt (g := gb295) (o := .cells #[.int .i64 t291, .int .i64 t292, .string t293] 27 (0, 0)) (by (with_reducible repeat (first | refine blk_drewN ?_ _ | refine blk_drew ?_ | refine blk_alloc ?_ _)); exact BK295.out)) : gb305 ≠ gb295)); have n9_ := Aside0.mk ((by rw [hg]; exact Nat.ne_of_lt (blk_lt (g := gb300) (o := .cells #[.int .i64 t296, .int .i64 t297, .string t298] 27 (0, 0)) (by (with_reducible repeat (first | refine blk_drewN ?_ _ | refine blk_drew ?_ | refine blk_alloc ?_ _)); exact BK300.out)) : gb300 ≠ gb305)); have n10_ := Aside0.mk ((by rw [hg]; exact Nat.ne_of_gt (blk_lt (g := gb300) (o := .cells #[.int .i64 t296, .int .i64 t297, .string t298] 27 (0, 0)) (by (with_reducible repeat (first | refine blk_drewN ?_ _ | refine blk_drew ?_ | refine blk_alloc ?_ _)); exact BK300.out)) : gb305 ≠ gb300)); clear HO290; clear BK295; clear BK300; clear HB; have HO290 := n0_; have BK295 := n1_; have BK300 := n2_; have HB := n3_; have BK305 := n4_; have GW305 := n5_; have GE305 := n6_; have NB295_305 := n7_; have NB305_295 := n8_; have NB300_305 := n9_; have NB305_300 := n10_; clear n0_ n1_ n2_ n3_ n4_ n5_ n6_ n7_ n8_ n9_ n10_; clear hb hbox hg; have hnb33 := NB305_295.out; have hnc33 := NB295_305.out; have hnb34 := NB305_300.out; have hnc34 := NB300_305.out; have hcz35_0 : w32.cell? ⟨gb305, 0, none⟩ = some (.int .i64 0) := (blk_cell BK305.out 0).trans rfl; have hcz35_1 : w32.cell? ⟨gb305, 1, none⟩ = some (.int .i64 0) := (blk_cell BK305.out 1).trans rfl; have hcz35_2 : w32.cell? ⟨gb305, 2, none⟩ = some (.string (⟨#[]⟩ : ByteArray)) := (blk_cell BK305.out 2).trans rfl; have hfz35_0 := blk_frozen BK305.out 0; have hfz35_1 := blk_frozen BK305.out 1; have hfz35_2 := blk_frozen BK305.out 2))
            (try simp only [Act.put, List.setIfInBounds_toArray, List.set_cons_zero, List.set_cons_succ])
            go_cut [66] (fun v66 wc => ∃ (kq : Nat) (x66_17 : Bool), v66 = .bool x66_17 ∧ Aside0 (antecedentlaw20_FoldJoins.j1 kq l0 l1 y288 t304 x66_17 t291 t292 t293 t296 t297 t298 t301 t302 t303 = some r) ∧ Aside0 (kq ≤ kj2) ∧ Aside0 (Kd.R k27 27 wc w.heap.size (fun k_ => k_ ≠ gb295 ∧ k_ ≠ gb300 ∧ k_ ≠ gb305) (.slice Ao30 y288.length co30) y288) ∧ Aside0 (wc.heap[gb295]? = some (.cells #[.int .i64 t291, .int .i64 t292, .string t293] 27 (0, 0))) ∧ Aside0 (wc.heap[gb300]? = some (.cells #[.int .i64 t296, .int .i64 t297, .string t298] 27 (0, 0))) ∧ Aside0 (wc.heap[gb305]? = some (.cells #[.int .i64 t301, .int .i64 t302, .string t303] 27 (0, 0))) ∧ Aside0 (Below w.heap.size w wc))
            case first =>
              have H := HC18.out
              clear HC18
              by_cases c36 : t294 = 0
              · rw [if_pos c36] at H
                have c36b0 : (t294 == 0) = true := beq_iff_eq.mpr c36
                have c36b1 : (t294 != 0) = false := bne_eq_false_iff_eq.mpr c36
                clear c36
                (first | rw [c36b0] | (simp only [i64_w, i32_w]; rw [c36b0]) | skip)
                by_cases c37 : t299 = 0
                · rw [if_pos c37] at H
                  have c37b0 : (t299 == 0) = true := beq_iff_eq.mpr c37
                  have c37b1 : (t299 != 0) = false := bne_eq_false_iff_eq.mpr c37
                  clear c37
                  have H' := Aside0.mk H
                  clear H
                  go_wp2
                  go_meet
                  case rel => exact ⟨_, ((t304 != 0)), (by first | rfl | (simp; done) | (simp [*]; done)), H', ⟨by have := HJ2.out; first | omega | exact Nat.le_refl _⟩, ⟨by (with_reducible repeat (first | apply Kd.R_alloc | apply Kd.R_drewN | apply Kd.R_drew)); exact Kd.R_mono (Kd.R_far (p := ⟨gb305, 2, none⟩) (Kd.R_far (p := ⟨gb305, 1, none⟩) (Kd.R_far (p := ⟨gb305, 0, none⟩) (Kd.R_mono HO290.out (fun k_ hk => (⟨hk, hk.2⟩ : _ ∧ k_ ≠ gb305))) (fun _ hk => hk.2) (.int .i64 t301)) (fun _ hk => hk.2) (.int .i64 t302)) (fun _ hk => hk.2) (.string t303)) (fun _ hk => ⟨hk.1.1.1.2, ⟨hk.1.1.2, hk.1.2⟩⟩)⟩, ⟨by (with_reducible repeat (first | refine blk_drewN ?_ _ | refine blk_drew ?_ | refine blk_alloc ?_ _)); refine blk_far ?_ NB295_305.out _; (with_reducible repeat (first | refine blk_drewN ?_ _ | refine blk_drew ?_ | refine blk_alloc ?_ _)); refine blk_far ?_ NB295_305.out _; (with_reducible repeat (first | refine blk_drewN ?_ _ | refine blk_drew ?_ | refine blk_alloc ?_ _)); refine blk_far ?_ NB295_305.out _; (with_reducible repeat (first | refine blk_drewN ?_ _ | refine blk_drew ?_ | refine blk_alloc ?_ _)); exact BK295.out⟩, ⟨by (with_reducible repeat (first | refine blk_drewN ?_ _ | refine blk_drew ?_ | refine blk_alloc ?_ _)); refine blk_far ?_ NB300_305.out _; (with_reducible repeat (first | refine blk_drewN ?_ _ | refine blk_drew ?_ | refine blk_alloc ?_ _)); refine blk_far ?_ NB300_305.out _; (with_reducible repeat (first | refine blk_drewN ?_ _ | refine blk_drew ?_ | refine blk_alloc ?_ _)); refine blk_far ?_ NB300_305.out _; (with_reducible repeat (first | refine blk_drewN ?_ _ | refine blk_drew ?_ | refine blk_alloc ?_ _)); exact BK300.out⟩, ⟨by (with_reducible repeat (first | refine blk_drewN ?_ _ | refine blk_drew ?_ | refine blk_alloc ?_ _)); refine blk_put (cs := #[.int .i64 t301, .int .i64 t302, .string (⟨#[]⟩ : ByteArray)]) ?_ 2 _ rfl; (with_reducible repeat (first | refine blk_drewN ?_ _ | refine blk_drew ?_ | refine blk_alloc ?_ _)); refine blk_put (cs := #[.int .i64 t301, .int .i64 0, .string (⟨#[]⟩ : ByteArray)]) ?_ 1 _ rfl; (with_reducible repeat (first | refine blk_drewN ?_ _ | refine blk_drew ?_ | refine blk_alloc ?_ _)); refine blk_put (cs := #[.int .i64 0, .int .i64 0, .string (⟨#[]⟩ : ByteArray)]) ?_ 0 _ rfl; (with_reducible repeat (first | refine blk_drewN ?_ _ | refine blk_drew ?_ | refine blk_alloc ?_ _)); exact BK305.out⟩, ⟨by repeat (first | (with_reducible first | exact HB.out | apply below_alloc | apply pw_below_drewN | apply below_drew1 | refine below_set ?_ GE295.out | refine below_set ?_ GE300.out | refine below_set ?_ GE305.out) | exact HB.out)⟩⟩
                · rw [if_neg c37] at H
                  have c37b0 : (t299 == 0) = false := beq_eq_false_iff_ne.mpr c37
                  have c37b1 : (t299 != 0) = true := bne_iff_ne.mpr c37
                  have H' := Aside0.mk H
                  clear H
                  go_wp2
                  go_meet
                  case rel => exact ⟨_, (true), (by first | rfl | (simp; done) | (simp [*]; done)), H', ⟨by have := HJ2.out; first | omega | exact Nat.le_refl _⟩, ⟨by (with_reducible repeat (first | apply Kd.R_alloc | apply Kd.R_drewN | apply Kd.R_drew)); exact Kd.R_mono (Kd.R_far (p := ⟨gb305, 2, none⟩) (Kd.R_far (p := ⟨gb305, 1, none⟩) (Kd.R_far (p := ⟨gb305, 0, none⟩) (Kd.R_mono HO290.out (fun k_ hk => (⟨hk, hk.2⟩ : _ ∧ k_ ≠ gb305))) (fun _ hk => hk.2) (.int .i64 t301)) (fun _ hk => hk.2) (.int .i64 t302)) (fun _ hk => hk.2) (.string t303)) (fun _ hk => ⟨hk.1.1.1.2, ⟨hk.1.1.2, hk.1.2⟩⟩)⟩, ⟨by (with_reducible repeat (first | refine blk_drewN ?_ _ | refine blk_drew ?_ | refine blk_alloc ?_ _)); refine blk_far ?_ NB295_305.out _; (with_reducible repeat (first | refine blk_drewN ?_ _ | refine blk_drew ?_ | refine blk_alloc ?_ _)); refine blk_far ?_ NB295_305.out _; (with_reducible repeat (first | refine blk_drewN ?_ _ | refine blk_drew ?_ | refine blk_alloc ?_ _)); refine blk_far ?_ NB295_305.out _; (with_reducible repeat (first | refine blk_drewN ?_ _ | refine blk_drew ?_ | refine blk_alloc ?_ _)); exact BK295.out⟩, ⟨by (with_reducible repeat (first | refine blk_drewN ?_ _ | refine blk_drew ?_ | refine blk_alloc ?_ _)); refine blk_far ?_ NB300_305.out _; (with_reducible repeat (first | refine blk_drewN ?_ _ | refine blk_drew ?_ | refine blk_alloc ?_ _)); refine blk_far ?_ NB300_305.out _; (with_reducible repeat (first | refine blk_drewN ?_ _ | refine blk_drew ?_ | refine blk_alloc ?_ _)); refine blk_far ?_ NB300_305.out _; (with_reducible repeat (first | refine blk_drewN ?_ _ | refine blk_drew ?_ | refine blk_alloc ?_ _)); exact BK300.out⟩, ⟨by (with_reducible repeat (first | refine blk_drewN ?_ _ | refine blk_drew ?_ | refine blk_alloc ?_ _)); refine blk_put (cs := #[.int .i64 t301, .int .i64 t302, .string (⟨#[]⟩ : ByteArray)]) ?_ 2 _ rfl; (with_reducible repeat (first | refine blk_drewN ?_ _ | refine blk_drew ?_ | refine blk_alloc ?_ _)); refine blk_put (cs := #[.int .i64 t301, .int .i64 0, .string (⟨#[]⟩ : ByteArray)]) ?_ 1 _ rfl; (with_reducible repeat (first | refine blk_drewN ?_ _ | refine blk_drew ?_ | refine blk_alloc ?_ _)); refine blk_put (cs := #[.int .i64 0, .int .i64 0, .string (⟨#[]⟩ : ByteArray)]) ?_ 0 _ rfl; (with_reducible repeat (first | refine blk_drewN ?_ _ | refine blk_drew ?_ | refine blk_alloc ?_ _)); exact BK305.out⟩, ⟨by repeat (first | (with_reducible first | exact HB.out | apply below_alloc | apply pw_below_drewN | apply below_drew1 | refine below_set ?_ GE295.out | refine below_set ?_ GE300.out | refine below_set ?_ GE305.out) | exact HB.out)⟩⟩
              · rw [if_neg c36] at H
                have c36b0 : (t294 == 0) = false := beq_eq_false_iff_ne.mpr c36
                have c36b1 : (t294 != 0) = true := bne_iff_ne.mpr c36
                (first | rw [c36b0] | (simp only [i64_w, i32_w]; rw [c36b0]) | skip)
                have H' := Aside0.mk H
                clear H
                go_wp2
                go_meet
                case rel => exact ⟨_, (true), (by first | rfl | (simp; done) | (simp [*]; done)), H', ⟨by have := HJ2.out; first | omega | exact Nat.le_refl _⟩, ⟨by (with_reducible repeat (first | apply Kd.R_alloc | apply Kd.R_drewN | apply Kd.R_drew)); exact Kd.R_mono (Kd.R_far (p := ⟨gb305, 2, none⟩) (Kd.R_far (p := ⟨gb305, 1, none⟩) (Kd.R_far (p := ⟨gb305, 0, none⟩) (Kd.R_mono HO290.out (fun k_ hk => (⟨hk, hk.2⟩ : _ ∧ k_ ≠ gb305))) (fun _ hk => hk.2) (.int .i64 t301)) (fun _ hk => hk.2) (.int .i64 t302)) (fun _ hk => hk.2) (.string t303)) (fun _ hk => ⟨hk.1.1.1.2, ⟨hk.1.1.2, hk.1.2⟩⟩)⟩, ⟨by (with_reducible repeat (first | refine blk_drewN ?_ _ | refine blk_drew ?_ | refine blk_alloc ?_ _)); refine blk_far ?_ NB295_305.out _; (with_reducible repeat (first | refine blk_drewN ?_ _ | refine blk_drew ?_ | refine blk_alloc ?_ _)); refine blk_far ?_ NB295_305.out _; (with_reducible repeat (first | refine blk_drewN ?_ _ | refine blk_drew ?_ | refine blk_alloc ?_ _)); refine blk_far ?_ NB295_305.out _; (with_reducible repeat (first | refine blk_drewN ?_ _ | refine blk_drew ?_ | refine blk_alloc ?_ _)); exact BK295.out⟩, ⟨by (with_reducible repeat (first | refine blk_drewN ?_ _ | refine blk_drew ?_ | refine blk_alloc ?_ _)); refine blk_far ?_ NB300_305.out _; (with_reducible repeat (first | refine blk_drewN ?_ _ | refine blk_drew ?_ | refine blk_alloc ?_ _)); refine blk_far ?_ NB300_305.out _; (with_reducible repeat (first | refine blk_drewN ?_ _ | refine blk_drew ?_ | refine blk_alloc ?_ _)); refine blk_far ?_ NB300_305.out _; (with_reducible repeat (first | refine blk_drewN ?_ _ | refine blk_drew ?_ | refine blk_alloc ?_ _)); exact BK300.out⟩, ⟨by (with_reducible repeat (first | refine blk_drewN ?_ _ | refine blk_drew ?_ | refine blk_alloc ?_ _)); refine blk_put (cs := #[.int .i64 t301, .int .i64 t302, .string (⟨#[]⟩ : ByteArray)]) ?_ 2 _ rfl; (with_reducible repeat (first | refine blk_drewN ?_ _ | refine blk_drew ?_ | refine blk_alloc ?_ _)); refine blk_put (cs := #[.int .i64 t301, .int .i64 0, .string (⟨#[]⟩ : ByteArray)]) ?_ 1 _ rfl; (with_reducible repeat (first | refine blk_drewN ?_ _ | refine blk_drew ?_ | refine blk_alloc ?_ _)); refine blk_put (cs := #[.int .i64 0, .int .i64 0, .string (⟨#[]⟩ : ByteArray)]) ?_ 0 _ rfl; (with_reducible repeat (first | refine blk_drewN ?_ _ | refine blk_drew ?_ | refine blk_alloc ?_ _)); exact BK305.out⟩, ⟨by repeat (first | (with_reducible first | exact HB.out | apply below_alloc | apply pw_below_drewN | apply below_drew1 | refine below_set ?_ GE295.out | refine below_set ?_ GE300.out | refine below_set ?_ GE305.out) | exact HB.out)⟩⟩
            case rest =>
              clear HC18
              try clear c1
              try clear c2
              try clear p2
              try clear c3
              try clear c5
              try clear c6
              try clear c6b0
              try clear c6b1
              try clear c7
              try clear c8
              try clear c9
              try clear c10
              try clear c11
              try clear c13
              try clear c14
              try clear c28
              try clear c33
              try clear c34
              try clear c36
              try clear c36b0
              try clear c36b1
              try clear c37
              try clear c37b0
              try clear c37b1
              try clear hcz25_0
              try clear hcz25_1
              try clear hcz25_2
              try clear hcz29_0
              try clear hcz29_1
              try clear hcz29_2
              try clear hcz35_0
              try clear hcz35_1
              try clear hcz35_2
              try clear hfz25_0
              try clear hfz25_1
              try clear hfz25_2
              try clear hfz29_0
              try clear hfz29_1
              try clear hfz29_2
              try clear hfz35_0
              try clear hfz35_1
              try clear hfz35_2
              try clear p2
              obtain ⟨kq, x66_17, rfl, HA, HJ17, HO_5, BK295, BK300, BK305, HB⟩ := hcut
              cases kq with
              | zero => exact absurd HA.out (by simp [antecedentlaw20_FoldJoins.j1])
              | succ kj17 =>
                have H := HA.out
                clear HA
                simp only [antecedentlaw20_FoldJoins.j1] at H
                by_cases c38 : x66_17 = true
                · subst c38
                  have H1 : (if t304 = 0 then (if (l0.length : Int) = 0 then (some true) else (some ((l1.length : Int) == 0))) else (some true)) = some r := by rw [if_pos rfl] at H; exact H
                  clear H
                  have H := H1
                  clear H1
                  by_cases c39 : t304 = 0
                  · rw [if_pos c39] at H
                    have c39b0 : (t304 == 0) = true := beq_iff_eq.mpr c39
                    have c39b1 : (t304 != 0) = false := bne_eq_false_iff_eq.mpr c39
                    clear c39
                    by_cases c40 : (l0.length : Int) = 0
                    · rw [if_pos c40] at H
                      have c40b0 : ((l0.length : Int) == 0) = true := beq_iff_eq.mpr c40
                      have c40b1 : ((l0.length : Int) != 0) = false := bne_eq_false_iff_eq.mpr c40
                      clear c40
                      obtain rfl := Option.some.inj H
                      go_wp2
                      go_ret
                      exact ⟨by first | rfl | (simp [errW_none, errW_some] <;> rfl) | (simp [*, errW_none, errW_some] <;> rfl), by repeat (first | (with_reducible first | exact HB.out | apply below_alloc | apply pw_below_drewN | apply below_drew1 | refine below_set ?_ GE295.out | refine below_set ?_ GE300.out | refine below_set ?_ GE305.out) | exact HB.out)⟩
                    · rw [if_neg c40] at H
                      have c40b0 : ((l0.length : Int) == 0) = false := beq_eq_false_iff_ne.mpr c40
                      have c40b1 : ((l0.length : Int) != 0) = true := bne_iff_ne.mpr c40
                      have c40b2 : ¬ (l0 = []) := fun h_ => c40 (by rw [h_]; rfl)
                      obtain rfl := Option.some.inj H
                      go_wp2
                      go_ret
                      exact ⟨by first | rfl | (simp [errW_none, errW_some] <;> rfl) | (simp [*, errW_none, errW_some] <;> rfl), by repeat (first | (with_reducible first | exact HB.out | apply below_alloc | apply pw_below_drewN | apply below_drew1 | refine below_set ?_ GE295.out | refine below_set ?_ GE300.out | refine below_set ?_ GE305.out) | exact HB.out)⟩
                  · rw [if_neg c39] at H
                    have c39b0 : (t304 == 0) = false := beq_eq_false_iff_ne.mpr c39
                    have c39b1 : (t304 != 0) = true := bne_iff_ne.mpr c39
                    obtain rfl := Option.some.inj H
                    go_wp2
                    go_ret
                    exact ⟨by first | rfl | (simp [errW_none, errW_some] <;> rfl) | (simp [*, errW_none, errW_some] <;> rfl), by repeat (first | (with_reducible first | exact HB.out | apply below_alloc | apply pw_below_drewN | apply below_drew1 | refine below_set ?_ GE295.out | refine below_set ?_ GE300.out | refine below_set ?_ GE305.out) | exact HB.out)⟩
                · replace c38 := Bool.eq_false_iff.mpr c38
                  subst c38
                  have H1 : ((fold_Of.f kj17 4 l0).bind fun bt306 => ((fold_Of.f kj17 4 l1).bind fun bt311 => ((fold_Of.f kj17 4 y288).bind fun bt316 => ((fold_Of.f kj17 1 l0).bind fun bt321 => ((fold_Of.f kj17 1 l1).bind fun bt326 => ((fold_Of.f kj17 1 y288).bind fun bt331 => ((antecedentref02_Compare.f t291 t292 t293 t296 t297 t298).bind fun t336 => (if t336 > 0 then ((antecedentref02_Compare.f bt306.1 bt306.2.1 bt306.2.2.1 bt311.1 bt311.2.1 bt311.2.2.1).bind fun t337 => (if t337 < 0 then (if (t301 == t296 && (t302 == t297 && (t303.toList == t298.toList))) = true then (if (bt316.1 == bt311.1 && (bt316.2.1 == bt311.2.1 && (bt316.2.2.1.toList == bt311.2.2.1.toList))) = true then (if bt331.2.1 ≤ (wrap64 (bt321.2.1 + bt326.2.1)) then (some (decide (bt331.2.1 ≥ (mx bt321.2.1 bt326.2.1)))) else (none)) else (none)) else (none)) else (if (t301 == t296 && (t302 == t297 && (t303.toList == t298.toList))) = true then (if (bt316.1 == bt306.1 && (bt316.2.1 == bt306.2.1 && (bt316.2.2.1.toList == bt306.2.2.1.toList))) = true then (if bt331.2.1 ≤ (wrap64 (bt321.2.1 + bt326.2.1)) then (some (decide (bt331.2.1 ≥ (mx bt321.2.1 bt326.2.1)))) else (none)) else (none)) else (none)))) else ((antecedentref02_Compare.f bt306.1 bt306.2.1 bt306.2.2.1 bt311.1 bt311.2.1 bt311.2.2.1).bind fun t338 => (if t338 < 0 then (if (t301 == t291 && (t302 == t292 && (t303.toList == t293.toList))) = true then (if (bt316.1 == bt311.1 && (bt316.2.1 == bt311.2.1 && (bt316.2.2.1.toList == bt311.2.2.1.toList))) = true then (if bt331.2.1 ≤ (wrap64 (bt321.2.1 + bt326.2.1)) then (some (decide (bt331.2.1 ≥ (mx bt321.2.1 bt326.2.1)))) else (none)) else (none)) else (none)) else (if (t301 == t291 && (t302 == t292 && (t303.toList == t293.toList))) = true then (if (bt316.1 == bt306.1 && (bt316.2.1 == bt306.2.1 && (bt316.2.2.1.toList == bt306.2.2.1.toList))) = true then (if bt331.2.1 ≤ (wrap64 (bt321.2.1 + bt326.2.1)) then (some (decide (bt331.2.1 ≥ (mx bt321.2.1 bt326.2.1)))) else (none)) else (none)) else (none)))))))))))) = some r := by rw [if_neg (show ¬ (false = true) by decide)] at H; exact H
                  clear H
                  have H := H1
                  clear H1
                  replace H := Option.bind_eq_some_iff.mp H
                  obtain ⟨⟨t306, t307, t308, t309⟩, A410, H⟩ := H
                  replace H : ((fold_Of.f kj17 4 l1).bind fun bt311 => ((fold_Of.f kj17 4 y288).bind fun bt316 => ((fold_Of.f kj17 1 l0).bind fun bt321 => ((fold_Of.f kj17 1 l1).bind fun bt326 => ((fold_Of.f kj17 1 y288).bind fun bt331 => ((antecedentref02_Compare.f t291 t292 t293 t296 t297 t298).bind fun t336 => (if t336 > 0 then ((antecedentref02_Compare.f t306 t307 t308 bt311.1 bt311.2.1 bt311.2.2.1).bind fun t337 => (if t337 < 0 then (if (t301 == t296 && (t302 == t297 && (t303.toList == t298.toList))) = true then (if (bt316.1 == bt311.1 && (bt316.2.1 == bt311.2.1 && (bt316.2.2.1.toList == bt311.2.2.1.toList))) = true then (if bt331.2.1 ≤ (wrap64 (bt321.2.1 + bt326.2.1)) then (some (decide (bt331.2.1 ≥ (mx bt321.2.1 bt326.2.1)))) else (none)) else (none)) else (none)) else (if (t301 == t296 && (t302 == t297 && (t303.toList == t298.toList))) = true then (if (bt316.1 == t306 && (bt316.2.1 == t307 && (bt316.2.2.1.toList == t308.toList))) = true then (if bt331.2.1 ≤ (wrap64 (bt321.2.1 + bt326.2.1)) then (some (decide (bt331.2.1 ≥ (mx bt321.2.1 bt326.2.1)))) else (none)) else (none)) else (none)))) else ((antecedentref02_Compare.f t306 t307 t308 bt311.1 bt311.2.1 bt311.2.2.1).bind fun t338 => (if t338 < 0 then (if (t301 == t291 && (t302 == t292 && (t303.toList == t293.toList))) = true then (if (bt316.1 == bt311.1 && (bt316.2.1 == bt311.2.1 && (bt316.2.2.1.toList == bt311.2.2.1.toList))) = true then (if bt331.2.1 ≤ (wrap64 (bt321.2.1 + bt326.2.1)) then (some (decide (bt331.2.1 ≥ (mx bt321.2.1 bt326.2.1)))) else (none)) else (none)) else (none)) else (if (t301 == t291 && (t302 == t292 && (t303.toList == t293.toList))) = true then (if (bt316.1 == t306 && (bt316.2.1 == t307 && (bt316.2.2.1.toList == t308.toList))) = true then (if bt331.2.1 ≤ (wrap64 (bt321.2.1 + bt326.2.1)) then (some (decide (bt331.2.1 ≥ (mx bt321.2.1 bt326.2.1)))) else (none)) else (none)) else (none))))))))))) = some r := H
                  have A41 := Aside0.mk A410
                  clear A410
                  replace H := Option.bind_eq_some_iff.mp H
                  obtain ⟨⟨t311, t312, t313, t314⟩, A420, H⟩ := H
                  replace H : ((fold_Of.f kj17 4 y288).bind fun bt316 => ((fold_Of.f kj17 1 l0).bind fun bt321 => ((fold_Of.f kj17 1 l1).bind fun bt326 => ((fold_Of.f kj17 1 y288).bind fun bt331 => ((antecedentref02_Compare.f t291 t292 t293 t296 t297 t298).bind fun t336 => (if t336 > 0 then ((antecedentref02_Compare.f t306 t307 t308 t311 t312 t313).bind fun t337 => (if t337 < 0 then (if (t301 == t296 && (t302 == t297 && (t303.toList == t298.toList))) = true then (if (bt316.1 == t311 && (bt316.2.1 == t312 && (bt316.2.2.1.toList == t313.toList))) = true then (if bt331.2.1 ≤ (wrap64 (bt321.2.1 + bt326.2.1)) then (some (decide (bt331.2.1 ≥ (mx bt321.2.1 bt326.2.1)))) else (none)) else (none)) else (none)) else (if (t301 == t296 && (t302 == t297 && (t303.toList == t298.toList))) = true then (if (bt316.1 == t306 && (bt316.2.1 == t307 && (bt316.2.2.1.toList == t308.toList))) = true then (if bt331.2.1 ≤ (wrap64 (bt321.2.1 + bt326.2.1)) then (some (decide (bt331.2.1 ≥ (mx bt321.2.1 bt326.2.1)))) else (none)) else (none)) else (none)))) else ((antecedentref02_Compare.f t306 t307 t308 t311 t312 t313).bind fun t338 => (if t338 < 0 then (if (t301 == t291 && (t302 == t292 && (t303.toList == t293.toList))) = true then (if (bt316.1 == t311 && (bt316.2.1 == t312 && (bt316.2.2.1.toList == t313.toList))) = true then (if bt331.2.1 ≤ (wrap64 (bt321.2.1 + bt326.2.1)) then (some (decide (bt331.2.1 ≥ (mx bt321.2.1 bt326.2.1)))) else (none)) else (none)) else (none)) else (if (t301 == t291 && (t302 == t292 && (t303.toList == t293.toList))) = true then (if (bt316.1 == t306 && (bt316.2.1 == t307 && (bt316.2.2.1.toList == t308.toList))) = true then (if bt331.2.1 ≤ (wrap64 (bt321.2.1 + bt326.2.1)) then (some (decide (bt331.2.1 ≥ (mx bt321.2.1 bt326.2.1)))) else (none)) else (none)) else (none)))))))))) = some r := H
                  have A42 := Aside0.mk A420
                  clear A420
                  replace H := Option.bind_eq_some_iff.mp H
                  obtain ⟨⟨t316, t317, t318, t319⟩, A430, H⟩ := H
                  replace H : ((fold_Of.f kj17 1 l0).bind fun bt321 => ((fold_Of.f kj17 1 l1).bind fun bt326 => ((fold_Of.f kj17 1 y288).bind fun bt331 => ((antecedentref02_Compare.f t291 t292 t293 t296 t297 t298).bind fun t336 => (if t336 > 0 then ((antecedentref02_Compare.f t306 t307 t308 t311 t312 t313).bind fun t337 => (if t337 < 0 then (if (t301 == t296 && (t302 == t297 && (t303.toList == t298.toList))) = true then (if (t316 == t311 && (t317 == t312 && (t318.toList == t313.toList))) = true then (if bt331.2.1 ≤ (wrap64 (bt321.2.1 + bt326.2.1)) then (some (decide (bt331.2.1 ≥ (mx bt321.2.1 bt326.2.1)))) else (none)) else (none)) else (none)) else (if (t301 == t296 && (t302 == t297 && (t303.toList == t298.toList))) = true then (if (t316 == t306 && (t317 == t307 && (t318.toList == t308.toList))) = true then (if bt331.2.1 ≤ (wrap64 (bt321.2.1 + bt326.2.1)) then (some (decide (bt331.2.1 ≥ (mx bt321.2.1 bt326.2.1)))) else (none)) else (none)) else (none)))) else ((antecedentref02_Compare.f t306 t307 t308 t311 t312 t313).bind fun t338 => (if t338 < 0 then (if (t301 == t291 && (t302 == t292 && (t303.toList == t293.toList))) = true then (if (t316 == t311 && (t317 == t312 && (t318.toList == t313.toList))) = true then (if bt331.2.1 ≤ (wrap64 (bt321.2.1 + bt326.2.1)) then (some (decide (bt331.2.1 ≥ (mx bt321.2.1 bt326.2.1)))) else (none)) else (none)) else (none)) else (if (t301 == t291 && (t302 == t292 && (t303.toList == t293.toList))) = true then (if (t316 == t306 && (t317 == t307 && (t318.toList == t308.toList))) = true then (if bt331.2.1 ≤ (wrap64 (bt321.2.1 + bt326.2.1)) then (some (decide (bt331.2.1 ≥ (mx bt321.2.1 bt326.2.1)))) else (none)) else (none)) else (none))))))))) = some r := H
                  have A43 := Aside0.mk A430
                  clear A430
                  replace H := Option.bind_eq_some_iff.mp H
                  obtain ⟨⟨t321, t322, t323, t324⟩, A440, H⟩ := H
                  replace H : ((fold_Of.f kj17 1 l1).bind fun bt326 => ((fold_Of.f kj17 1 y288).bind fun bt331 => ((antecedentref02_Compare.f t291 t292 t293 t296 t297 t298).bind fun t336 => (if t336 > 0 then ((antecedentref02_Compare.f t306 t307 t308 t311 t312 t313).bind fun t337 => (if t337 < 0 then (if (t301 == t296 && (t302 == t297 && (t303.toList == t298.toList))) = true then (if (t316 == t311 && (t317 == t312 && (t318.toList == t313.toList))) = true then (if bt331.2.1 ≤ (wrap64 (t322 + bt326.2.1)) then (some (decide (bt331.2.1 ≥ (mx t322 bt326.2.1)))) else (none)) else (none)) else (none)) else (if (t301 == t296 && (t302 == t297 && (t303.toList == t298.toList))) = true then (if (t316 == t306 && (t317 == t307 && (t318.toList == t308.toList))) = true then (if bt331.2.1 ≤ (wrap64 (t322 + bt326.2.1)) then (some (decide (bt331.2.1 ≥ (mx t322 bt326.2.1)))) else (none)) else (none)) else (none)))) else ((antecedentref02_Compare.f t306 t307 t308 t311 t312 t313).bind fun t338 => (if t338 < 0 then (if (t301 == t291 && (t302 == t292 && (t303.toList == t293.toList))) = true then (if (t316 == t311 && (t317 == t312 && (t318.toList == t313.toList))) = true then (if bt331.2.1 ≤ (wrap64 (t322 + bt326.2.1)) then (some (decide (bt331.2.1 ≥ (mx t322 bt326.2.1)))) else (none)) else (none)) else (none)) else (if (t301 == t291 && (t302 == t292 && (t303.toList == t293.toList))) = true then (if (t316 == t306 && (t317 == t307 && (t318.toList == t308.toList))) = true then (if bt331.2.1 ≤ (wrap64 (t322 + bt326.2.1)) then (some (decide (bt331.2.1 ≥ (mx t322 bt326.2.1)))) else (none)) else (none)) else (none)))))))) = some r := H
                  have A44 := Aside0.mk A440
                  clear A440
                  replace H := Option.bind_eq_some_iff.mp H
                  obtain ⟨⟨t326, t327, t328, t329⟩, A450, H⟩ := H
                  replace H : ((fold_Of.f kj17 1 y288).bind fun bt331 => ((antecedentref02_Compare.f t291 t292 t293 t296 t297 t298).bind fun t336 => (if t336 > 0 then ((antecedentref02_Compare.f t306 t307 t308 t311 t312 t313).bind fun t337 => (if t337 < 0 then (if (t301 == t296 && (t302 == t297 && (t303.toList == t298.toList))) = true then (if (t316 == t311 && (t317 == t312 && (t318.toList == t313.toList))) = true then (if bt331.2.1 ≤ (wrap64 (t322 + t327)) then (some (decide (bt331.2.1 ≥ (mx t322 t327)))) else (none)) else (none)) else (none)) else (if (t301 == t296 && (t302 == t297 && (t303.toList == t298.toList))) = true then (if (t316 == t306 && (t317 == t307 && (t318.toList == t308.toList))) = true then (if bt331.2.1 ≤ (wrap64 (t322 + t327)) then (some (decide (bt331.2.1 ≥ (mx t322 t327)))) else (none)) else (none)) else (none)))) else ((antecedentref02_Compare.f t306 t307 t308 t311 t312 t313).bind fun t338 => (if t338 < 0 then (if (t301 == t291 && (t302 == t292 && (t303.toList == t293.toList))) = true then (if (t316 == t311 && (t317 == t312 && (t318.toList == t313.toList))) = true then (if bt331.2.1 ≤ (wrap64 (t322 + t327)) then (some (decide (bt331.2.1 ≥ (mx t322 t327)))) else (none)) else (none)) else (none)) else (if (t301 == t291 && (t302 == t292 && (t303.toList == t293.toList))) = true then (if (t316 == t306 && (t317 == t307 && (t318.toList == t308.toList))) = true then (if bt331.2.1 ≤ (wrap64 (t322 + t327)) then (some (decide (bt331.2.1 ≥ (mx t322 t327)))) else (none)) else (none)) else (none))))))) = some r := H
                  have A45 := Aside0.mk A450
                  clear A450
                  replace H := Option.bind_eq_some_iff.mp H
                  obtain ⟨⟨t331, t332, t333, t334⟩, A460, H⟩ := H
                  replace H : ((antecedentref02_Compare.f t291 t292 t293 t296 t297 t298).bind fun t336 => (if t336 > 0 then ((antecedentref02_Compare.f t306 t307 t308 t311 t312 t313).bind fun t337 => (if t337 < 0 then (if (t301 == t296 && (t302 == t297 && (t303.toList == t298.toList))) = true then (if (t316 == t311 && (t317 == t312 && (t318.toList == t313.toList))) = true then (if t332 ≤ (wrap64 (t322 + t327)) then (some (decide (t332 ≥ (mx t322 t327)))) else (none)) else (none)) else (none)) else (if (t301 == t296 && (t302 == t297 && (t303.toList == t298.toList))) = true then (if (t316 == t306 && (t317 == t307 && (t318.toList == t308.toList))) = true then (if t332 ≤ (wrap64 (t322 + t327)) then (some (decide (t332 ≥ (mx t322 t327)))) else (none)) else (none)) else (none)))) else ((antecedentref02_Compare.f t306 t307 t308 t311 t312 t313).bind fun t338 => (if t338 < 0 then (if (t301 == t291 && (t302 == t292 && (t303.toList == t293.toList))) = true then (if (t316 == t311 && (t317 == t312 && (t318.toList == t313.toList))) = true then (if t332 ≤ (wrap64 (t322 + t327)) then (some (decide (t332 ≥ (mx t322 t327)))) else (none)) else (none)) else (none)) else (if (t301 == t291 && (t302 == t292 && (t303.toList == t293.toList))) = true then (if (t316 == t306 && (t317 == t307 && (t318.toList == t308.toList))) = true then (if t332 ≤ (wrap64 (t322 + t327)) then (some (decide (t332 ≥ (mx t322 t327)))) else (none)) else (none)) else (none)))))) = some r := H
                  have A46 := Aside0.mk A460
                  clear A460
                  replace H := Option.bind_eq_some_iff.mp H
                  obtain ⟨t336, A470, H⟩ := H
                  replace H : (if t336 > 0 then ((antecedentref02_Compare.f t306 t307 t308 t311 t312 t313).bind fun t337 => (if t337 < 0 then (if (t301 == t296 && (t302 == t297 && (t303.toList == t298.toList))) = true then (if (t316 == t311 && (t317 == t312 && (t318.toList == t313.toList))) = true then (if t332 ≤ (wrap64 (t322 + t327)) then (some (decide (t332 ≥ (mx t322 t327)))) else (none)) else (none)) else (none)) else (if (t301 == t296 && (t302 == t297 && (t303.toList == t298.toList))) = true then (if (t316 == t306 && (t317 == t307 && (t318.toList == t308.toList))) = true then (if t332 ≤ (wrap64 (t322 + t327)) then (some (decide (t332 ≥ (mx t322 t327)))) else (none)) else (none)) else (none)))) else ((antecedentref02_Compare.f t306 t307 t308 t311 t312 t313).bind fun t338 => (if t338 < 0 then (if (t301 == t291 && (t302 == t292 && (t303.toList == t293.toList))) = true then (if (t316 == t311 && (t317 == t312 && (t318.toList == t313.toList))) = true then (if t332 ≤ (wrap64 (t322 + t327)) then (some (decide (t332 ≥ (mx t322 t327)))) else (none)) else (none)) else (none)) else (if (t301 == t291 && (t302 == t292 && (t303.toList == t293.toList))) = true then (if (t316 == t306 && (t317 == t307 && (t318.toList == t308.toList))) = true then (if t332 ≤ (wrap64 (t322 + t327)) then (some (decide (t332 ≥ (mx t322 t327)))) else (none)) else (none)) else (none))))) = some r := H
                  have A47 := Aside0.mk A470
                  clear A470
                  obtain ⟨Ay, cy, ey, hcy, hCy⟩ := Kd.R_reads HO_5.out
                  obtain ⟨rfl, rfl⟩ : Ao30 = Ay ∧ co30 = cy := by injection ey with e1 e2 e3; exact ⟨e1, e3⟩
                  clear ey
                  have HCY := Aside0.mk hcy
                  have J : Aside0 (JB w wc A0 A1 Ao30 l0 l1 y288 [(gb305, #[.int .i64 t301, .int .i64 t302, .string t303]), (gb300, #[.int .i64 t296, .int .i64 t297, .string t298]), (gb295, #[.int .i64 t291, .int .i64 t292, .string t293])]) := ⟨⟨Kd.C_below HR0.out HB.out, Kd.C_below HR1.out HB.out, hCy, by
                    intro p hp
                    simp only [List.mem_cons, List.not_mem_nil, or_false] at hp
                    rcases hp with rfl | rfl | rfl
                    · exact BK305.out
                    · exact BK300.out
                    · exact BK295.out, by
                    intro p hp
                    simp only [List.mem_cons, List.not_mem_nil, or_false] at hp
                    rcases hp with rfl | rfl | rfl
                    · exact GE305.out
                    · exact GE300.out
                    · exact GE295.out, HB.out⟩⟩
                  have N1 := Aside0.mk (NB295_300.out)
                  have N2 := Aside0.mk (NB295_305.out)
                  clear HO_5 BK295 BK300 BK305 HB hcy hCy HR0 HR1 GE305 GE300 GE295 NB295_300 NB300_295 NB295_305 NB305_295 NB300_305 NB305_300
                  clear hnb28 hnc28 hnb33 hnc33 hnb34 hnc34
                  clear GW295 GW300 GW305
                  go_wp2_with fail
                  refine (fold_Of.calls kj17 4 _ _ l0 t306 t307 t308 t309 _ J.out.c0 HC0.out A41.out).mono ?_
                  rintro e w306 ⟨rfl, hb⟩
                  have L306 := Aside0.mk (J.out.lt hb (g := gb305) (by simp))
                  have K306 := Aside0.mk (J.out.lt hb (g := gb300) (by simp))
                  have M306 := Aside0.mk (J.out.lt hb (g := gb295) (by simp))
                  have J1 := Aside0.mk (J.out.box hb #[.int .i64 t306, .int .i64 t307, .string t308])
                  clear J hb
                  have J := J1
                  clear J1
                  go_wp2_with fail
                  generalize w306.alloc (Obj.cells #[.int .i64 t306, .int .i64 t307, .string t308] 27) = W306 at J ⊢
                  generalize w306.heap.size = g306 at J L306 M306 K306 ⊢
                  go_wp2_with fail
                  refine (fold_Of.calls kj17 4 _ _ l1 t311 t312 t313 t314 _ J.out.c1 HC1.out A42.out).mono ?_
                  rintro e w311 ⟨rfl, hb⟩
                  have L311 := Aside0.mk (J.out.lt hb (g := g306) (by simp))
                  have M311 := Aside0.mk (J.out.lt hb (g := gb295) (by simp))
                  have J1 := Aside0.mk (J.out.box hb #[.int .i64 t311, .int .i64 t312, .string t313])
                  clear J hb
                  have J := J1
                  clear J1
                  go_wp2_with fail
                  generalize w311.alloc (Obj.cells #[.int .i64 t311, .int .i64 t312, .string t313] 27) = W311 at J ⊢
                  generalize w311.heap.size = g311 at J L311 M311 ⊢
                  go_wp2_with fail
                  refine (fold_Of.calls kj17 4 _ _ y288 t316 t317 t318 t319 _ J.out.cy HCY.out A43.out).mono ?_
                  rintro e w316 ⟨rfl, hb⟩
                  have L316 := Aside0.mk (J.out.lt hb (g := g311) (by simp))
                  have M316 := Aside0.mk (J.out.lt hb (g := gb295) (by simp))
                  have J1 := Aside0.mk (J.out.box hb #[.int .i64 t316, .int .i64 t317, .string t318])
                  clear J hb
                  have J := J1
                  clear J1
                  go_wp2_with fail
                  generalize w316.alloc (Obj.cells #[.int .i64 t316, .int .i64 t317, .string t318] 27) = W316 at J ⊢
                  generalize w316.heap.size = g316 at J L316 M316 ⊢
                  go_wp2_with fail
                  refine (fold_Of.calls kj17 1 _ _ l0 t321 t322 t323 t324 _ J.out.c0 HC0.out A44.out).mono ?_
                  rintro e w321 ⟨rfl, hb⟩
                  have L321 := Aside0.mk (J.out.lt hb (g := g316) (by simp))
                  have M321 := Aside0.mk (J.out.lt hb (g := gb295) (by simp))
                  have J1 := Aside0.mk (J.out.box hb #[.int .i64 t321, .int .i64 t322, .string t323])
                  clear J hb
                  have J := J1
                  clear J1
                  go_wp2_with fail
                  generalize w321.alloc (Obj.cells #[.int .i64 t321, .int .i64 t322, .string t323] 27) = W321 at J ⊢
                  generalize w321.heap.size = g321 at J L321 M321 ⊢
                  go_wp2_with fail
                  refine (fold_Of.calls kj17 1 _ _ l1 t326 t327 t328 t329 _ J.out.c1 HC1.out A45.out).mono ?_
                  rintro e w326 ⟨rfl, hb⟩
                  have L326 := Aside0.mk (J.out.lt hb (g := g321) (by simp))
                  have M326 := Aside0.mk (J.out.lt hb (g := gb295) (by simp))
                  have J1 := Aside0.mk (J.out.box hb #[.int .i64 t326, .int .i64 t327, .string t328])
                  clear J hb
                  have J := J1
                  clear J1
                  go_wp2_with fail
                  generalize w326.alloc (Obj.cells #[.int .i64 t326, .int .i64 t327, .string t328] 27) = W326 at J ⊢
                  generalize w326.heap.size = g326 at J L326 M326 ⊢
                  go_wp2_with fail
                  refine (fold_Of.calls kj17 1 _ _ y288 t331 t332 t333 t334 _ J.out.cy HCY.out A46.out).mono ?_
                  rintro e w331 ⟨rfl, hb⟩
                  have L331 := Aside0.mk (J.out.lt hb (g := g326) (by simp))
                  have M331 := Aside0.mk (J.out.lt hb (g := gb295) (by simp))
                  have J1 := Aside0.mk (J.out.box hb #[.int .i64 t331, .int .i64 t332, .string t333])
                  clear J hb
                  have J := J1
                  clear J1
                  go_upto_region 15 with fail
                  generalize w331.alloc (Obj.cells #[.int .i64 t331, .int .i64 t332, .string t333] 27) = W at J ⊢
                  generalize w331.heap.size = g331 at J L331 M331 ⊢
                  have JJ := Aside0.mk J.out.boxes
                  clear J
                  have FIN : ∃ F : Int → Int → ByteArray → Int → Int → ByteArray → Option Bool, F = fun a0 a1 a2 x0 x1 x2 => (if (t301 == a0 && (t302 == a1 && (t303.toList == a2.toList))) = true then (if (t316 == x0 && (t317 == x1 && (t318.toList == x2.toList))) = true then (if t332 ≤ (wrap64 (t322 + t327)) then (some (decide (t332 ≥ (mx t322 t327)))) else (none)) else (none)) else (none)) := ⟨_, rfl⟩
                  obtain ⟨F, hF⟩ := FIN
                  have MID : ∃ G : Int → Int → ByteArray → Option Bool, G = fun a0 a1 a2 => ((antecedentref02_Compare.f t306 t307 t308 t311 t312 t313).bind fun t337 => (if t337 < 0 then F a0 a1 a2 t311 t312 t313 else F a0 a1 a2 t306 t307 t308)) := ⟨_, rfl⟩
                  obtain ⟨G, hG⟩ := MID
                  replace H : (if t336 > 0 then G t296 t297 t298 else G t291 t292 t293) = some r := by rw [hG, hF]; exact H
                  have HF := Aside0.mk hF
                  have HG := Aside0.mk hG
                  have HH := Aside0.mk H
                  clear hF hG H
                  obtain ⟨⟨x1, x2, x3⟩, _, _, _⟩ := JJ.out.cell (g := gb295) (a := .int .i64 t291) (b := .int .i64 t292) (c := .string t293) (by simp)
                  obtain ⟨⟨y1, y2, y3⟩, _, _, _⟩ := JJ.out.cell (g := gb300) (a := .int .i64 t296) (b := .int .i64 t297) (c := .string t298) (by simp)
                  go_wp2_with fail
                  clear x1 x2 x3 y1 y2 y3
                  (with_reducible refine (antecedentref02_Compare.calls t291 t292 t293 t296 t297 t298 t336 _ A47.out).mono ?_)
                  rintro e W2 ⟨rfl, hb⟩
                  have J := Aside0.mk (JJ.out.below hb)
                  clear JJ hb
                  go_upto_if 112 with fail
                  go_cut [] (fun wc => ∃ a0 a1 a2, Aside0 (G a0 a1 a2 = some r) ∧ Aside0 (JC w wc [(g331, #[.int .i64 t331, .int .i64 t332, .string t333]), (g326, #[.int .i64 t326, .int .i64 t327, .string t328]), (g321, #[.int .i64 t321, .int .i64 t322, .string t323]), (g316, #[.int .i64 t316, .int .i64 t317, .string t318]), (g311, #[.int .i64 t311, .int .i64 t312, .string t313]), (g306, #[.int .i64 t306, .int .i64 t307, .string t308]), (gb305, #[.int .i64 t301, .int .i64 t302, .string t303]), (gb300, #[.int .i64 t296, .int .i64 t297, .string t298]), (gb295, #[.int .i64 a0, .int .i64 a1, .string a2])]))
                  case first =>
                    have H := HH.out
                    clear HH
                    obtain ⟨_, f1, f2, f3⟩ := J.out.cell (g := gb295) (a := .int .i64 t291) (b := .int .i64 t292) (c := .string t293) (by simp)
                    obtain ⟨⟨y1, y2, y3⟩, _, _, _⟩ := J.out.cell (g := gb300) (a := .int .i64 t296) (b := .int .i64 t297) (c := .string t298) (by simp)
                    by_cases c48 : t336 > 0
                    · rw [if_pos c48] at H
                      have c48b0 : decide (0 < t336) = true := decide_eq_true c48
                      rw [c48b0]
                      clear c48
                      have H' := Aside0.mk H
                      clear H
                      have hne1 := N1.out
                      have hne2 : gb300 ≠ gb295 := fun e => N1.out e.symm
                      go_wp2
                      clear hne1 hne2
                      go_meet
                      case rel =>
                        refine ⟨_, _, _, H', ⟨JC.put (pre := [(g331, #[.int .i64 t331, .int .i64 t332, .string t333]), (g326, #[.int .i64 t326, .int .i64 t327, .string t328]), (g321, #[.int .i64 t321, .int .i64 t322, .string t323]), (g316, #[.int .i64 t316, .int .i64 t317, .string t318]), (g311, #[.int .i64 t311, .int .i64 t312, .string t313]), (g306, #[.int .i64 t306, .int .i64 t307, .string t308]), (gb305, #[.int .i64 t301, .int .i64 t302, .string t303]), (gb300, #[.int .i64 t296, .int .i64 t297, .string t298])]) (suf := []) J.out (fun p hp => ?_) _ _ _⟩⟩
                        simp only [List.append_nil, List.mem_cons, List.not_mem_nil, or_false] at hp
                        rcases hp with rfl | rfl | rfl | rfl | rfl | rfl | rfl | rfl
                        · exact Nat.ne_of_gt M331.out
                        · exact Nat.ne_of_gt M326.out
                        · exact Nat.ne_of_gt M321.out
                        · exact Nat.ne_of_gt M316.out
                        · exact Nat.ne_of_gt M311.out
                        · exact Nat.ne_of_gt M306.out
                        · exact fun e => N2.out e.symm
                        · exact fun e => N1.out e.symm
                    · rw [if_neg c48] at H
                      have c48b0 : decide (0 < t336) = false := decide_eq_false c48
                      rw [c48b0]
                      clear c48
                      have H' := Aside0.mk H
                      clear H
                      go_wp2
                      go_meet
                      case rel => exact ⟨_, _, _, H', J⟩
                  case rest =>
                    clear HH J A47
                    obtain ⟨a0, a1, a2, HH, J⟩ := hcut
                    have HH2 : Aside0 (((antecedentref02_Compare.f t306 t307 t308 t311 t312 t313).bind fun t337 => (if t337 < 0 then F a0 a1 a2 t311 t312 t313 else F a0 a1 a2 t306 t307 t308)) = some r) := ⟨by have := HH.out; rw [HG.out] at this; exact this⟩
                    obtain ⟨t337, A49, H⟩ := Option.bind_eq_some_iff.mp HH2.out
                    clear HH HG HH2
                    have A49 := Aside0.mk A49
                    have HH := Aside0.mk H
                    clear H
                    obtain ⟨⟨x1, x2, x3⟩, _, _, _⟩ := J.out.cell (g := g306) (a := .int .i64 t306) (b := .int .i64 t307) (c := .string t308) (by simp)
                    obtain ⟨⟨y1, y2, y3⟩, _, _, _⟩ := J.out.cell (g := g311) (a := .int .i64 t311) (b := .int .i64 t312) (c := .string t313) (by simp)
                    go_wp2_with fail
                    clear x1 x2 x3 y1 y2 y3
                    (with_reducible refine (antecedentref02_Compare.calls t306 t307 t308 t311 t312 t313 t337 _ A49.out).mono ?_)
                    rintro e W2 ⟨rfl, hb⟩
                    have J2 := Aside0.mk (J.out.below hb)
                    clear J hb
                    have J := J2
                    clear J2
                    go_upto_if 117 with fail
                    go_cut [] (fun wc => ∃ x0 x1 x2, Aside0 (F a0 a1 a2 x0 x1 x2 = some r) ∧ Aside0 (JC w wc [(g331, #[.int .i64 t331, .int .i64 t332, .string t333]), (g326, #[.int .i64 t326, .int .i64 t327, .string t328]), (g321, #[.int .i64 t321, .int .i64 t322, .string t323]), (g316, #[.int .i64 t316, .int .i64 t317, .string t318]), (g311, #[.int .i64 t311, .int .i64 t312, .string t313]), (g306, #[.int .i64 x0, .int .i64 x1, .string x2]), (gb305, #[.int .i64 t301, .int .i64 t302, .string t303]), (gb300, #[.int .i64 t296, .int .i64 t297, .string t298]), (gb295, #[.int .i64 a0, .int .i64 a1, .string a2])]))
                    case first =>
                      have H := HH.out
                      clear HH
                      obtain ⟨_, f1, f2, f3⟩ := J.out.cell (g := g306) (a := .int .i64 t306) (b := .int .i64 t307) (c := .string t308) (by simp)
                      obtain ⟨⟨y1, y2, y3⟩, _, _, _⟩ := J.out.cell (g := g311) (a := .int .i64 t311) (b := .int .i64 t312) (c := .string t313) (by simp)
                      by_cases c48 : t337 < 0
                      · rw [if_pos c48] at H
                        have c48b0 : decide (t337 < 0) = true := decide_eq_true c48
                        rw [c48b0]
                        clear c48
                        have H' := Aside0.mk H
                        clear H
                        have hne1 : g306 ≠ g311 := Nat.ne_of_lt L311.out
                        have hne2 : g311 ≠ g306 := Nat.ne_of_gt L311.out
                        go_wp2
                        clear hne1 hne2
                        go_meet
                        case rel =>
                          refine ⟨_, _, _, H', ⟨JC.put (pre := [(g331, #[.int .i64 t331, .int .i64 t332, .string t333]), (g326, #[.int .i64 t326, .int .i64 t327, .string t328]), (g321, #[.int .i64 t321, .int .i64 t322, .string t323]), (g316, #[.int .i64 t316, .int .i64 t317, .string t318]), (g311, #[.int .i64 t311, .int .i64 t312, .string t313])]) (suf := [(gb305, #[.int .i64 t301, .int .i64 t302, .string t303]), (gb300, #[.int .i64 t296, .int .i64 t297, .string t298]), (gb295, #[.int .i64 a0, .int .i64 a1, .string a2])]) J.out (fun p hp => ?_) _ _ _⟩⟩
                          have h1 := L306.out; have h2 := L311.out; have h3 := L316.out; have h4 := L321.out; have h5 := L326.out; have h6 := L331.out; have h7 := M306.out
                          simp only [List.cons_append, List.nil_append, List.mem_cons, List.not_mem_nil, or_false] at hp
                          rcases hp with rfl | rfl | rfl | rfl | rfl | rfl | rfl | rfl
                          · show g331 ≠ g306; omega
                          · show g326 ≠ g306; omega
                          · show g321 ≠ g306; omega
                          · show g316 ≠ g306; omega
                          · show g311 ≠ g306; omega
                          · show gb305 ≠ g306; omega
                          · show gb300 ≠ g306; exact Nat.ne_of_lt K306.out
                          · show gb295 ≠ g306; omega
                      · rw [if_neg c48] at H
                        have c48b0 : decide (t337 < 0) = false := decide_eq_false c48
                        rw [c48b0]
                        clear c48
                        have H' := Aside0.mk H
                        clear H
                        go_wp2
                        go_meet
                        case rel => exact ⟨_, _, _, H', J⟩
                    case rest =>
                      clear HH J A49
                      obtain ⟨x0, x1, x2, HH, J⟩ := hcut
                      have H : (if (t301 == a0 && (t302 == a1 && (t303.toList == a2.toList))) = true then (if (t316 == x0 && (t317 == x1 && (t318.toList == x2.toList))) = true then (if t332 ≤ (wrap64 (t322 + t327)) then (some (decide (t332 ≥ (mx t322 t327)))) else (none)) else (none)) else (none)) = some r := by have := HH.out; rw [HF.out] at this; exact this
                      clear HH HF
                      by_cases c51 : (t301 == a0 && (t302 == a1 && (t303.toList == a2.toList))) = true
                      case neg => rw [if_neg c51] at H; exact absurd H (by simp)
                      rw [if_pos c51] at H
                      by_cases c52 : (t316 == x0 && (t317 == x1 && (t318.toList == x2.toList))) = true
                      case neg => rw [if_neg c52] at H; exact absurd H (by simp)
                      rw [if_pos c52] at H
                      by_cases c53 : t332 ≤ (wrap64 (t322 + t327))
                      case neg => rw [if_neg c53] at H; exact absurd H (by simp)
                      rw [if_pos c53] at H
                      obtain rfl := Option.some.inj H
                      clear H
                      have c51b0 : (t301 == a0 && (t302 == a1 && (t303.toList == a2.toList))) = true := c51
                      have c52b0 : (t316 == x0 && (t317 == x1 && (t318.toList == x2.toList))) = true := c52
                      have c53b0 : decide (t332 ≤ (wrap64 (t322 + t327))) = true := decide_eq_true c53
                      clear c51 c52 c53
                      obtain ⟨⟨p1, p2, p3⟩, _, _, _⟩ := J.out.cell (g := gb305) (a := .int .i64 t301) (b := .int .i64 t302) (c := .string t303) (by simp)
                      obtain ⟨⟨q1, q2, q3⟩, _, _, _⟩ := J.out.cell (g := gb295) (a := .int .i64 a0) (b := .int .i64 a1) (c := .string a2) (by simp)
                      obtain ⟨⟨r1, r2, r3⟩, _, _, _⟩ := J.out.cell (g := g316) (a := .int .i64 t316) (b := .int .i64 t317) (c := .string t318) (by simp)
                      obtain ⟨⟨s1, s2, s3⟩, _, _, _⟩ := J.out.cell (g := g306) (a := .int .i64 x0) (b := .int .i64 x1) (c := .string x2) (by simp)
                      obtain ⟨⟨_, u2, _⟩, _, _, _⟩ := J.out.cell (g := g331) (a := .int .i64 t331) (b := .int .i64 t332) (c := .string t333) (by simp)
                      obtain ⟨⟨_, v2, _⟩, _, _, _⟩ := J.out.cell (g := g321) (a := .int .i64 t321) (b := .int .i64 t322) (c := .string t323) (by simp)
                      obtain ⟨⟨_, z2, _⟩, _, _, _⟩ := J.out.cell (g := g326) (a := .int .i64 t326) (b := .int .i64 t327) (c := .string t328) (by simp)
                      go_wp2_with fail
                      all_goals
                        go_ret
                        refine ⟨?_, J.out.hb⟩
                        refine congrArg (fun b => Ending.returned (Value.bool b)) ?_
                        unfold mx
                        split <;> first | rfl | (exfalso; omega)
          · rw [if_neg c14] at H
            exact absurd H (by simp)
        · rw [if_neg c13] at H
          exact absurd H (by simp)

end Go.Proofs.Ytolefpeiceiocaa.Ps
