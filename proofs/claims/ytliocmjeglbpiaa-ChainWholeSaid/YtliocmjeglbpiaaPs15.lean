-- printed by a program of this session out of the translation
import Derived.Test.YtliocmjeglbpiaaPsD
import Derived.Test.YtliocmjeglbpiaaPs8
import Derived.Test.YtliocmjeglbpiaaPs9
import Derived.Test.YtliocmjeglbpiaaPs12
namespace Go.Proofs.Ytliocmjeglbpiaa.Ps
open Go.RowKit Go.Proofs.YtliocmjeglbpiaaW.PrintWords Go.Proofs.YtliocmjeglbpiaaW.PrintLast Go.Proofs.YtliocmjeglbpiaaW.PrintMore
attribute [local go_sem] max2_int min2_int max_two min_two max_three min_three max_four min_four   -- for this text's walks alone
set_option linter.unusedVariables false
set_option linter.unusedSimpArgs false

/-! ### antecedentlaw18_ChainWhole: function 6 -/
set_option maxHeartbeats 8000000 in
set_option maxRecDepth 100000 in
theorem antecedentlaw18_ChainWhole.calls (k : Nat) (a0 : Int) (P1_ : Nat → Prop) (A1 : Option Addr) (c1 : Nat) (l1 : List Int) (A2 : Option Addr) (c2 : Nat) (l2 : List Int) (r : Bool) (w : World) (hs1 : Kd.V (Kd.int .i64) 3 w w.heap.size (fun k_ => P1_ k_) (.slice A1 l1.length c1) l1) (hr2 : Kd.C (Kd.int .u8) w A2 l2.length l2) (hc2 : l2.length ≤ c2) (h : antecedentlaw18_ChainWhole.f k a0 l1 l2 = some r) :
    Calls Try.prog 6 #[.int .u8 a0, .slice A1 l1.length c1, .slice A2 l2.length c2] w fun e w' => e = .returned (.bool r) ∧ Below w.heap.size w w' := by
  have HO1 := Aside0.mk (show Kd.V (Kd.int .i64) 3 w w.heap.size (fun k_ => (P1_ k_ ∨ w.heap.size ≤ k_)) (.slice A1 l1.length c1) l1 from Kd.V_mono hs1 (fun k_ hk => .inl hk))
  have HR2 := Aside0.mk hr2
  have HC2 := Aside0.mk hc2
  clear hr2 hc2
  have HB := Aside0.mk (Below.refl w.heap.size w)
  have H : ((antecedentlaw18_awake.f k).bind fun t427 => (if t427 = true then (if (l1.length : Int) > 8 then (antecedentlaw18_ChainWhole.j0 k a0 l1 l2 true) else (if (l2.length : Int) > 10 then (antecedentlaw18_ChainWhole.j0 k a0 l1 l2 true) else ((antecedentref03_Perm.f k l1).bind fun t428 => (antecedentlaw18_ChainWhole.j0 k a0 l1 l2 (!t428))))) else (none))) = some r := h
  clear h
  have HC4 := Aside0.mk H
  clear H
  go_enter Try.func6, Try.ntmps6
  go_upto_region 1 with (fail)
  go_cut [31] (fun v31 wc => ∃ (kq : Nat) (x31_3 : Bool), v31 = .bool x31_3 ∧ Aside0 (antecedentlaw18_ChainWhole.j0 kq a0 l1 l2 x31_3 = some r) ∧ Aside0 (kq ≤ k) ∧ Aside0 (Kd.V (Kd.int .i64) 3 wc w.heap.size (fun k_ => (P1_ k_ ∨ w.heap.size ≤ k_)) (.slice A1 l1.length c1) l1) ∧ Aside0 (Below w.heap.size w wc))
  case first =>
    have H := HC4.out
    clear HC4
    replace H := Option.bind_eq_some_iff.mp H
    obtain ⟨t427, A50, H⟩ := H
    replace H : (if t427 = true then (if (l1.length : Int) > 8 then (antecedentlaw18_ChainWhole.j0 k a0 l1 l2 true) else (if (l2.length : Int) > 10 then (antecedentlaw18_ChainWhole.j0 k a0 l1 l2 true) else ((antecedentref03_Perm.f k l1).bind fun t428 => (antecedentlaw18_ChainWhole.j0 k a0 l1 l2 (!t428))))) else (none)) = some r := H
    have A5 := Aside0.mk A50
    clear A50
    by_cases c6 : t427 = true
    · subst c6
      have H1 : (if (l1.length : Int) > 8 then (antecedentlaw18_ChainWhole.j0 k a0 l1 l2 true) else (if (l2.length : Int) > 10 then (antecedentlaw18_ChainWhole.j0 k a0 l1 l2 true) else ((antecedentref03_Perm.f k l1).bind fun t428 => (antecedentlaw18_ChainWhole.j0 k a0 l1 l2 (!t428))))) = some r := by rw [if_pos rfl] at H; exact H
      clear H
      have H := H1
      clear H1
      by_cases c7 : (l1.length : Int) > 8
      · rw [if_pos c7] at H
        have c7b0 : decide (8 < (l1.length : Int)) = true := decide_eq_true c7
        have c7b1 : decide (8 < l1.length) = true := decide_eq_true (by omega)
        clear c7
        (first | rw [c7b0] | (simp only [i64_w, i32_w]; rw [c7b0]) | skip)
        have H' := Aside0.mk H
        clear H
        go_wp2_with (first | ((with_reducible refine gate_callee (f := 8) rfl ?_); refine goesL_ (some 15) rfl rfl Try.func8 (by kernel_rfl) rfl #[] rfl (by (try simp only [List.map_toArray, List.map_cons, List.map_nil]); first | done | rfl | (simp only [List.length_drop, List.length_take]; rfl)) ?_; (with_reducible refine (antecedentlaw18_awake.calls k  true _ A5.out).mono ?_); rintro e w8 ⟨rfl, hb⟩; refine ⟨_, rfl, ?_⟩; have n0_ := Aside0.mk (Kd.V_below (by (with_reducible repeat (first | apply Kd.V_alloc | apply Kd.V_drewN | apply Kd.V_drew)); exact HO1.out) hb); have n1_ := Aside0.mk (below_step (by repeat (first | (with_reducible first | exact HB.out | apply below_alloc | apply pw_below_drewN | apply below_drew1) | exact HB.out)) hb); clear HO1; clear HB; have HO1 := n0_; have HB := n1_; clear n0_ n1_; (try clear hb); (try clear hb2); (try clear hk); (try clear hi)))
        go_meet
        case rel => exact ⟨_, (true), (by first | rfl | (simp; done) | (simp [*]; done)), H', ⟨by first | omega | exact Nat.le_refl _⟩, ⟨by (with_reducible repeat (first | apply Kd.V_alloc | apply Kd.V_drewN | apply Kd.V_drew)); exact HO1.out⟩, ⟨by repeat (first | (with_reducible first | exact HB.out | apply below_alloc | apply pw_below_drewN | apply below_drew1) | exact HB.out)⟩⟩
      · rw [if_neg c7] at H
        have c7b0 : decide (8 < (l1.length : Int)) = false := decide_eq_false c7
        have c7b1 : decide (8 < l1.length) = false := decide_eq_false (by omega)
        clear c7
        (first | rw [c7b0] | (simp only [i64_w, i32_w]; rw [c7b0]) | skip)
        by_cases c9 : (l2.length : Int) > 10
        · rw [if_pos c9] at H
          have c9b0 : decide (10 < (l2.length : Int)) = true := decide_eq_true c9
          have c9b1 : decide (10 < l2.length) = true := decide_eq_true (by omega)
          clear c9
          have H' := Aside0.mk H
          clear H
          go_wp2_with (first | ((with_reducible refine gate_callee (f := 8) rfl ?_); refine goesL_ (some 15) rfl rfl Try.func8 (by kernel_rfl) rfl #[] rfl (by (try simp only [List.map_toArray, List.map_cons, List.map_nil]); first | done | rfl | (simp only [List.length_drop, List.length_take]; rfl)) ?_; (with_reducible refine (antecedentlaw18_awake.calls k  true _ A5.out).mono ?_); rintro e w10 ⟨rfl, hb⟩; refine ⟨_, rfl, ?_⟩; have n0_ := Aside0.mk (Kd.V_below (by (with_reducible repeat (first | apply Kd.V_alloc | apply Kd.V_drewN | apply Kd.V_drew)); exact HO1.out) hb); have n1_ := Aside0.mk (below_step (by repeat (first | (with_reducible first | exact HB.out | apply below_alloc | apply pw_below_drewN | apply below_drew1) | exact HB.out)) hb); clear HO1; clear HB; have HO1 := n0_; have HB := n1_; clear n0_ n1_; (try clear hb); (try clear hb2); (try clear hk); (try clear hi)))
          go_meet
          case rel => exact ⟨_, (true), (by first | rfl | (simp; done) | (simp [*]; done)), H', ⟨by first | omega | exact Nat.le_refl _⟩, ⟨by (with_reducible repeat (first | apply Kd.V_alloc | apply Kd.V_drewN | apply Kd.V_drew)); exact HO1.out⟩, ⟨by repeat (first | (with_reducible first | exact HB.out | apply below_alloc | apply pw_below_drewN | apply below_drew1) | exact HB.out)⟩⟩
        · rw [if_neg c9] at H
          have c9b0 : decide (10 < (l2.length : Int)) = false := decide_eq_false c9
          have c9b1 : decide (10 < l2.length) = false := decide_eq_false (by omega)
          clear c9
          replace H := Option.bind_eq_some_iff.mp H
          obtain ⟨t428, A110, H⟩ := H
          replace H : (antecedentlaw18_ChainWhole.j0 k a0 l1 l2 (!t428)) = some r := H
          have A11 := Aside0.mk A110
          clear A110
          have H' := Aside0.mk H
          clear H
          go_wp2_with (first | ((with_reducible refine gate_callee (f := 8) rfl ?_); refine goesL_ (some 15) rfl rfl Try.func8 (by kernel_rfl) rfl #[] rfl (by (try simp only [List.map_toArray, List.map_cons, List.map_nil]); first | done | rfl | (simp only [List.length_drop, List.length_take]; rfl)) ?_; (with_reducible refine (antecedentlaw18_awake.calls k  true _ A5.out).mono ?_); rintro e w12 ⟨rfl, hb⟩; refine ⟨_, rfl, ?_⟩; have n0_ := Aside0.mk (Kd.V_below (by (with_reducible repeat (first | apply Kd.V_alloc | apply Kd.V_drewN | apply Kd.V_drew)); exact HO1.out) hb); have n1_ := Aside0.mk (below_step (by repeat (first | (with_reducible first | exact HB.out | apply below_alloc | apply pw_below_drewN | apply below_drew1) | exact HB.out)) hb); clear HO1; clear HB; have HO1 := n0_; have HB := n1_; clear n0_ n1_; (try clear hb); (try clear hb2); (try clear hk); (try clear hi)) | (go_at_call 13; (with_reducible refine (antecedentref03_Perm.calls k _ _ l1 t428 _ ?side1 ?side2 A11.out).mono ?_); (case side1 => repeat (first | exact (Kd.V_reads' HO1.out).2.2 | (with_reducible refine Kd.C_alloc ?_ _) | (with_reducible refine Kd.C_drewN ?_ _) | (with_reducible refine Kd.C_drew ?_))); (case side2 => exact (Kd.V_reads' HO1.out).2.1); rintro e w' ⟨rfl, ⟨nd, rfl⟩⟩))
          go_meet
          case rel => exact ⟨_, (!t428), (by first | rfl | (simp; done) | (simp [*]; done)), H', ⟨by first | omega | exact Nat.le_refl _⟩, ⟨by (with_reducible repeat (first | apply Kd.V_alloc | apply Kd.V_drewN | apply Kd.V_drew)); exact HO1.out⟩, ⟨by repeat (first | (with_reducible first | exact HB.out | apply below_alloc | apply pw_below_drewN | apply below_drew1) | exact HB.out)⟩⟩
    · replace c6 := Bool.eq_false_iff.mpr c6
      subst c6
      have H1 : (none) = some r := by rw [if_neg (show ¬ (false = true) by decide)] at H; exact H
      clear H
      have H := H1
      clear H1
      exact absurd H (by simp)
  case rest =>
    clear HC4
    try clear c1
    try clear c2
    try clear p2
    try clear c6
    try clear c7
    try clear c7b0
    try clear c7b1
    try clear c8
    try clear c9
    try clear c9b0
    try clear c9b1
    obtain ⟨kq, x31_3, rfl, HA, HJ3, HO_1, HB⟩ := hcut
    cases kq with
    | zero => exact absurd HA.out (by simp [antecedentlaw18_ChainWhole.j0])
    | succ kj3 =>
      have H := HA.out
      clear HA
      simp only [antecedentlaw18_ChainWhole.j0] at H
      by_cases c13 : x31_3 = true
      · subst c13
        have H1 : ((antecedentlaw18_awake.f kj3).bind fun t429 => (if t429 = true then (some t429) else (none))) = some r := by rw [if_pos rfl] at H; exact H
        clear H
        have H := H1
        clear H1
        replace H := Option.bind_eq_some_iff.mp H
        obtain ⟨t429, A140, H⟩ := H
        replace H : (if t429 = true then (some t429) else (none)) = some r := H
        have A14 := Aside0.mk A140
        clear A140
        by_cases c15 : t429 = true
        · subst c15
          have H1 : (some true) = some r := by rw [if_pos rfl] at H; exact H
          clear H
          have H := H1
          clear H1
          obtain rfl := Option.some.inj H
          go_wp2_with (first | ((with_reducible refine gate_callee (f := 8) rfl ?_); refine goesL_ (some 32) rfl rfl Try.func8 (by kernel_rfl) rfl #[] rfl (by (try simp only [List.map_toArray, List.map_cons, List.map_nil]); first | done | rfl | (simp only [List.length_drop, List.length_take]; rfl)) ?_; (with_reducible refine (antecedentlaw18_awake.calls kj3  true _ A14.out).mono ?_); rintro e w16 ⟨rfl, hb⟩; refine ⟨_, rfl, ?_⟩; have n0_ := Aside0.mk (Kd.V_below (by (with_reducible repeat (first | apply Kd.V_alloc | apply Kd.V_drewN | apply Kd.V_drew)); exact HO_1.out) hb); have n1_ := Aside0.mk (below_step (by repeat (first | (with_reducible first | exact HB.out | apply below_alloc | apply pw_below_drewN | apply below_drew1) | exact HB.out)) hb); clear HO_1; clear HB; have HO_1 := n0_; have HB := n1_; clear n0_ n1_; (try clear hb); (try clear hb2); (try clear hk); (try clear hi)))
          go_ret
          exact ⟨by first | rfl | (simp [errW_none, errW_some] <;> rfl) | (simp [*, errW_none, errW_some] <;> rfl), by repeat (first | (with_reducible first | exact HB.out | apply below_alloc | apply pw_below_drewN | apply below_drew1) | exact HB.out)⟩
        · replace c15 := Bool.eq_false_iff.mpr c15
          subst c15
          have H1 : (none) = some r := by rw [if_neg (show ¬ (false = true) by decide)] at H; exact H
          clear H
          have H := H1
          clear H1
          exact absurd H (by simp)
      · replace c13 := Bool.eq_false_iff.mpr c13
        subst c13
        have H1 : (antecedentlaw18_ChainWhole.l0 kj3 a0 l1 l2 (l1.length : Int) ([] : List (List Int)) 0 (l2.length : Int) 0) = some r := by rw [if_neg (show ¬ (false = true) by decide)] at H; exact H
        clear H
        have H := H1
        clear H1
        have H' := Aside0.mk H
        clear H
        go_wp2
        go_loopg [8, 10, 37] kj3 (fun kq v8 v10 v37 w' => ∃ (x8_2 : List (List Int)) (x10_2 : Int) (x37_2 : Int), v10 = .int .i64 x10_2 ∧ v37 = .int .i64 x37_2 ∧ Aside0 (antecedentlaw18_ChainWhole.l0 kq a0 l1 l2 (l1.length : Int) x8_2 x10_2 (l2.length : Int) x37_2 = some r) ∧ Aside0 (kq ≤ kj3) ∧ Aside0 (Kd.V (Kd.int .i64) 3 w' w.heap.size (fun k_ => (P1_ k_ ∨ w.heap.size ≤ k_) ∧ some k_ ≠ (v8 : Value).ownBlock) (.slice A1 l1.length c1) l1) ∧ Aside0 (Kd.N (Kd.slice 3 (Kd.int .i64)) 31 w' w.heap.size (fun k_ => (P1_ k_ ∨ w.heap.size ≤ k_)) v8 x8_2) ∧ Aside0 (Below w.heap.size w w'))
        case atStart => exact ⟨(([] : List (List Int))), (0), (0), (by first | rfl | (simp; done) | (simp [*]; done)), (by first | rfl | (simp; done) | (simp [*]; done)), H', ⟨Nat.le_refl _⟩, ⟨by (with_reducible repeat (first | apply Kd.V_alloc | apply Kd.V_drewN | apply Kd.V_drew)); exact Kd.V_mono HO_1.out (fun _ hk => ⟨hk, (by simp [Value.ownBlock])⟩)⟩, ⟨by first | exact Kd.S_nil _ _ _ _ _ | exact Kd.N_nil _ _ _ _ _ | exact Kd.V_nil _ _ _ _ _ | exact Kd.Q_nil _ _ _ _ _ | exact Kd.R_nil _ _ _ _ _⟩, ⟨by repeat (first | (with_reducible first | exact HB.out | apply below_alloc | apply pw_below_drewN | apply below_drew1) | exact HB.out)⟩⟩
        case round =>
          clear H'
          try clear c1
          try clear c2
          try clear p2
          try clear c6
          try clear c7
          try clear c7b0
          try clear c7b1
          try clear c8
          try clear c9
          try clear c9b0
          try clear c9b1
          try clear c13
          try clear c15
          try clear p2
          obtain ⟨x8_2, x10_2, x37_2, rfl, rfl, HA, HK2, HO_1, HO_8, HB⟩ := hrel
          cases gk with
          | zero => exact absurd HA.out (by simp [antecedentlaw18_ChainWhole.l0])
          | succ k2 =>
            have H := HA.out
            clear HA
            simp only [antecedentlaw18_ChainWhole.l0] at H
            by_cases c17 : x37_2 < (l2.length : Int)
            · rw [if_pos c17] at H
              have c17b0 : decide (x37_2 < (l2.length : Int)) = true := decide_eq_true c17
              clear c17
              by_cases c18 : 0 ≤ x37_2
              · rw [if_pos c18] at H
                have c18b0 : decide (0 ≤ x37_2) = true := decide_eq_true c18
                clear c18
                by_cases c19 : x37_2 < (l2.length : Int)
                · rw [if_pos c19] at H
                  have c19b0 : decide (x37_2 < (l2.length : Int)) = true := decide_eq_true c19
                  clear c19
                  by_cases c20 : (wrap64 ((l1.length : Int) + 1)) = 0
                  · rw [if_pos c20] at H
                    exact absurd H (by simp)
                  · rw [if_neg c20] at H
                    have c20b0 : ((wrap64 ((l1.length : Int) + 1)) == 0) = false := beq_eq_false_iff_ne.mpr c20
                    have c20b1 : ((wrap64 ((l1.length : Int) + 1)) != 0) = true := bne_iff_ne.mpr c20
                    obtain ⟨ji21, hji21⟩ : ∃ j_ : Int, (Int.tmod (wrap64 (rd l2 x37_2)) (wrap64 ((l1.length : Int) + 1))) = j_ := ⟨_, rfl⟩
                    replace H : (if 0 ≤ (ji21) then (if (ji21) ≤ (l1.length : Int) then (if x8_2.length < 5864062014805 then (antecedentlaw18_ChainWhole.l0 k2 a0 l1 l2 (l1.length : Int) (x8_2 ++ [(l1.take ((ji21) : Int).toNat)]) (mx x10_2 (ji21)) (l2.length : Int) (wrap64 (x37_2 + 1))) else (none)) else (none)) else (none)) = some r := by first | (rw [hji21] at H; exact H) | (simp only [hji21] at H ⊢; exact H)
                    by_cases c22 : 0 ≤ (ji21)
                    · rw [if_pos c22] at H
                      have c22b0 := eq_true c22
                      have c22b1 : decide (0 ≤ (ji21)) = true := decide_eq_true c22
                      clear c22
                      by_cases c23 : (ji21) ≤ (l1.length : Int)
                      · rw [if_pos c23] at H
                        have c23b0 := eq_true c23
                        have c23b1 : decide ((ji21) ≤ (l1.length : Int)) = true := decide_eq_true c23
                        clear c23
                        obtain ⟨y431, hy431⟩ : ∃ y_ : List Int, y_ = (l1.take ((ji21) : Int).toNat) := ⟨_, rfl⟩
                        replace H : (if x8_2.length < 5864062014805 then (antecedentlaw18_ChainWhole.l0 k2 a0 l1 l2 (l1.length : Int) (x8_2 ++ [y431]) (mx x10_2 (ji21)) (l2.length : Int) (wrap64 (x37_2 + 1))) else (none)) = some r := by first | (rw [hy431]; with_reducible exact H) | (have H2_ := (Option.bind_some _ _).symm.trans H; rw [hy431]; with_reducible exact H2_) | (have H2_ := (Option.bind_some _ _).symm.trans H; with_reducible exact H2_) | with_reducible exact H | (rw [hy431]; exact H) | exact H
                        have Ny431 := Aside0.mk hy431
                        clear hy431
                        by_cases c24 : x8_2.length < 5864062014805
                        · rw [if_pos c24] at H
                          have LMc24 := Aside0.mk c24
                          clear c24
                          obtain ⟨y436, hy436⟩ : ∃ y_ : List (List Int), y_ = (x8_2 ++ [y431]) := ⟨_, rfl⟩
                          replace H : (antecedentlaw18_ChainWhole.l0 k2 a0 l1 l2 (l1.length : Int) y436 (mx x10_2 (ji21)) (l2.length : Int) (wrap64 (x37_2 + 1))) = some r := by first | (rw [hy436]; with_reducible exact H) | (have H2_ := (Option.bind_some _ _).symm.trans H; rw [hy436]; with_reducible exact H2_) | (have H2_ := (Option.bind_some _ _).symm.trans H; with_reducible exact H2_) | with_reducible exact H | (rw [hy436]; exact H) | exact H
                          have Ny436 := Aside0.mk hy436
                          clear hy436
                          obtain ⟨ji25, hji25⟩ : ∃ j_ : Int, (mx x10_2 (ji21)) = j_ := ⟨_, rfl⟩
                          replace H : (antecedentlaw18_ChainWhole.l0 k2 a0 l1 l2 (l1.length : Int) y436 ji25 (l2.length : Int) (wrap64 (x37_2 + 1))) = some r := by first | (rw [hji25] at H; exact H) | (simp only [hji25] at H ⊢; exact H)
                          have hji25_ : (if x10_2 < (ji21) then (ji21) else x10_2) = ji25 := hji25
                          have H' := Aside0.mk H
                          clear H
                          have p430 : 0 ≤ (x37_2 : Int) := of_decide_eq_true (by first | (with_reducible assumption) | assumption)
                          have q430 : x37_2 < (l2.length : Int) := of_decide_eq_true (by first | (with_reducible assumption) | assumption)
                          obtain ⟨ad430, e430, hx430_0⟩ := Kd.at_int HR2.out x37_2 p430 q430
                          cases e430
                          replace hx430_0 := (HB.out.cell (World.block_lt_of_cell? w _ hx430_0)).trans hx430_0
                          replace p430 := eq_true p430
                          replace q430 := eq_true q430
                          have q26 : ((ji21) : Int) ≤ ((l1.length : Int) : Int) := of_decide_eq_true (by first | (with_reducible assumption) | assumption)
                          obtain ⟨i026, hi026, _, hsz26, _⟩ := info_parts info3
                          have hroom26 : l1.length ≤ c1 := (Kd.V_reads' HO_1.out).2.1
                          have hC26 : Kd.F (Kd.int .i64) _ _ A1 l1.length l1 := (Kd.V_at (base := w.heap.size) HO_1.out).2.2
                          have hcut26 := cut_to (P := Try.prog) 31 3 .i64 Try.underlying31 hi026 A1 l1.length c1 (ji21) (of_decide_eq_true (by first | (with_reducible assumption) | assumption)) q26 hroom26
                          have hr26 := Kd.F_take (m := ((ji21) : Int).toNat) hC26 (by omega)
                          have hy26 : y431.length = ((ji21) : Int).toNat := (by rw [Ny431.out, List.length_take]; omega)
                          rw [← Ny431.out] at hr26
                          rw [← hy26] at hcut26
                          have HO435 := Aside0.mk (show Kd.V (Kd.int .i64) 3 _ w.heap.size _ (.slice A1 y431.length c1) y431 from Kd.V_mk (by omega) hr26)
                          have HC435 := Aside0.mk (show y431.length ≤ c1 from by omega)
                          clear hr26 hC26 hroom26 hi026 hsz26
                          have KY26 := Aside0.mk hy26
                          clear hy26
                          replace q26 := eq_true q26
                          go_wp2_with (first | ((with_reducible refine gate_builtin (b := .append) (xs := #[.tmp 48, .tmp 52]) rfl ?_); (try (refine gate_guard (by rfl) ?_; dsimp only)); at_builtin; refine Kd.N_append (Kd.slice 3 (Kd.int .i64)) (w0 := w) w.heap.size rfl (.tmp 48) (.tmp 52) 22 31 (.slice none 0 0) 24 rfl Try.underlying22 info31 rfl (by decide) (by omega) u8 x8_2 y431 [.slice A1 y431.length c1] (fun k_ => (P1_ k_ ∨ w.heap.size ≤ k_)) (fun k_ => ((fun k_ => (P1_ k_ ∨ w.heap.size ≤ k_))) k_ ∧ some k_ ≠ (u8 : Value).ownBlock) rfl rfl ?aP (fun _ hk => hk) ?aF ?aO ?aB ?aS ?aL ?_; (case aP => exact (Kd.FK_slice_mk (Kd.V_reads' (Kd.V_mono (ok' := (fun k_ => ((fun k_ => (P1_ k_ ∨ w.heap.size ≤ k_))) k_ ∧ some k_ ≠ (u8 : Value).ownBlock)) (HO435.out) (fun k_ hk => ⟨hk.1, hk.2⟩))).2.1 (Kd.V_F (Kd.V_mono (ok' := (fun k_ => ((fun k_ => (P1_ k_ ∨ w.heap.size ≤ k_))) k_ ∧ some k_ ≠ (u8 : Value).ownBlock)) (HO435.out) (fun k_ hk => ⟨hk.1, hk.2⟩))))); (case aB => exact (by repeat (first | (with_reducible first | exact HB.out | apply below_alloc | apply pw_below_drewN | apply below_drew1) | exact HB.out))); (case aF => exact (fun k_ hk => (.inr (Nat.le_trans (below_size (by repeat (first | (with_reducible first | exact HB.out | apply below_alloc | apply pw_below_drewN | apply below_drew1) | exact HB.out))) hk)))); (case aO => exact (by (with_reducible repeat (first | apply Kd.N_alloc | apply Kd.N_drewN | apply Kd.N_drew)); exact HO_8.out)); (case aS => exact (below_size (by repeat (first | (with_reducible first | exact HB.out | apply below_alloc | apply pw_below_drewN | apply below_drew1) | exact HB.out)))); (case aL => have := LMc24.out; omega); intro v437 w27 ho hb hg hat; rw [← Ny436.out] at ho; have n0_ := Aside0.mk (Kd.V_afterv (ok := (fun k_ => (P1_ k_ ∨ w.heap.size ≤ k_))) (by (with_reducible repeat (first | apply Kd.V_alloc | apply Kd.V_drewN | apply Kd.V_drew)); exact HO_1.out) hg hat); have n1_ := Aside0.mk (Kd.V_afterv (ok := (fun k_ => (P1_ k_ ∨ w.heap.size ≤ k_))) (by (with_reducible repeat (first | apply Kd.V_alloc | apply Kd.V_drewN | apply Kd.V_drew)); exact HO435.out) hg hat); have n2_ := Aside0.mk (hb); have n3_ := Aside0.mk (ho); clear HO_1; clear HO435; clear HB; clear HO_8; have HO_1 := n0_; have HO435 := n1_; have HB := n2_; have HO438 := n3_; clear n0_ n1_ n2_ n3_; clear ho hb hg hat))
                          go_roundg k2
                          case measure => have := HJ3.out; have := HK2.out; omega
                          case rel => exact ⟨(y436), (ji25), (wrap64 (x37_2 + 1)), (by first | rfl | (simp; done) | (simp only [← hji25] <;> (first | rfl | simp)) | (simp [*]; done)), (by first | rfl | (simp; done) | (simp [*]; done)), H', ⟨by have := HJ3.out; have := HK2.out; omega⟩, ⟨by (with_reducible repeat (first | apply Kd.V_alloc | apply Kd.V_drewN | apply Kd.V_drew)); exact HO_1.out⟩, ⟨by (with_reducible repeat (first | apply Kd.N_alloc | apply Kd.N_drewN | apply Kd.N_drew)); exact HO438.out⟩, ⟨by repeat (first | (with_reducible first | exact HB.out | apply below_alloc | apply pw_below_drewN | apply below_drew1) | exact HB.out)⟩⟩
                        · rw [if_neg c24] at H
                          exact absurd H (by simp)
                      · rw [if_neg c23] at H
                        exact absurd H (by simp)
                    · rw [if_neg c22] at H
                      exact absurd H (by simp)
                · rw [if_neg c19] at H
                  exact absurd H (by simp)
              · rw [if_neg c18] at H
                exact absurd H (by simp)
            · rw [if_neg c17] at H
              have c17b0 : decide (x37_2 < (l2.length : Int)) = false := decide_eq_false c17
              clear c17
              have H' := Aside0.mk H
              clear H
              go_wp2
              go_loopg [9, 59] k2 (fun kq v9 v59 w' => ∃ (x9_3 : List (List Int)) (x59_3 : Int), v59 = .int .i64 x59_3 ∧ Aside0 (antecedentlaw18_ChainWhole.l1 kq a0 l1 (l1.length : Int) x8_2 x9_3 x10_2 (l1.length : Int) x59_3 = some r) ∧ Aside0 (kq ≤ k2) ∧ Aside0 (Kd.V (Kd.int .i64) 3 w' w.heap.size (fun k_ => (P1_ k_ ∨ w.heap.size ≤ k_) ∧ some k_ ≠ (u8 : Value).ownBlock ∧ some k_ ≠ (v9 : Value).ownBlock) (.slice A1 l1.length c1) l1) ∧ Aside0 (Kd.N (Kd.slice 3 (Kd.int .i64)) 31 w' w.heap.size (fun k_ => (P1_ k_ ∨ w.heap.size ≤ k_) ∧ some k_ ≠ (v9 : Value).ownBlock) u8 x8_2) ∧ Aside0 (Kd.N (Kd.slice 3 (Kd.int .i64)) 31 w' w.heap.size (fun k_ => (P1_ k_ ∨ w.heap.size ≤ k_) ∧ some k_ ≠ (u8 : Value).ownBlock) v9 x9_3) ∧ Aside0 (Below w.heap.size w w'))
              case atStart => exact ⟨(([] : List (List Int))), (0), (by first | rfl | (simp; done) | (simp [*]; done)), H', ⟨Nat.le_refl _⟩, ⟨by (with_reducible repeat (first | apply Kd.V_alloc | apply Kd.V_drewN | apply Kd.V_drew)); exact Kd.V_mono HO_1.out (fun _ hk => ⟨hk.1, ⟨hk.2, (by simp [Value.ownBlock])⟩⟩)⟩, ⟨by (with_reducible repeat (first | apply Kd.N_alloc | apply Kd.N_drewN | apply Kd.N_drew)); exact Kd.N_mono HO_8.out (fun _ hk => ⟨hk, (by simp [Value.ownBlock])⟩)⟩, ⟨by first | exact Kd.S_nil _ _ _ _ _ | exact Kd.N_nil _ _ _ _ _ | exact Kd.V_nil _ _ _ _ _ | exact Kd.Q_nil _ _ _ _ _ | exact Kd.R_nil _ _ _ _ _⟩, ⟨by repeat (first | (with_reducible first | exact HB.out | apply below_alloc | apply pw_below_drewN | apply below_drew1) | exact HB.out)⟩⟩
              case round =>
                clear H'
                try clear c1
                try clear c2
                try clear p2
                try clear q2
                try clear p4
                try clear q4
                try clear hx4
                try clear c6
                try clear p6
                try clear c7
                try clear c7b0
                try clear c7b1
                try clear c8
                try clear c9
                try clear c9b0
                try clear c9b1
                try clear c13
                try clear c15
                try clear c17
                try clear c17b0
                try clear c18
                try clear c18b0
                try clear c19
                try clear c19b0
                try clear c20
                try clear c20b0
                try clear c20b1
                try clear c22
                try clear c22b0
                try clear c22b1
                try clear c23
                try clear c23b0
                try clear c23b1
                try clear c24
                try clear q26
                try clear hx430_0
                try clear p2
                try clear p430
                try clear q26
                try clear q430
                obtain ⟨x9_3, x59_3, rfl, HA, HK3, HO_1, HO_8, HO_9, HB⟩ := hrel
                cases gk with
                | zero => exact absurd HA.out (by simp [antecedentlaw18_ChainWhole.l1])
                | succ k3 =>
                  have H := HA.out
                  clear HA
                  simp only [antecedentlaw18_ChainWhole.l1] at H
                  by_cases c28 : x59_3 < (l1.length : Int)
                  · rw [if_pos c28] at H
                    have c28b0 : decide (x59_3 < (l1.length : Int)) = true := decide_eq_true c28
                    clear c28
                    by_cases c29 : 0 ≤ x59_3
                    · rw [if_pos c29] at H
                      have c29b0 : decide (0 ≤ x59_3) = true := decide_eq_true c29
                      clear c29
                      by_cases c30 : x59_3 < (l1.length : Int)
                      · rw [if_pos c30] at H
                        have c30b0 : decide (x59_3 < (l1.length : Int)) = true := decide_eq_true c30
                        clear c30
                        obtain ⟨y440, hy440⟩ : ∃ y_ : List Int, y_ = (([rd l1 x59_3] : List Int)) := ⟨_, rfl⟩
                        replace H : (if x9_3.length < 5864062014805 then (antecedentlaw18_ChainWhole.l1 k3 a0 l1 (l1.length : Int) x8_2 (x9_3 ++ [y440]) x10_2 (l1.length : Int) (wrap64 (x59_3 + 1))) else (none)) = some r := by first | (rw [hy440]; with_reducible exact H) | (have H2_ := (Option.bind_some _ _).symm.trans H; rw [hy440]; with_reducible exact H2_) | (have H2_ := (Option.bind_some _ _).symm.trans H; with_reducible exact H2_) | with_reducible exact H | (rw [hy440]; exact H) | exact H
                        have Ny440 := Aside0.mk hy440
                        clear hy440
                        by_cases c31 : x9_3.length < 5864062014805
                        · rw [if_pos c31] at H
                          have LMc31 := Aside0.mk c31
                          clear c31
                          obtain ⟨y443, hy443⟩ : ∃ y_ : List (List Int), y_ = (x9_3 ++ [y440]) := ⟨_, rfl⟩
                          replace H : (antecedentlaw18_ChainWhole.l1 k3 a0 l1 (l1.length : Int) x8_2 y443 x10_2 (l1.length : Int) (wrap64 (x59_3 + 1))) = some r := by first | (rw [hy443]; with_reducible exact H) | (have H2_ := (Option.bind_some _ _).symm.trans H; rw [hy443]; with_reducible exact H2_) | (have H2_ := (Option.bind_some _ _).symm.trans H; with_reducible exact H2_) | with_reducible exact H | (rw [hy443]; exact H) | exact H
                          have Ny443 := Aside0.mk hy443
                          clear hy443
                          have H' := Aside0.mk H
                          clear H
                          have p439 : 0 ≤ (x59_3 : Int) := of_decide_eq_true (by first | (with_reducible assumption) | assumption)
                          have q439 : x59_3 < (l1.length : Int) := of_decide_eq_true (by first | (with_reducible assumption) | assumption)
                          obtain ⟨ad439, e439, hx439_0⟩ := Kd.at_int (Kd.V_reads' HO_1.out).2.2 x59_3 p439 q439
                          cases e439
                          replace p439 := eq_true p439
                          replace q439 := eq_true q439
                          go_wp2_with (first | ((with_reducible refine gate_dst (N := 67) rfl ?_); (try (refine gate_guard (by rfl) ?_; dsimp only)); refine Kd.R_lit (Kd.int .i64) _ 3 ?hg (N := 67) ?hd (xs := ([rd l1 x59_3] : List Int)) (inner := [.int .i64 (rd l1 x59_3)]) (ok := fun _ => True) (okp := fun _ => True) ?hr ?hp (fun _ hk => hk) trivial (Below.refl _ _) (Nat.le_refl _) (by simp) ?_; (case hd => rfl); (case hg => rfl); (case hr => first | (go_simp; done) | (go_simp; rfl)); (case hp => exact (Reps.one (show Kd.M (Kd.int .i64) _ _ _ (rd l1 x59_3) [.int .i64 (rd l1 x59_3)] from rfl) (Reps.none _ _))); intro v441 w32 ho33 hb hg_ hnew_; clear hg_ hnew_; (first | rw [← Ny440.out] at ho33 | (simp only [Int.reduceToNat] at ho33; rw [← Ny440.out] at ho33)); have n0_ := Aside0.mk (Kd.V_elder' (by (with_reducible repeat (first | apply Kd.V_alloc | apply Kd.V_drewN | apply Kd.V_drew)); exact HO_1.out) (Kd.R_base ho33) hb); have n1_ := Aside0.mk (Kd.N_elder' (by (with_reducible repeat (first | apply Kd.N_alloc | apply Kd.N_drewN | apply Kd.N_drew)); exact HO_8.out) (Kd.R_base ho33) hb); have n2_ := Aside0.mk (Kd.N_elder' (by (with_reducible repeat (first | apply Kd.N_alloc | apply Kd.N_drewN | apply Kd.N_drew)); exact HO_9.out) (Kd.R_base ho33) hb); have n3_ := Aside0.mk (Kd.R_lower (Kd.R_newM (M := fun k_ => (w.heap.size ≤ k_)) ho33 (below_size (by repeat (first | (with_reducible first | exact HB.out | apply below_alloc | apply pw_below_drewN | apply below_drew1) | exact HB.out))) (fun k_ h_ => h_)) (below_size (by repeat (first | (with_reducible first | exact HB.out | apply below_alloc | apply pw_below_drewN | apply below_drew1) | exact HB.out)))); have n4_ := Aside0.mk (below_step (by repeat (first | (with_reducible first | exact HB.out | apply below_alloc | apply pw_below_drewN | apply below_drew1) | exact HB.out)) hb); clear HO_1; clear HO_8; clear HO_9; clear HB; have HO_1 := n0_; have HO_8 := n1_; have HO_9 := n2_; have HO442 := n3_; have HB := n4_; clear n0_ n1_ n2_ n3_ n4_; clear hb ho33; obtain ⟨Ao35, co35, eo35⟩ := Kd.R_slice HO442.out; subst eo35) | ((with_reducible refine gate_builtin (b := .append) (xs := #[.tmp 62, .tmp 68]) rfl ?_); (try (refine gate_guard (by rfl) ?_; dsimp only)); at_builtin; refine Kd.N_append (Kd.slice 3 (Kd.int .i64)) (w0 := w) w.heap.size rfl (.tmp 62) (.tmp 68) 22 31 (.slice none 0 0) 24 rfl Try.underlying22 info31 rfl (by decide) (by omega) u9 x9_3 y440 [.slice Ao35 y440.length co35] (fun k_ => (P1_ k_ ∨ w.heap.size ≤ k_) ∧ some k_ ≠ (u8 : Value).ownBlock) (fun k_ => ((fun k_ => (P1_ k_ ∨ w.heap.size ≤ k_) ∧ some k_ ≠ (u8 : Value).ownBlock)) k_ ∧ some k_ ≠ (u9 : Value).ownBlock) rfl rfl ?aP (fun _ hk => hk) ?aF ?aO ?aB ?aS ?aL ?_; (case aP => exact (Kd.FK_slice_mk (Kd.R_reads' (Kd.R_mono (ok' := (fun k_ => ((fun k_ => (P1_ k_ ∨ w.heap.size ≤ k_) ∧ some k_ ≠ (u8 : Value).ownBlock)) k_ ∧ some k_ ≠ (u9 : Value).ownBlock)) (Kd.R_apart' (Kd.R_apart' (HO442.out) (Kd.N_typed HO_8.out) (by decide)) (Kd.N_typed HO_9.out) (by decide)) (fun k_ hk => ⟨⟨(.inr (hk.1.1.1)), hk.1.2⟩, hk.2⟩))).2.1 (Kd.R_F (Kd.R_mono (ok' := (fun k_ => ((fun k_ => (P1_ k_ ∨ w.heap.size ≤ k_) ∧ some k_ ≠ (u8 : Value).ownBlock)) k_ ∧ some k_ ≠ (u9 : Value).ownBlock)) (Kd.R_apart' (Kd.R_apart' (HO442.out) (Kd.N_typed HO_8.out) (by decide)) (Kd.N_typed HO_9.out) (by decide)) (fun k_ hk => ⟨⟨(.inr (hk.1.1.1)), hk.1.2⟩, hk.2⟩))))); (case aB => exact (by repeat (first | (with_reducible first | exact HB.out | apply below_alloc | apply pw_below_drewN | apply below_drew1) | exact HB.out))); (case aF => exact (fun k_ hk => ⟨(.inr (Nat.le_trans (below_size (by repeat (first | (with_reducible first | exact HB.out | apply below_alloc | apply pw_below_drewN | apply below_drew1) | exact HB.out))) hk)), Kd.fresh' (Kd.N_lt (by (with_reducible repeat (first | apply Kd.N_alloc | apply Kd.N_drewN | apply Kd.N_drew)); exact HO_8.out)) k_ hk⟩)); (case aO => exact (by (with_reducible repeat (first | apply Kd.N_alloc | apply Kd.N_drewN | apply Kd.N_drew)); exact Kd.N_mono HO_9.out (fun _ hk => ⟨hk.1.1, hk.1.2⟩))); (case aS => exact (below_size (by repeat (first | (with_reducible first | exact HB.out | apply below_alloc | apply pw_below_drewN | apply below_drew1) | exact HB.out)))); (case aL => have := LMc31.out; omega); intro v444 w34 ho hb hg hat; rw [← Ny443.out] at ho; have n0_ := Aside0.mk (Kd.V_afterv (ok := (fun k_ => (P1_ k_ ∨ w.heap.size ≤ k_) ∧ some k_ ≠ (u8 : Value).ownBlock ∧ some k_ ≠ (.slice Ao35 y440.length co35 : Value).ownBlock)) (by (with_reducible repeat (first | apply Kd.V_alloc | apply Kd.V_drewN | apply Kd.V_drew)); exact Kd.V_mono HO_1.out (fun _ hk => ⟨⟨hk.1.1, ⟨hk.1.2.1, hk.2⟩⟩, hk.1.2.2⟩)) hg hat); have n1_ := Aside0.mk (Kd.N_afterv (ok := (fun k_ => (P1_ k_ ∨ w.heap.size ≤ k_) ∧ some k_ ≠ (.slice Ao35 y440.length co35 : Value).ownBlock)) (by (with_reducible repeat (first | apply Kd.N_alloc | apply Kd.N_drewN | apply Kd.N_drew)); exact Kd.N_mono HO_8.out (fun _ hk => ⟨⟨hk.1.1, hk.2⟩, hk.1.2⟩)) hg hat); have n2_ := Aside0.mk (hb); have n3_ := Aside0.mk (ho); clear HO_1; clear HO_8; clear HB; clear HO_9; clear HO442; have HO_1 := n0_; have HO_8 := n1_; have HB := n2_; have HO445 := n3_; clear n0_ n1_ n2_ n3_; clear ho hb hg hat))
                          go_roundg k3
                          case measure => have := HJ3.out; have := HK2.out; have := HK3.out; omega
                          case rel => exact ⟨(y443), (wrap64 (x59_3 + 1)), (by first | rfl | (simp; done) | (simp [*]; done)), H', ⟨by have := HJ3.out; have := HK2.out; have := HK3.out; omega⟩, ⟨by (with_reducible repeat (first | apply Kd.V_alloc | apply Kd.V_drewN | apply Kd.V_drew)); exact Kd.V_mono HO_1.out (fun _ hk => ⟨hk.1.1, ⟨hk.1.2.1, hk.2⟩⟩)⟩, ⟨by (with_reducible repeat (first | apply Kd.N_alloc | apply Kd.N_drewN | apply Kd.N_drew)); exact Kd.N_mono HO_8.out (fun _ hk => ⟨hk.1.1, hk.2⟩)⟩, ⟨by (with_reducible repeat (first | apply Kd.N_alloc | apply Kd.N_drewN | apply Kd.N_drew)); exact HO445.out⟩, ⟨by repeat (first | (with_reducible first | exact HB.out | apply below_alloc | apply pw_below_drewN | apply below_drew1) | exact HB.out)⟩⟩
                        · rw [if_neg c31] at H
                          exact absurd H (by simp)
                      · rw [if_neg c30] at H
                        exact absurd H (by simp)
                    · rw [if_neg c29] at H
                      exact absurd H (by simp)
                  · rw [if_neg c28] at H
                    have c28b0 : decide (x59_3 < (l1.length : Int)) = false := decide_eq_false c28
                    clear c28
                    obtain ⟨ji36, hji36⟩ : ∃ j_ : Int, (mn x10_2 1) = j_ := ⟨_, rfl⟩
                    replace H : ((chain_Least.f k3 (l1.length : Int) x8_2).bind fun t446 => (if t446 = (ji36) then ((chain_Least.f k3 (l1.length : Int) x9_3).bind fun t447 => (if t447 = (l1.length : Int) then ((chain_Least.f k3 (wrap64 (a0)) ([] : List (List Int))).bind fun t448 => (some (t448 == (-(mx 0 (mn 1 (wrap64 ((wrap64 (a0)) - 8)))))))) else (none))) else (none))) = some r := by first | (rw [hji36] at H; exact H) | (simp only [hji36] at H ⊢; exact H)
                    have hji36_ : (if 1 < x10_2 then 1 else x10_2) = ji36 := hji36
                    replace H := Option.bind_eq_some_iff.mp H
                    obtain ⟨t446, A370, H⟩ := H
                    replace H : (if t446 = (ji36) then ((chain_Least.f k3 (l1.length : Int) x9_3).bind fun t447 => (if t447 = (l1.length : Int) then ((chain_Least.f k3 (wrap64 (a0)) ([] : List (List Int))).bind fun t448 => (some (t448 == (-(mx 0 (mn 1 (wrap64 ((wrap64 (a0)) - 8)))))))) else (none))) else (none)) = some r := H
                    have A37 := Aside0.mk A370
                    clear A370
                    by_cases c38 : t446 = (ji36)
                    · rw [if_pos c38] at H
                      have c38b0 : (t446 == (ji36)) = true := beq_iff_eq.mpr c38
                      have c38b1 : (t446 != (ji36)) = false := bne_eq_false_iff_eq.mpr c38
                      clear c38
                      replace H := Option.bind_eq_some_iff.mp H
                      obtain ⟨t447, A390, H⟩ := H
                      replace H : (if t447 = (l1.length : Int) then ((chain_Least.f k3 (wrap64 (a0)) ([] : List (List Int))).bind fun t448 => (some (t448 == (-(mx 0 (mn 1 (wrap64 ((wrap64 (a0)) - 8)))))))) else (none)) = some r := H
                      have A39 := Aside0.mk A390
                      clear A390
                      by_cases c40 : t447 = (l1.length : Int)
                      · rw [if_pos c40] at H
                        have c40b0 : (t447 == (l1.length : Int)) = true := beq_iff_eq.mpr c40
                        have c40b1 : (t447 != (l1.length : Int)) = false := bne_eq_false_iff_eq.mpr c40
                        clear c40
                        replace H := Option.bind_eq_some_iff.mp H
                        obtain ⟨t448, A410, H⟩ := H
                        replace H : (some (t448 == (-(mx 0 (mn 1 (wrap64 ((wrap64 (a0)) - 8))))))) = some r := H
                        have A41 := Aside0.mk A410
                        clear A410
                        obtain ⟨ji42, hji42⟩ : ∃ j_ : Int, (mn 1 (wrap64 ((wrap64 (a0)) - 8))) = j_ := ⟨_, rfl⟩
                        replace H : (some (t448 == (-(mx 0 (ji42))))) = some r := by first | (rw [hji42] at H; exact H) | (simp only [hji42] at H ⊢; exact H)
                        (try rw [hji42] at A37)
                        (try rw [hji42] at A39)
                        (try rw [hji42] at A41)
                        have hji42_ : (if (wrap64 ((wrap64 (a0)) - 8)) < 1 then (wrap64 ((wrap64 (a0)) - 8)) else 1) = ji42 := hji42
                        obtain ⟨ji43, hji43⟩ : ∃ j_ : Int, (mx 0 (ji42)) = j_ := ⟨_, rfl⟩
                        replace H : (some (t448 == (-(ji43)))) = some r := by first | (rw [hji43] at H; exact H) | (simp only [hji43] at H ⊢; exact H)
                        (try rw [hji43] at A37)
                        (try rw [hji43] at A39)
                        (try rw [hji43] at A41)
                        have hji43_ : (if 0 < (ji42) then (ji42) else 0) = ji43 := hji43
                        obtain rfl := Option.some.inj H
                        obtain ⟨Ao44, co44, eo44⟩ := Kd.N_slice HO_8.out
                        subst eo44
                        go_wp2_with (first | ((with_reducible refine gate_callee (f := 12) rfl ?_); refine goesL_ (some 75) rfl rfl Try.func12 (by kernel_rfl) rfl #[.int .i64 (l1.length : Int), .slice Ao44 x8_2.length co44] rfl (by (try simp only [List.map_toArray, List.map_cons, List.map_nil]); first | done | rfl | (simp only [List.length_drop, List.length_take]; rfl)) ?_; (with_reducible refine (chain_Least.calls k3 (l1.length : Int) _ _ x8_2 t446 _ ?side1 ?side2 A37.out).mono ?_); (case side1 => repeat (first | exact (Kd.N_reads' HO_8.out).2.2 | (with_reducible refine Kd.C_alloc ?_ _) | (with_reducible refine Kd.C_drewN ?_ _) | (with_reducible refine Kd.C_drew ?_))); (case side2 => exact (Kd.N_reads' HO_8.out).2.1); rintro e w45 ⟨rfl, hb⟩; refine ⟨_, rfl, ?_⟩; have n0_ := Aside0.mk (Kd.V_below (by (with_reducible repeat (first | apply Kd.V_alloc | apply Kd.V_drewN | apply Kd.V_drew)); exact HO_1.out) hb); have n1_ := Aside0.mk (Kd.N_below (by (with_reducible repeat (first | apply Kd.N_alloc | apply Kd.N_drewN | apply Kd.N_drew)); exact HO_8.out) hb); have n2_ := Aside0.mk (Kd.N_below (by (with_reducible repeat (first | apply Kd.N_alloc | apply Kd.N_drewN | apply Kd.N_drew)); exact HO_9.out) hb); have n3_ := Aside0.mk (below_step (by repeat (first | (with_reducible first | exact HB.out | apply below_alloc | apply pw_below_drewN | apply below_drew1) | exact HB.out)) hb); clear HO_1; clear HO_8; clear HO_9; clear HB; have HO_1 := n0_; have HO_8 := n1_; have HO_9 := n2_; have HB := n3_; clear n0_ n1_ n2_ n3_; (try clear hb); (try clear hb2); (try clear hk); (try clear hi); obtain ⟨Ao46, co46, eo46⟩ := Kd.N_slice HO_9.out; subst eo46) | (go_at_call 12; (with_reducible refine (chain_Least.calls k3 (l1.length : Int) _ _ x9_3 t447 _ ?side1 ?side2 A39.out).mono ?_); (case side1 => repeat (first | exact (Kd.N_reads' HO_9.out).2.2 | (with_reducible refine Kd.C_alloc ?_ _) | (with_reducible refine Kd.C_drewN ?_ _) | (with_reducible refine Kd.C_drew ?_))); (case side2 => exact (Kd.N_reads' HO_9.out).2.1); rintro e w47 ⟨rfl, hb⟩; have n0_ := Aside0.mk (Kd.V_below (by (with_reducible repeat (first | apply Kd.V_alloc | apply Kd.V_drewN | apply Kd.V_drew)); exact HO_1.out) hb); have n1_ := Aside0.mk (Kd.N_below (by (with_reducible repeat (first | apply Kd.N_alloc | apply Kd.N_drewN | apply Kd.N_drew)); exact HO_8.out) hb); have n2_ := Aside0.mk (Kd.N_below (by (with_reducible repeat (first | apply Kd.N_alloc | apply Kd.N_drewN | apply Kd.N_drew)); exact HO_9.out) hb); have n3_ := Aside0.mk (below_step (by repeat (first | (with_reducible first | exact HB.out | apply below_alloc | apply pw_below_drewN | apply below_drew1) | exact HB.out)) hb); clear HO_1; clear HO_8; clear HO_9; clear HB; have HO_1 := n0_; have HO_8 := n1_; have HO_9 := n2_; have HB := n3_; clear n0_ n1_ n2_ n3_; (try clear hb); (try clear hb2); (try clear hk); (try clear hi)) | (go_at_call 12; (refine (chain_Least.calls k3 (wrap64 (a0)) _ _ ([] : List (List Int)) t448 _ ?side1 ?side2 A41.out).mono ?_); (case side1 => exact Kd.C_nil _ _); (case side2 => exact Nat.le_refl _); rintro e w48 ⟨rfl, hb⟩; have n0_ := Aside0.mk (Kd.V_below (by (with_reducible repeat (first | apply Kd.V_alloc | apply Kd.V_drewN | apply Kd.V_drew)); exact HO_1.out) hb); have n1_ := Aside0.mk (Kd.N_below (by (with_reducible repeat (first | apply Kd.N_alloc | apply Kd.N_drewN | apply Kd.N_drew)); exact HO_8.out) hb); have n2_ := Aside0.mk (Kd.N_below (by (with_reducible repeat (first | apply Kd.N_alloc | apply Kd.N_drewN | apply Kd.N_drew)); exact HO_9.out) hb); have n3_ := Aside0.mk (below_step (by repeat (first | (with_reducible first | exact HB.out | apply below_alloc | apply pw_below_drewN | apply below_drew1) | exact HB.out)) hb); clear HO_1; clear HO_8; clear HO_9; clear HB; have HO_1 := n0_; have HO_8 := n1_; have HO_9 := n2_; have HB := n3_; clear n0_ n1_ n2_ n3_; (try clear hb); (try clear hb2); (try clear hk); (try clear hi)))
                        go_ret
                        exact ⟨by first | rfl | (simp [errW_none, errW_some] <;> rfl) | (simp only [← hji36, ← hji42, ← hji43]; first | rfl | (simp [errW_none, errW_some] <;> rfl)) | (simp [*, errW_none, errW_some] <;> rfl), by repeat (first | (with_reducible first | exact HB.out | apply below_alloc | apply pw_below_drewN | apply below_drew1) | exact HB.out)⟩
                      · rw [if_neg c40] at H
                        exact absurd H (by simp)
                    · rw [if_neg c38] at H
                      exact absurd H (by simp)

end Go.Proofs.Ytliocmjeglbpiaa.Ps
