-- printed by a program of this session out of the translation
import Derived.Test.YtolefpeiceiocaaGreatPs0
namespace Go.Proofs.YtolefpeiceiocaaGreat.Ps
open Go.RowKit Go.Proofs.YtolefpeiceiocaaGreatW.PrintWords Go.Proofs.YtolefpeiceiocaaGreatW.PrintLast Go.Proofs.YtolefpeiceiocaaGreatW.PrintMore
attribute [local go_sem] max2_int min2_int max_two min_two max_three min_three max_four min_four   -- for this text's walks alone
set_option linter.unusedVariables false
set_option linter.unusedSimpArgs false

mutual
def antecedentref20_sum.l0 : Nat → List (S25) → List Int → List Int → Int → Int → Option (Int × Bool)
  | 0, _, _, _, _, _ => none
  | k + 1, x0, x4, x5, x11, x12 => if x12 < x11 then (if 0 ≤ x12 then (if x12 < (x0.length : Int) then (if ((rd_T25 x0 x12).f1) < 0 then (if x4.length < 17592186044416 then (antecedentref20_sum.l0 k x0 (x4 ++ [(rd_T25 x0 x12).f1]) x5 x11 (wrap64 (x12 + 1))) else (none)) else (if x5.length < 17592186044416 then (antecedentref20_sum.l0 k x0 x4 (x5 ++ [(rd_T25 x0 x12).f1]) x11 (wrap64 (x12 + 1))) else (none))) else (none)) else (none)) else (antecedentref20_sum.l1 k x4 x5 0)
def antecedentref20_sum.l1 : Nat → List Int → List Int → Int → Option (Int × Bool)
  | 0, _, _, _ => none
  | k + 1, x4, x5, x7 => if (x4.length : Int) > 0 then (antecedentref20_sum.j2 k x4 x5 x7 true) else (antecedentref20_sum.j2 k x4 x5 x7 (decide ((x5.length : Int) > 0)))
def antecedentref20_sum.j2 : Nat → List Int → List Int → Int → Bool → Option (Int × Bool)
  | 0, _, _, _, _ => none
  | k + 1, x4, x5, x7, x45 => if x45 = true then (if (x5.length : Int) > 0 then (if x7 < 0 then (antecedentref20_sum.j3 k x4 x5 x7 true) else (antecedentref20_sum.j3 k x4 x5 x7 ((x4.length : Int) == 0))) else (antecedentref20_sum.j3 k x4 x5 x7 false)) else (some (x7, true))
def antecedentref20_sum.j3 : Nat → List Int → List Int → Int → Bool → Option (Int × Bool)
  | 0, _, _, _, _ => none
  | k + 1, x4, x5, x7, x57 => if x57 = true then (if 0 < (x5.length : Int) then (if x7 > 0 then (if (rd x5 0) > (wrap64 (9223372036854775807 - x7)) then (some (0, false)) else (if 1 ≤ (x5.length : Int) then (antecedentref20_sum.l1 k x4 (x5.drop (1 : Int).toNat) (wrap64 (x7 + (rd x5 0)))) else (none))) else (if 1 ≤ (x5.length : Int) then (antecedentref20_sum.l1 k x4 (x5.drop (1 : Int).toNat) (wrap64 (x7 + (rd x5 0)))) else (none))) else (none)) else (if (x4.length : Int) = 0 then (some (0, false)) else (if 0 < (x4.length : Int) then (if x7 < 0 then (if (rd x4 0) < (wrap64 ((-9223372036854775808) - x7)) then (some (0, false)) else (if 1 ≤ (x4.length : Int) then (antecedentref20_sum.l1 k (x4.drop (1 : Int).toNat) x5 (wrap64 (x7 + (rd x4 0)))) else (none))) else (if 1 ≤ (x4.length : Int) then (antecedentref20_sum.l1 k (x4.drop (1 : Int).toNat) x5 (wrap64 (x7 + (rd x4 0)))) else (none))) else (none)))
end
def antecedentref20_sum.f (k : Nat) (l0 : List (S25)) : Option (Int × Bool) := antecedentref20_sum.l0 k l0 ([] : List Int) ([] : List Int) (l0.length : Int) 0
set_option maxHeartbeats 8000000 in
set_option maxRecDepth 100000 in
theorem antecedentref20_sum.calls (k : Nat) (A0 : Option Addr) (c0 : Nat) (l0 : List (S25)) (r1 : Int) (r2 : Bool) (w : World) (hr0 : Kd.C k25 w A0 l0.length l0) (hc0 : l0.length ≤ c0) (h : antecedentref20_sum.f k l0 = some (r1, r2)) :
    Calls Tryz.prog 21 #[.slice A0 l0.length c0] w fun e w' => e = .returned (.tuple #[.int .i64 r1, .bool r2]) ∧ Below w.heap.size w w' := by
  have HR0 := Aside0.mk hr0
  have HC0 := Aside0.mk hc0
  clear hr0 hc0
  have HB := Aside0.mk (Below.refl w.heap.size w)
  have H : (antecedentref20_sum.l0 k l0 ([] : List Int) ([] : List Int) (l0.length : Int) 0) = some (r1, r2) := h
  clear h
  have H' := Aside0.mk H
  clear H
  go_enter Tryz.func21, Tryz.ntmps21
  go_wp2
  go_loopg [4, 5, 12] k (fun kq v4 v5 v12 w' => ∃ (x4_1 : List Int) (x5_1 : List Int) (x12_1 : Int), v12 = .int .i64 x12_1 ∧ Aside0 (antecedentref20_sum.l0 kq l0 x4_1 x5_1 (l0.length : Int) x12_1 = some (r1, r2)) ∧ Aside0 (kq ≤ k) ∧ Aside0 (Kd.Q (Kd.int .i64) 2 w' w.heap.size (fun k_ => some k_ ≠ (v5 : Value).ownBlock) v4 x4_1) ∧ Aside0 (Kd.Q (Kd.int .i64) 2 w' w.heap.size (fun k_ => some k_ ≠ (v4 : Value).ownBlock) v5 x5_1) ∧ Aside0 (Below w.heap.size w w'))
  case atStart => exact ⟨(([] : List Int)), (([] : List Int)), (0), (by first | rfl | (simp; done) | (simp [*]; done)), H', ⟨Nat.le_refl _⟩, ⟨Kd.Q_of_R (by first | exact Kd.R_nil _ _ _ _ _ | exact Kd.N_nil _ _ _ _ _ | exact Kd.V_nil _ _ _ _ _ | exact Kd.Q_nil _ _ _ _ _ | exact Kd.S_nil _ _ _ _ _)⟩, ⟨Kd.Q_of_R (by first | exact Kd.R_nil _ _ _ _ _ | exact Kd.N_nil _ _ _ _ _ | exact Kd.V_nil _ _ _ _ _ | exact Kd.Q_nil _ _ _ _ _ | exact Kd.S_nil _ _ _ _ _)⟩, ⟨by repeat (first | (with_reducible first | exact HB.out | apply below_alloc | apply pw_below_drewN | apply below_drew1) | exact HB.out)⟩⟩
  case round =>
    clear H'
    obtain ⟨x4_1, x5_1, x12_1, rfl, HA, HK1, HO_4, HO_5, HB⟩ := hrel
    cases gk with
    | zero => exact absurd HA.out (by simp [antecedentref20_sum.l0])
    | succ k1 =>
      have H := HA.out
      clear HA
      simp only [antecedentref20_sum.l0] at H
      by_cases c2 : x12_1 < (l0.length : Int)
      · rw [if_pos c2] at H
        have c2b0 : decide (x12_1 < (l0.length : Int)) = true := decide_eq_true c2
        clear c2
        by_cases c3 : 0 ≤ x12_1
        · rw [if_pos c3] at H
          have c3b0 : decide (0 ≤ x12_1) = true := decide_eq_true c3
          clear c3
          by_cases c4 : x12_1 < (l0.length : Int)
          · rw [if_pos c4] at H
            have c4b0 : decide (x12_1 < (l0.length : Int)) = true := decide_eq_true c4
            clear c4
            by_cases c5 : ((rd_T25 l0 x12_1).f1) < 0
            · rw [if_pos c5] at H
              have c5b0 : decide (((rd_T25 l0 x12_1).f1) < 0) = true := decide_eq_true c5
              clear c5
              by_cases c6 : x4_1.length < 17592186044416
              · rw [if_pos c6] at H
                have LMc6 := Aside0.mk c6
                clear c6
                obtain ⟨y346, hy346⟩ : ∃ y_ : List Int, y_ = (x4_1 ++ [(rd_T25 l0 x12_1).f1]) := ⟨_, rfl⟩
                replace H : (antecedentref20_sum.l0 k1 l0 y346 x5_1 (l0.length : Int) (wrap64 (x12_1 + 1))) = some (r1, r2) := by first | (rw [hy346]; with_reducible exact H) | (have H2_ := (Option.bind_some _ _).symm.trans H; rw [hy346]; with_reducible exact H2_) | (have H2_ := (Option.bind_some _ _).symm.trans H; with_reducible exact H2_) | with_reducible exact H | (rw [hy346]; exact H) | exact H
                have Ny346 := Aside0.mk hy346
                clear hy346
                have H' := Aside0.mk H
                clear H
                have p344 : 0 ≤ (x12_1 : Int) := of_decide_eq_true (by first | (with_reducible assumption) | assumption)
                have q344 : x12_1 < (l0.length : Int) := of_decide_eq_true (by first | (with_reducible assumption) | assumption)
                obtain ⟨ad344, e344, hx344_0, hx344_1, hx344_2⟩ := at_T25 HR0.out x12_1 p344 q344
                cases e344
                replace hx344_0 := (HB.out.cell (World.block_lt_of_cell? w _ hx344_0)).trans hx344_0
                replace hx344_1 := (HB.out.cell (World.block_lt_of_cell? w _ hx344_1)).trans hx344_1
                replace hx344_2 := (HB.out.cell (World.block_lt_of_cell? w _ hx344_2)).trans hx344_2
                replace p344 := eq_true p344
                replace q344 := eq_true q344
                have p345 : 0 ≤ (x12_1 : Int) := of_decide_eq_true (by first | (with_reducible assumption) | assumption)
                have q345 : x12_1 < (l0.length : Int) := of_decide_eq_true (by first | (with_reducible assumption) | assumption)
                obtain ⟨ad345, e345, hx345_0, hx345_1, hx345_2⟩ := at_T25 HR0.out x12_1 p345 q345
                obtain rfl : ad344 = ad345 := (by injection e345)
                replace hx345_0 := (HB.out.cell (World.block_lt_of_cell? w _ hx345_0)).trans hx345_0
                replace hx345_1 := (HB.out.cell (World.block_lt_of_cell? w _ hx345_1)).trans hx345_1
                replace hx345_2 := (HB.out.cell (World.block_lt_of_cell? w _ hx345_2)).trans hx345_2
                replace p345 := eq_true p345
                replace q345 := eq_true q345
                go_wp2_with (first | ((with_reducible refine gate_builtin (b := .append) (xs := #[.tmp 21, .tmp 27]) rfl ?_); (try (refine gate_guard (by rfl) ?_; dsimp only)); at_builtin; refine Kd.Q_append (Kd.int .i64) (w0 := w) w.heap.size rfl (.tmp 21) (.tmp 27) 67 2 (.int .i64 0) 8 rfl Tryz.underlying67 info2 rfl (by decide) (by omega) u4 x4_1 ((rd_T25 l0 x12_1).f1) [.int .i64 ((rd_T25 l0 x12_1).f1)] (fun k_ => some k_ ≠ (u5 : Value).ownBlock) (fun _ => False) rfl rfl ?aP (fun _ hk => hk.elim) ?aF ?aO ?aB ?aS ?aL ?_; (case aP => exact rfl); (case aB => exact (by repeat (first | (with_reducible first | exact HB.out | apply below_alloc | apply pw_below_drewN | apply below_drew1) | exact HB.out))); (case aF => exact (fun k_ hk => Kd.fresh' (Kd.Q_lt (by (with_reducible repeat (first | apply Kd.Q_alloc | apply Kd.Q_drewN | apply Kd.Q_drew)); exact HO_5.out)) k_ hk)); (case aO => exact (by (with_reducible repeat (first | apply Kd.Q_alloc | apply Kd.Q_drewN | apply Kd.Q_drew)); exact HO_4.out)); (case aS => exact (below_size (by repeat (first | (with_reducible first | exact HB.out | apply below_alloc | apply pw_below_drewN | apply below_drew1) | exact HB.out)))); (case aL => have := LMc6.out; omega); intro v347 w7 ho hb hg hat; rw [← Ny346.out] at ho; have n0_ := Aside0.mk (Kd.Q_after (ok := (fun _ => True)) (by (with_reducible repeat (first | apply Kd.Q_alloc | apply Kd.Q_drewN | apply Kd.Q_drew)); exact Kd.Q_mono HO_5.out (fun _ hk => ⟨trivial, hk⟩)) hg hat); have n1_ := Aside0.mk (hb); have n2_ := Aside0.mk (ho); clear HO_5; clear HB; clear HO_4; have HO_5 := n0_; have HB := n1_; have HO348 := n2_; clear n0_ n1_ n2_; clear ho hb hg hat))
                go_roundg k1
                case measure => have := HK1.out; omega
                case rel => exact ⟨(y346), (x5_1), (wrap64 (x12_1 + 1)), (by first | rfl | (simp; done) | (simp [*]; done)), H', ⟨by have := HK1.out; omega⟩, ⟨by (with_reducible repeat (first | apply Kd.Q_alloc | apply Kd.Q_drewN | apply Kd.Q_drew)); exact HO348.out⟩, ⟨by (with_reducible repeat (first | apply Kd.Q_alloc | apply Kd.Q_drewN | apply Kd.Q_drew)); exact Kd.Q_mono HO_5.out (fun _ hk => hk.2)⟩, ⟨by repeat (first | (with_reducible first | exact HB.out | apply below_alloc | apply pw_below_drewN | apply below_drew1) | exact HB.out)⟩⟩
              · rw [if_neg c6] at H
                exact absurd H (by simp)
            · rw [if_neg c5] at H
              have c5b0 : decide (((rd_T25 l0 x12_1).f1) < 0) = false := decide_eq_false c5
              clear c5
              by_cases c8 : x5_1.length < 17592186044416
              · rw [if_pos c8] at H
                have LMc8 := Aside0.mk c8
                clear c8
                obtain ⟨y350, hy350⟩ : ∃ y_ : List Int, y_ = (x5_1 ++ [(rd_T25 l0 x12_1).f1]) := ⟨_, rfl⟩
                replace H : (antecedentref20_sum.l0 k1 l0 x4_1 y350 (l0.length : Int) (wrap64 (x12_1 + 1))) = some (r1, r2) := by first | (rw [hy350]; with_reducible exact H) | (have H2_ := (Option.bind_some _ _).symm.trans H; rw [hy350]; with_reducible exact H2_) | (have H2_ := (Option.bind_some _ _).symm.trans H; with_reducible exact H2_) | with_reducible exact H | (rw [hy350]; exact H) | exact H
                have Ny350 := Aside0.mk hy350
                clear hy350
                have H' := Aside0.mk H
                clear H
                have p344 : 0 ≤ (x12_1 : Int) := of_decide_eq_true (by first | (with_reducible assumption) | assumption)
                have q344 : x12_1 < (l0.length : Int) := of_decide_eq_true (by first | (with_reducible assumption) | assumption)
                obtain ⟨ad344, e344, hx344_0, hx344_1, hx344_2⟩ := at_T25 HR0.out x12_1 p344 q344
                cases e344
                replace hx344_0 := (HB.out.cell (World.block_lt_of_cell? w _ hx344_0)).trans hx344_0
                replace hx344_1 := (HB.out.cell (World.block_lt_of_cell? w _ hx344_1)).trans hx344_1
                replace hx344_2 := (HB.out.cell (World.block_lt_of_cell? w _ hx344_2)).trans hx344_2
                replace p344 := eq_true p344
                replace q344 := eq_true q344
                have p349 : 0 ≤ (x12_1 : Int) := of_decide_eq_true (by first | (with_reducible assumption) | assumption)
                have q349 : x12_1 < (l0.length : Int) := of_decide_eq_true (by first | (with_reducible assumption) | assumption)
                obtain ⟨ad349, e349, hx349_0, hx349_1, hx349_2⟩ := at_T25 HR0.out x12_1 p349 q349
                obtain rfl : ad344 = ad349 := (by injection e349)
                replace hx349_0 := (HB.out.cell (World.block_lt_of_cell? w _ hx349_0)).trans hx349_0
                replace hx349_1 := (HB.out.cell (World.block_lt_of_cell? w _ hx349_1)).trans hx349_1
                replace hx349_2 := (HB.out.cell (World.block_lt_of_cell? w _ hx349_2)).trans hx349_2
                replace p349 := eq_true p349
                replace q349 := eq_true q349
                go_wp2_with (first | ((with_reducible refine gate_builtin (b := .append) (xs := #[.tmp 29, .tmp 35]) rfl ?_); (try (refine gate_guard (by rfl) ?_; dsimp only)); at_builtin; refine Kd.Q_append (Kd.int .i64) (w0 := w) w.heap.size rfl (.tmp 29) (.tmp 35) 67 2 (.int .i64 0) 8 rfl Tryz.underlying67 info2 rfl (by decide) (by omega) u5 x5_1 ((rd_T25 l0 x12_1).f1) [.int .i64 ((rd_T25 l0 x12_1).f1)] (fun k_ => some k_ ≠ (u4 : Value).ownBlock) (fun _ => False) rfl rfl ?aP (fun _ hk => hk.elim) ?aF ?aO ?aB ?aS ?aL ?_; (case aP => exact rfl); (case aB => exact (by repeat (first | (with_reducible first | exact HB.out | apply below_alloc | apply pw_below_drewN | apply below_drew1) | exact HB.out))); (case aF => exact (fun k_ hk => Kd.fresh' (Kd.Q_lt (by (with_reducible repeat (first | apply Kd.Q_alloc | apply Kd.Q_drewN | apply Kd.Q_drew)); exact HO_4.out)) k_ hk)); (case aO => exact (by (with_reducible repeat (first | apply Kd.Q_alloc | apply Kd.Q_drewN | apply Kd.Q_drew)); exact HO_5.out)); (case aS => exact (below_size (by repeat (first | (with_reducible first | exact HB.out | apply below_alloc | apply pw_below_drewN | apply below_drew1) | exact HB.out)))); (case aL => have := LMc8.out; omega); intro v351 w9 ho hb hg hat; rw [← Ny350.out] at ho; have n0_ := Aside0.mk (Kd.Q_after (ok := (fun _ => True)) (by (with_reducible repeat (first | apply Kd.Q_alloc | apply Kd.Q_drewN | apply Kd.Q_drew)); exact Kd.Q_mono HO_4.out (fun _ hk => ⟨trivial, hk⟩)) hg hat); have n1_ := Aside0.mk (hb); have n2_ := Aside0.mk (ho); clear HO_4; clear HB; clear HO_5; have HO_4 := n0_; have HB := n1_; have HO352 := n2_; clear n0_ n1_ n2_; clear ho hb hg hat))
                go_roundg k1
                case measure => have := HK1.out; omega
                case rel => exact ⟨(x4_1), (y350), (wrap64 (x12_1 + 1)), (by first | rfl | (simp; done) | (simp [*]; done)), H', ⟨by have := HK1.out; omega⟩, ⟨by (with_reducible repeat (first | apply Kd.Q_alloc | apply Kd.Q_drewN | apply Kd.Q_drew)); exact Kd.Q_mono HO_4.out (fun _ hk => hk.2)⟩, ⟨by (with_reducible repeat (first | apply Kd.Q_alloc | apply Kd.Q_drewN | apply Kd.Q_drew)); exact HO352.out⟩, ⟨by repeat (first | (with_reducible first | exact HB.out | apply below_alloc | apply pw_below_drewN | apply below_drew1) | exact HB.out)⟩⟩
              · rw [if_neg c8] at H
                exact absurd H (by simp)
          · rw [if_neg c4] at H
            exact absurd H (by simp)
        · rw [if_neg c3] at H
          exact absurd H (by simp)
      · rw [if_neg c2] at H
        have c2b0 : decide (x12_1 < (l0.length : Int)) = false := decide_eq_false c2
        clear c2
        have H' := Aside0.mk H
        clear H
        go_wp2
        go_loopg [4, 5, 7] k1 (fun kq v4 v5 v7 w' => ∃ (x4_2 : List Int) (x5_2 : List Int) (x7_2 : Int), v7 = .int .i64 x7_2 ∧ Aside0 (antecedentref20_sum.l1 kq x4_2 x5_2 x7_2 = some (r1, r2)) ∧ Aside0 (kq ≤ k1) ∧ Aside0 (Kd.Q (Kd.int .i64) 2 w' w.heap.size (fun k_ => some k_ ≠ (v5 : Value).ownBlock) v4 x4_2) ∧ Aside0 (Kd.Q (Kd.int .i64) 2 w' w.heap.size (fun k_ => some k_ ≠ (v4 : Value).ownBlock) v5 x5_2) ∧ Aside0 (Below w.heap.size w w'))
        case atStart => exact ⟨(x4_1), (x5_1), (0), (by first | rfl | (simp; done) | (simp [*]; done)), H', ⟨Nat.le_refl _⟩, ⟨by (with_reducible repeat (first | apply Kd.Q_alloc | apply Kd.Q_drewN | apply Kd.Q_drew)); exact HO_4.out⟩, ⟨by (with_reducible repeat (first | apply Kd.Q_alloc | apply Kd.Q_drewN | apply Kd.Q_drew)); exact HO_5.out⟩, ⟨by repeat (first | (with_reducible first | exact HB.out | apply below_alloc | apply pw_below_drewN | apply below_drew1) | exact HB.out)⟩⟩
        case round =>
          clear H'
          try clear c2
          try clear c2b0
          try clear p2
          try clear c3
          try clear c3b0
          try clear p3
          try clear q3
          try clear hx3
          try clear c4
          try clear c4b0
          try clear c5
          try clear c5b0
          try clear c6
          try clear p6
          try clear c8
          try clear hx344_0
          try clear hx344_1
          try clear hx344_2
          try clear hx345_0
          try clear hx345_1
          try clear hx345_2
          try clear hx349_0
          try clear hx349_1
          try clear hx349_2
          try clear p344
          try clear p345
          try clear p349
          try clear q344
          try clear q345
          try clear q349
          obtain ⟨x4_2, x5_2, x7_2, rfl, HA, HK2, HO_4, HO_5, HB⟩ := hrel
          cases gk with
          | zero => exact absurd HA.out (by simp [antecedentref20_sum.l1])
          | succ k2 =>
            have H := HA.out
            clear HA
            simp only [antecedentref20_sum.l1] at H
            have HC10 := Aside0.mk H
            clear H
            go_upto_region 10 with (fail)
            go_cut [45] (fun v45 wc => ∃ (kq : Nat) (x45_9 : Bool), v45 = .bool x45_9 ∧ Aside0 (antecedentref20_sum.j2 kq x4_2 x5_2 x7_2 x45_9 = some (r1, r2)) ∧ Aside0 (kq ≤ k2) ∧ Aside0 (Kd.Q (Kd.int .i64) 2 wc w.heap.size (fun k_ => some k_ ≠ (u5 : Value).ownBlock) u4 x4_2) ∧ Aside0 (Kd.Q (Kd.int .i64) 2 wc w.heap.size (fun k_ => some k_ ≠ (u4 : Value).ownBlock) u5 x5_2) ∧ Aside0 (Below w.heap.size w wc))
            case first =>
              have H := HC10.out
              clear HC10
              by_cases c11 : (x4_2.length : Int) > 0
              · rw [if_pos c11] at H
                have c11b0 : decide (0 < (x4_2.length : Int)) = true := decide_eq_true c11
                have c11b1 : decide (0 < x4_2.length) = true := decide_eq_true (by omega)
                clear c11
                (first | rw [c11b0] | (simp only [i64_w, i32_w]; rw [c11b0]) | skip)
                have H' := Aside0.mk H
                clear H
                obtain ⟨Ao12, co12, eo12, _⟩ := Kd.Q_slice HO_4.out
                subst eo12
                go_wp2
                go_meet
                case rel => exact ⟨_, (true), (by first | rfl | (simp; done) | (simp [*]; done)), H', ⟨by have := HK1.out; have := HK2.out; first | omega | exact Nat.le_refl _⟩, ⟨by (with_reducible repeat (first | apply Kd.Q_alloc | apply Kd.Q_drewN | apply Kd.Q_drew)); exact HO_4.out⟩, ⟨by (with_reducible repeat (first | apply Kd.Q_alloc | apply Kd.Q_drewN | apply Kd.Q_drew)); exact HO_5.out⟩, ⟨by repeat (first | (with_reducible first | exact HB.out | apply below_alloc | apply pw_below_drewN | apply below_drew1) | exact HB.out)⟩⟩
              · rw [if_neg c11] at H
                have c11b0 : decide (0 < (x4_2.length : Int)) = false := decide_eq_false c11
                have c11b1 : decide (0 < x4_2.length) = false := decide_eq_false (by omega)
                clear c11
                (first | rw [c11b0] | (simp only [i64_w, i32_w]; rw [c11b0]) | skip)
                have H' := Aside0.mk H
                clear H
                obtain ⟨Ao13, co13, eo13, _⟩ := Kd.Q_slice HO_4.out
                subst eo13
                obtain ⟨Ao14, co14, eo14, _⟩ := Kd.Q_slice HO_5.out
                subst eo14
                go_wp2
                go_meet
                case rel => exact ⟨_, (decide ((x5_2.length : Int) > 0)), (by first | rfl | (simp; done) | (simp [*]; done)), H', ⟨by have := HK1.out; have := HK2.out; first | omega | exact Nat.le_refl _⟩, ⟨by (with_reducible repeat (first | apply Kd.Q_alloc | apply Kd.Q_drewN | apply Kd.Q_drew)); exact HO_4.out⟩, ⟨by (with_reducible repeat (first | apply Kd.Q_alloc | apply Kd.Q_drewN | apply Kd.Q_drew)); exact HO_5.out⟩, ⟨by repeat (first | (with_reducible first | exact HB.out | apply below_alloc | apply pw_below_drewN | apply below_drew1) | exact HB.out)⟩⟩
            case rest =>
              clear HC10
              try clear c1
              try clear c2
              try clear c2b0
              try clear p2
              try clear c3
              try clear c3b0
              try clear p3
              try clear q3
              try clear hx3
              try clear c4
              try clear c4b0
              try clear c5
              try clear c5b0
              try clear c6
              try clear p6
              try clear c8
              try clear c11
              try clear c11b0
              try clear c11b1
              try clear hx344_0
              try clear hx344_1
              try clear hx344_2
              try clear hx345_0
              try clear hx345_1
              try clear hx345_2
              try clear hx349_0
              try clear hx349_1
              try clear hx349_2
              try clear p2
              try clear p3
              try clear p344
              try clear p345
              try clear p349
              try clear p6
              try clear q3
              try clear q344
              try clear q345
              try clear q349
              obtain ⟨kq, x45_9, rfl, HA, HJ9, HO_4, HO_5, HB⟩ := hcut
              cases kq with
              | zero => exact absurd HA.out (by simp [antecedentref20_sum.j2])
              | succ kj9 =>
                have H := HA.out
                clear HA
                simp only [antecedentref20_sum.j2] at H
                by_cases c15 : x45_9 = true
                · subst c15
                  have H1 : (if (x5_2.length : Int) > 0 then (if x7_2 < 0 then (antecedentref20_sum.j3 kj9 x4_2 x5_2 x7_2 true) else (antecedentref20_sum.j3 kj9 x4_2 x5_2 x7_2 ((x4_2.length : Int) == 0))) else (antecedentref20_sum.j3 kj9 x4_2 x5_2 x7_2 false)) = some (r1, r2) := by rw [if_pos rfl] at H; exact H
                  clear H
                  have H := H1
                  clear H1
                  have HC16 := Aside0.mk H
                  clear H
                  go_upto_region 11 with (fail)
                  go_cut [57] (fun v57 wc => ∃ (kq : Nat) (x57_15 : Bool), v57 = .bool x57_15 ∧ Aside0 (antecedentref20_sum.j3 kq x4_2 x5_2 x7_2 x57_15 = some (r1, r2)) ∧ Aside0 (kq ≤ kj9) ∧ Aside0 (Kd.Q (Kd.int .i64) 2 wc w.heap.size (fun k_ => some k_ ≠ (u5 : Value).ownBlock) u4 x4_2) ∧ Aside0 (Kd.Q (Kd.int .i64) 2 wc w.heap.size (fun k_ => some k_ ≠ (u4 : Value).ownBlock) u5 x5_2) ∧ Aside0 (Below w.heap.size w wc))
                  case first =>
                    have H := HC16.out
                    clear HC16
                    by_cases c17 : (x5_2.length : Int) > 0
                    · rw [if_pos c17] at H
                      have c17b0 : decide (0 < (x5_2.length : Int)) = true := decide_eq_true c17
                      have c17b1 : decide (0 < x5_2.length) = true := decide_eq_true (by omega)
                      clear c17
                      (first | rw [c17b0] | (simp only [i64_w, i32_w]; rw [c17b0]) | skip)
                      by_cases c18 : x7_2 < 0
                      · rw [if_pos c18] at H
                        have c18b0 : decide (x7_2 < 0) = true := decide_eq_true c18
                        clear c18
                        have H' := Aside0.mk H
                        clear H
                        obtain ⟨Ao19, co19, eo19, _⟩ := Kd.Q_slice HO_5.out
                        subst eo19
                        go_wp2
                        go_meet
                        case rel => exact ⟨_, (true), (by first | rfl | (simp; done) | (simp [*]; done)), H', ⟨by have := HK1.out; have := HK2.out; have := HJ9.out; first | omega | exact Nat.le_refl _⟩, ⟨by (with_reducible repeat (first | apply Kd.Q_alloc | apply Kd.Q_drewN | apply Kd.Q_drew)); exact HO_4.out⟩, ⟨by (with_reducible repeat (first | apply Kd.Q_alloc | apply Kd.Q_drewN | apply Kd.Q_drew)); exact HO_5.out⟩, ⟨by repeat (first | (with_reducible first | exact HB.out | apply below_alloc | apply pw_below_drewN | apply below_drew1) | exact HB.out)⟩⟩
                      · rw [if_neg c18] at H
                        have c18b0 : decide (x7_2 < 0) = false := decide_eq_false c18
                        clear c18
                        have H' := Aside0.mk H
                        clear H
                        obtain ⟨Ao20, co20, eo20, _⟩ := Kd.Q_slice HO_5.out
                        subst eo20
                        obtain ⟨Ao21, co21, eo21, _⟩ := Kd.Q_slice HO_4.out
                        subst eo21
                        go_wp2
                        go_meet
                        case rel => exact ⟨_, (((x4_2.length : Int) == 0)), (by first | rfl | (simp; done) | (simp [*]; done)), H', ⟨by have := HK1.out; have := HK2.out; have := HJ9.out; first | omega | exact Nat.le_refl _⟩, ⟨by (with_reducible repeat (first | apply Kd.Q_alloc | apply Kd.Q_drewN | apply Kd.Q_drew)); exact HO_4.out⟩, ⟨by (with_reducible repeat (first | apply Kd.Q_alloc | apply Kd.Q_drewN | apply Kd.Q_drew)); exact HO_5.out⟩, ⟨by repeat (first | (with_reducible first | exact HB.out | apply below_alloc | apply pw_below_drewN | apply below_drew1) | exact HB.out)⟩⟩
                    · rw [if_neg c17] at H
                      have c17b0 : decide (0 < (x5_2.length : Int)) = false := decide_eq_false c17
                      have c17b1 : decide (0 < x5_2.length) = false := decide_eq_false (by omega)
                      clear c17
                      (first | rw [c17b0] | (simp only [i64_w, i32_w]; rw [c17b0]) | skip)
                      have H' := Aside0.mk H
                      clear H
                      obtain ⟨Ao22, co22, eo22, _⟩ := Kd.Q_slice HO_5.out
                      subst eo22
                      go_wp2
                      go_meet
                      case rel => exact ⟨_, (false), (by first | rfl | (simp; done) | (simp [*]; done)), H', ⟨by have := HK1.out; have := HK2.out; have := HJ9.out; first | omega | exact Nat.le_refl _⟩, ⟨by (with_reducible repeat (first | apply Kd.Q_alloc | apply Kd.Q_drewN | apply Kd.Q_drew)); exact HO_4.out⟩, ⟨by (with_reducible repeat (first | apply Kd.Q_alloc | apply Kd.Q_drewN | apply Kd.Q_drew)); exact HO_5.out⟩, ⟨by repeat (first | (with_reducible first | exact HB.out | apply below_alloc | apply pw_below_drewN | apply below_drew1) | exact HB.out)⟩⟩
                  case rest =>
                    clear HC16
                    try clear c1
                    try clear c2
                    try clear c2b0
                    try clear p2
                    try clear c3
                    try clear c3b0
                    try clear p3
                    try clear q3
                    try clear hx3
                    try clear c4
                    try clear c4b0
                    try clear c5
                    try clear c5b0
                    try clear c6
                    try clear p6
                    try clear c8
                    try clear c11
                    try clear c11b0
                    try clear c11b1
                    try clear c15
                    try clear c17
                    try clear c17b0
                    try clear c17b1
                    try clear c18
                    try clear c18b0
                    try clear c21
                    try clear hx344_0
                    try clear hx344_1
                    try clear hx344_2
                    try clear hx345_0
                    try clear hx345_1
                    try clear hx345_2
                    try clear hx349_0
                    try clear hx349_1
                    try clear hx349_2
                    try clear p2
                    try clear p3
                    try clear p344
                    try clear p345
                    try clear p349
                    try clear p6
                    try clear q3
                    try clear q344
                    try clear q345
                    try clear q349
                    obtain ⟨kq, x57_15, rfl, HA, HJ15, HO_4, HO_5, HB⟩ := hcut
                    cases kq with
                    | zero => exact absurd HA.out (by simp [antecedentref20_sum.j3])
                    | succ kj15 =>
                      have H := HA.out
                      clear HA
                      simp only [antecedentref20_sum.j3] at H
                      by_cases c23 : x57_15 = true
                      · subst c23
                        have H1 : (if 0 < (x5_2.length : Int) then (if x7_2 > 0 then (if (rd x5_2 0) > (wrap64 (9223372036854775807 - x7_2)) then (some (0, false)) else (if 1 ≤ (x5_2.length : Int) then (antecedentref20_sum.l1 kj15 x4_2 (x5_2.drop (1 : Int).toNat) (wrap64 (x7_2 + (rd x5_2 0)))) else (none))) else (if 1 ≤ (x5_2.length : Int) then (antecedentref20_sum.l1 kj15 x4_2 (x5_2.drop (1 : Int).toNat) (wrap64 (x7_2 + (rd x5_2 0)))) else (none))) else (none)) = some (r1, r2) := by rw [if_pos rfl] at H; exact H
                        clear H
                        have H := H1
                        clear H1
                        by_cases c24 : 0 < (x5_2.length : Int)
                        · rw [if_pos c24] at H
                          have c24b0 : decide (0 < (x5_2.length : Int)) = true := decide_eq_true c24
                          have c24b1 : decide (0 < x5_2.length) = true := decide_eq_true (by omega)
                          clear c24
                          by_cases c25 : x7_2 > 0
                          · rw [if_pos c25] at H
                            have c25b0 : decide (0 < x7_2) = true := decide_eq_true c25
                            clear c25
                            by_cases c26 : (rd x5_2 0) > (wrap64 (9223372036854775807 - x7_2))
                            · rw [if_pos c26] at H
                              have c26b0 : decide ((wrap64 (9223372036854775807 - x7_2)) < (rd x5_2 0)) = true := decide_eq_true c26
                              clear c26
                              simp only [Option.some.injEq, Prod.mk.injEq] at H
                              obtain ⟨rfl, rfl⟩ := H
                              obtain ⟨Ao27, co27, eo27, _⟩ := Kd.Q_slice HO_5.out
                              subst eo27
                              have p353 : 0 ≤ (0 : Int) := (by omega)
                              have q353 : 0 < (x5_2.length : Int) := of_decide_eq_true (by first | (with_reducible assumption) | assumption)
                              obtain ⟨ad353, e353, hx353_0⟩ := Kd.at_int (Kd.Q_reads' HO_5.out).2.2 0 p353 q353
                              cases e353
                              have qi353 : (0 < x5_2.length) = True := eq_true (by omega)
                              (try rw [show ((0 : Int)).toNat = 0 from rfl] at hx353_0)
                              (try rw [Addr.add_zero'] at hx353_0)
                              replace p353 := eq_true p353
                              replace q353 := eq_true q353
                              go_wp2
                              go_ret2
                              exact ⟨by first | rfl | (simp [errW_none, errW_some] <;> rfl) | (simp [*, errW_none, errW_some] <;> rfl), by repeat (first | (with_reducible first | exact HB.out | apply below_alloc | apply pw_below_drewN | apply below_drew1) | exact HB.out)⟩
                            · rw [if_neg c26] at H
                              have c26b0 : decide ((wrap64 (9223372036854775807 - x7_2)) < (rd x5_2 0)) = false := decide_eq_false c26
                              clear c26
                              by_cases c28 : 1 ≤ (x5_2.length : Int)
                              · rw [if_pos c28] at H
                                have c28b0 := eq_true c28
                                have c28b1 : decide (1 ≤ (x5_2.length : Int)) = true := decide_eq_true c28
                                clear c28
                                obtain ⟨y354, hy354⟩ : ∃ y_ : List Int, y_ = (x5_2.drop (1 : Int).toNat) := ⟨_, rfl⟩
                                replace H : (antecedentref20_sum.l1 kj15 x4_2 y354 (wrap64 (x7_2 + (rd x5_2 0)))) = some (r1, r2) := by first | (rw [hy354]; with_reducible exact H) | (have H2_ := (Option.bind_some _ _).symm.trans H; rw [hy354]; with_reducible exact H2_) | (have H2_ := (Option.bind_some _ _).symm.trans H; with_reducible exact H2_) | with_reducible exact H | (rw [hy354]; exact H) | exact H
                                have Ny354 := Aside0.mk hy354
                                clear hy354
                                have H' := Aside0.mk H
                                clear H
                                obtain ⟨Ao29, co29, eo29, _⟩ := Kd.Q_slice HO_5.out
                                subst eo29
                                have p353 : 0 ≤ (0 : Int) := (by omega)
                                have q353 : 0 < (x5_2.length : Int) := of_decide_eq_true (by first | (with_reducible assumption) | assumption)
                                obtain ⟨ad353, e353, hx353_0⟩ := Kd.at_int (Kd.Q_reads' HO_5.out).2.2 0 p353 q353
                                cases e353
                                have qi353 : (0 < x5_2.length) = True := eq_true (by omega)
                                (try rw [show ((0 : Int)).toNat = 0 from rfl] at hx353_0)
                                (try rw [Addr.add_zero'] at hx353_0)
                                replace p353 := eq_true p353
                                replace q353 := eq_true q353
                                have q30 : (1 : Int) ≤ ((x5_2.length : Int) : Int) := of_decide_eq_true (by first | (with_reducible assumption) | assumption)
                                obtain ⟨i030, hi030, _, hsz30, _⟩ := info_parts info2
                                have hcut30 := cut_from (P := Tryz.prog) 67 2 .i64 Tryz.underlying67 hi030 1 hsz30 (some ad353) x5_2.length co29 1 (by omega) q30
                                have hr30 := Kd.Q_drop (k := (1 : Int).toNat) HO_5.out (by omega)
                                obtain ⟨A30, hA30⟩ : ∃ A1, A1 = (if co29 = (1 : Int).toNat then (some ad353) else ((some ad353) : Option Addr).map (·.add ((1 : Int).toNat * 1))) := ⟨_, rfl⟩
                                obtain ⟨c30, hc30⟩ : ∃ c1, c1 = co29 - (1 : Int).toNat := ⟨_, rfl⟩
                                have hy30 : y354.length = x5_2.length - (1 : Int).toNat := (by rw [Ny354.out, List.length_drop])
                                rw [← Ny354.out] at hr30
                                rw [← hy30, ← hA30, ← hc30] at hcut30
                                replace hr30 : Kd.Q (Kd.int .i64) 2 wc w.heap.size (fun k_ => some k_ ≠ (u4 : Value).ownBlock) (.slice A30 y354.length c30) y354 := (by rw [hA30, hc30, hy30]; exact hr30)
                                have HE30 : Aside0 ((Value.slice A30 y354.length c30).ownBlock = (.slice (some ad353) x5_2.length co29 : Value).ownBlock) := ⟨by rw [hA30]; split <;> (cases ((some ad353) : Option Addr) <;> rfl)⟩
                                clear hy30 hi030 hsz30 HO_5 hA30 hc30
                                have HO356 := Aside0.mk hr30
                                clear hr30
                                replace q30 := eq_true q30
                                have n_ := Aside0.mk (Kd.Q_mono (ok' := fun k_ => some k_ ≠ (.slice A30 y354.length c30 : Value).ownBlock) HO_4.out (fun k_ hk => (by rw [HE30.out]; exact hk)))
                                clear HO_4
                                have HO_4 := n_
                                clear n_
                                go_wp2
                                go_roundg kj15
                                case measure => have := HK1.out; have := HK2.out; have := HJ9.out; have := HJ15.out; omega
                                case rel => exact ⟨(x4_2), (y354), (wrap64 (x7_2 + (rd x5_2 0))), (by first | rfl | (simp; done) | (simp [*]; done)), H', ⟨by have := HK1.out; have := HK2.out; have := HJ9.out; have := HJ15.out; omega⟩, ⟨by (with_reducible repeat (first | apply Kd.Q_alloc | apply Kd.Q_drewN | apply Kd.Q_drew)); exact HO_4.out⟩, ⟨by (with_reducible repeat (first | apply Kd.Q_alloc | apply Kd.Q_drewN | apply Kd.Q_drew)); exact HO356.out⟩, ⟨by repeat (first | (with_reducible first | exact HB.out | apply below_alloc | apply pw_below_drewN | apply below_drew1) | exact HB.out)⟩⟩
                              · rw [if_neg c28] at H
                                exact absurd H (by simp)
                          · rw [if_neg c25] at H
                            have c25b0 : decide (0 < x7_2) = false := decide_eq_false c25
                            clear c25
                            by_cases c31 : 1 ≤ (x5_2.length : Int)
                            · rw [if_pos c31] at H
                              have c31b0 := eq_true c31
                              have c31b1 : decide (1 ≤ (x5_2.length : Int)) = true := decide_eq_true c31
                              clear c31
                              obtain ⟨y357, hy357⟩ : ∃ y_ : List Int, y_ = (x5_2.drop (1 : Int).toNat) := ⟨_, rfl⟩
                              replace H : (antecedentref20_sum.l1 kj15 x4_2 y357 (wrap64 (x7_2 + (rd x5_2 0)))) = some (r1, r2) := by first | (rw [hy357]; with_reducible exact H) | (have H2_ := (Option.bind_some _ _).symm.trans H; rw [hy357]; with_reducible exact H2_) | (have H2_ := (Option.bind_some _ _).symm.trans H; with_reducible exact H2_) | with_reducible exact H | (rw [hy357]; exact H) | exact H
                              have Ny357 := Aside0.mk hy357
                              clear hy357
                              have H' := Aside0.mk H
                              clear H
                              obtain ⟨Ao32, co32, eo32, _⟩ := Kd.Q_slice HO_5.out
                              subst eo32
                              have p353 : 0 ≤ (0 : Int) := (by omega)
                              have q353 : 0 < (x5_2.length : Int) := of_decide_eq_true (by first | (with_reducible assumption) | assumption)
                              obtain ⟨ad353, e353, hx353_0⟩ := Kd.at_int (Kd.Q_reads' HO_5.out).2.2 0 p353 q353
                              cases e353
                              have qi353 : (0 < x5_2.length) = True := eq_true (by omega)
                              (try rw [show ((0 : Int)).toNat = 0 from rfl] at hx353_0)
                              (try rw [Addr.add_zero'] at hx353_0)
                              replace p353 := eq_true p353
                              replace q353 := eq_true q353
                              have q33 : (1 : Int) ≤ ((x5_2.length : Int) : Int) := of_decide_eq_true (by first | (with_reducible assumption) | assumption)
                              obtain ⟨i033, hi033, _, hsz33, _⟩ := info_parts info2
                              have hcut33 := cut_from (P := Tryz.prog) 67 2 .i64 Tryz.underlying67 hi033 1 hsz33 (some ad353) x5_2.length co32 1 (by omega) q33
                              have hr33 := Kd.Q_drop (k := (1 : Int).toNat) HO_5.out (by omega)
                              obtain ⟨A33, hA33⟩ : ∃ A1, A1 = (if co32 = (1 : Int).toNat then (some ad353) else ((some ad353) : Option Addr).map (·.add ((1 : Int).toNat * 1))) := ⟨_, rfl⟩
                              obtain ⟨c33, hc33⟩ : ∃ c1, c1 = co32 - (1 : Int).toNat := ⟨_, rfl⟩
                              have hy33 : y357.length = x5_2.length - (1 : Int).toNat := (by rw [Ny357.out, List.length_drop])
                              rw [← Ny357.out] at hr33
                              rw [← hy33, ← hA33, ← hc33] at hcut33
                              replace hr33 : Kd.Q (Kd.int .i64) 2 wc w.heap.size (fun k_ => some k_ ≠ (u4 : Value).ownBlock) (.slice A33 y357.length c33) y357 := (by rw [hA33, hc33, hy33]; exact hr33)
                              have HE33 : Aside0 ((Value.slice A33 y357.length c33).ownBlock = (.slice (some ad353) x5_2.length co32 : Value).ownBlock) := ⟨by rw [hA33]; split <;> (cases ((some ad353) : Option Addr) <;> rfl)⟩
                              clear hy33 hi033 hsz33 HO_5 hA33 hc33
                              have HO359 := Aside0.mk hr33
                              clear hr33
                              replace q33 := eq_true q33
                              have n_ := Aside0.mk (Kd.Q_mono (ok' := fun k_ => some k_ ≠ (.slice A33 y357.length c33 : Value).ownBlock) HO_4.out (fun k_ hk => (by rw [HE33.out]; exact hk)))
                              clear HO_4
                              have HO_4 := n_
                              clear n_
                              go_wp2
                              go_roundg kj15
                              case measure => have := HK1.out; have := HK2.out; have := HJ9.out; have := HJ15.out; omega
                              case rel => exact ⟨(x4_2), (y357), (wrap64 (x7_2 + (rd x5_2 0))), (by first | rfl | (simp; done) | (simp [*]; done)), H', ⟨by have := HK1.out; have := HK2.out; have := HJ9.out; have := HJ15.out; omega⟩, ⟨by (with_reducible repeat (first | apply Kd.Q_alloc | apply Kd.Q_drewN | apply Kd.Q_drew)); exact HO_4.out⟩, ⟨by (with_reducible repeat (first | apply Kd.Q_alloc | apply Kd.Q_drewN | apply Kd.Q_drew)); exact HO359.out⟩, ⟨by repeat (first | (with_reducible first | exact HB.out | apply below_alloc | apply pw_below_drewN | apply below_drew1) | exact HB.out)⟩⟩
                            · rw [if_neg c31] at H
                              exact absurd H (by simp)
                        · rw [if_neg c24] at H
                          exact absurd H (by simp)
                      · replace c23 := Bool.eq_false_iff.mpr c23
                        subst c23
                        have H1 : (if (x4_2.length : Int) = 0 then (some (0, false)) else (if 0 < (x4_2.length : Int) then (if x7_2 < 0 then (if (rd x4_2 0) < (wrap64 ((-9223372036854775808) - x7_2)) then (some (0, false)) else (if 1 ≤ (x4_2.length : Int) then (antecedentref20_sum.l1 kj15 (x4_2.drop (1 : Int).toNat) x5_2 (wrap64 (x7_2 + (rd x4_2 0)))) else (none))) else (if 1 ≤ (x4_2.length : Int) then (antecedentref20_sum.l1 kj15 (x4_2.drop (1 : Int).toNat) x5_2 (wrap64 (x7_2 + (rd x4_2 0)))) else (none))) else (none))) = some (r1, r2) := by rw [if_neg (show ¬ (false = true) by decide)] at H; exact H
                        clear H
                        have H := H1
                        clear H1
                        by_cases c34 : (x4_2.length : Int) = 0
                        · rw [if_pos c34] at H
                          have c34b0 : ((x4_2.length : Int) == 0) = true := beq_iff_eq.mpr c34
                          have c34b1 : ((x4_2.length : Int) != 0) = false := bne_eq_false_iff_eq.mpr c34
                          clear c34
                          simp only [Option.some.injEq, Prod.mk.injEq] at H
                          obtain ⟨rfl, rfl⟩ := H
                          obtain ⟨Ao35, co35, eo35, _⟩ := Kd.Q_slice HO_4.out
                          subst eo35
                          go_wp2
                          go_ret2
                          exact ⟨by first | rfl | (simp [errW_none, errW_some] <;> rfl) | (simp [*, errW_none, errW_some] <;> rfl), by repeat (first | (with_reducible first | exact HB.out | apply below_alloc | apply pw_below_drewN | apply below_drew1) | exact HB.out)⟩
                        · rw [if_neg c34] at H
                          have c34b0 : ((x4_2.length : Int) == 0) = false := beq_eq_false_iff_ne.mpr c34
                          have c34b1 : ((x4_2.length : Int) != 0) = true := bne_iff_ne.mpr c34
                          have c34b2 : ¬ (x4_2 = []) := fun h_ => c34 (by rw [h_]; rfl)
                          by_cases c36 : 0 < (x4_2.length : Int)
                          · rw [if_pos c36] at H
                            have c36b0 : decide (0 < (x4_2.length : Int)) = true := decide_eq_true c36
                            have c36b1 : decide (0 < x4_2.length) = true := decide_eq_true (by omega)
                            clear c36
                            by_cases c37 : x7_2 < 0
                            · rw [if_pos c37] at H
                              have c37b0 : decide (x7_2 < 0) = true := decide_eq_true c37
                              clear c37
                              by_cases c38 : (rd x4_2 0) < (wrap64 ((-9223372036854775808) - x7_2))
                              · rw [if_pos c38] at H
                                have c38b0 : decide ((rd x4_2 0) < (wrap64 ((-9223372036854775808) - x7_2))) = true := decide_eq_true c38
                                clear c38
                                simp only [Option.some.injEq, Prod.mk.injEq] at H
                                obtain ⟨rfl, rfl⟩ := H
                                obtain ⟨Ao39, co39, eo39, _⟩ := Kd.Q_slice HO_4.out
                                subst eo39
                                have p360 : 0 ≤ (0 : Int) := (by omega)
                                have q360 : 0 < (x4_2.length : Int) := of_decide_eq_true (by first | (with_reducible assumption) | assumption)
                                obtain ⟨ad360, e360, hx360_0⟩ := Kd.at_int (Kd.Q_reads' HO_4.out).2.2 0 p360 q360
                                cases e360
                                have qi360 : (0 < x4_2.length) = True := eq_true (by omega)
                                (try rw [show ((0 : Int)).toNat = 0 from rfl] at hx360_0)
                                (try rw [Addr.add_zero'] at hx360_0)
                                replace p360 := eq_true p360
                                replace q360 := eq_true q360
                                go_wp2
                                go_ret2
                                exact ⟨by first | rfl | (simp [errW_none, errW_some] <;> rfl) | (simp [*, errW_none, errW_some] <;> rfl), by repeat (first | (with_reducible first | exact HB.out | apply below_alloc | apply pw_below_drewN | apply below_drew1) | exact HB.out)⟩
                              · rw [if_neg c38] at H
                                have c38b0 : decide ((rd x4_2 0) < (wrap64 ((-9223372036854775808) - x7_2))) = false := decide_eq_false c38
                                clear c38
                                by_cases c40 : 1 ≤ (x4_2.length : Int)
                                · rw [if_pos c40] at H
                                  have c40b0 := eq_true c40
                                  have c40b1 : decide (1 ≤ (x4_2.length : Int)) = true := decide_eq_true c40
                                  clear c40
                                  obtain ⟨y361, hy361⟩ : ∃ y_ : List Int, y_ = (x4_2.drop (1 : Int).toNat) := ⟨_, rfl⟩
                                  replace H : (antecedentref20_sum.l1 kj15 y361 x5_2 (wrap64 (x7_2 + (rd x4_2 0)))) = some (r1, r2) := by first | (rw [hy361]; with_reducible exact H) | (have H2_ := (Option.bind_some _ _).symm.trans H; rw [hy361]; with_reducible exact H2_) | (have H2_ := (Option.bind_some _ _).symm.trans H; with_reducible exact H2_) | with_reducible exact H | (rw [hy361]; exact H) | exact H
                                  have Ny361 := Aside0.mk hy361
                                  clear hy361
                                  have H' := Aside0.mk H
                                  clear H
                                  obtain ⟨Ao41, co41, eo41, _⟩ := Kd.Q_slice HO_4.out
                                  subst eo41
                                  have p360 : 0 ≤ (0 : Int) := (by omega)
                                  have q360 : 0 < (x4_2.length : Int) := of_decide_eq_true (by first | (with_reducible assumption) | assumption)
                                  obtain ⟨ad360, e360, hx360_0⟩ := Kd.at_int (Kd.Q_reads' HO_4.out).2.2 0 p360 q360
                                  cases e360
                                  have qi360 : (0 < x4_2.length) = True := eq_true (by omega)
                                  (try rw [show ((0 : Int)).toNat = 0 from rfl] at hx360_0)
                                  (try rw [Addr.add_zero'] at hx360_0)
                                  replace p360 := eq_true p360
                                  replace q360 := eq_true q360
                                  have q42 : (1 : Int) ≤ ((x4_2.length : Int) : Int) := of_decide_eq_true (by first | (with_reducible assumption) | assumption)
                                  obtain ⟨i042, hi042, _, hsz42, _⟩ := info_parts info2
                                  have hcut42 := cut_from (P := Tryz.prog) 67 2 .i64 Tryz.underlying67 hi042 1 hsz42 (some ad360) x4_2.length co41 1 (by omega) q42
                                  have hr42 := Kd.Q_drop (k := (1 : Int).toNat) HO_4.out (by omega)
                                  obtain ⟨A42, hA42⟩ : ∃ A1, A1 = (if co41 = (1 : Int).toNat then (some ad360) else ((some ad360) : Option Addr).map (·.add ((1 : Int).toNat * 1))) := ⟨_, rfl⟩
                                  obtain ⟨c42, hc42⟩ : ∃ c1, c1 = co41 - (1 : Int).toNat := ⟨_, rfl⟩
                                  have hy42 : y361.length = x4_2.length - (1 : Int).toNat := (by rw [Ny361.out, List.length_drop])
                                  rw [← Ny361.out] at hr42
                                  rw [← hy42, ← hA42, ← hc42] at hcut42
                                  replace hr42 : Kd.Q (Kd.int .i64) 2 wc w.heap.size (fun k_ => some k_ ≠ (u5 : Value).ownBlock) (.slice A42 y361.length c42) y361 := (by rw [hA42, hc42, hy42]; exact hr42)
                                  have HE42 : Aside0 ((Value.slice A42 y361.length c42).ownBlock = (.slice (some ad360) x4_2.length co41 : Value).ownBlock) := ⟨by rw [hA42]; split <;> (cases ((some ad360) : Option Addr) <;> rfl)⟩
                                  clear hy42 hi042 hsz42 HO_4 hA42 hc42
                                  have HO363 := Aside0.mk hr42
                                  clear hr42
                                  replace q42 := eq_true q42
                                  have n_ := Aside0.mk (Kd.Q_mono (ok' := fun k_ => some k_ ≠ (.slice A42 y361.length c42 : Value).ownBlock) HO_5.out (fun k_ hk => (by rw [HE42.out]; exact hk)))
                                  clear HO_5
                                  have HO_5 := n_
                                  clear n_
                                  go_wp2
                                  go_roundg kj15
                                  case measure => have := HK1.out; have := HK2.out; have := HJ9.out; have := HJ15.out; omega
                                  case rel => exact ⟨(y361), (x5_2), (wrap64 (x7_2 + (rd x4_2 0))), (by first | rfl | (simp; done) | (simp [*]; done)), H', ⟨by have := HK1.out; have := HK2.out; have := HJ9.out; have := HJ15.out; omega⟩, ⟨by (with_reducible repeat (first | apply Kd.Q_alloc | apply Kd.Q_drewN | apply Kd.Q_drew)); exact HO363.out⟩, ⟨by (with_reducible repeat (first | apply Kd.Q_alloc | apply Kd.Q_drewN | apply Kd.Q_drew)); exact HO_5.out⟩, ⟨by repeat (first | (with_reducible first | exact HB.out | apply below_alloc | apply pw_below_drewN | apply below_drew1) | exact HB.out)⟩⟩
                                · rw [if_neg c40] at H
                                  exact absurd H (by simp)
                            · rw [if_neg c37] at H
                              have c37b0 : decide (x7_2 < 0) = false := decide_eq_false c37
                              clear c37
                              by_cases c43 : 1 ≤ (x4_2.length : Int)
                              · rw [if_pos c43] at H
                                have c43b0 := eq_true c43
                                have c43b1 : decide (1 ≤ (x4_2.length : Int)) = true := decide_eq_true c43
                                clear c43
                                obtain ⟨y364, hy364⟩ : ∃ y_ : List Int, y_ = (x4_2.drop (1 : Int).toNat) := ⟨_, rfl⟩
                                replace H : (antecedentref20_sum.l1 kj15 y364 x5_2 (wrap64 (x7_2 + (rd x4_2 0)))) = some (r1, r2) := by first | (rw [hy364]; with_reducible exact H) | (have H2_ := (Option.bind_some _ _).symm.trans H; rw [hy364]; with_reducible exact H2_) | (have H2_ := (Option.bind_some _ _).symm.trans H; with_reducible exact H2_) | with_reducible exact H | (rw [hy364]; exact H) | exact H
                                have Ny364 := Aside0.mk hy364
                                clear hy364
                                have H' := Aside0.mk H
                                clear H
                                obtain ⟨Ao44, co44, eo44, _⟩ := Kd.Q_slice HO_4.out
                                subst eo44
                                have p360 : 0 ≤ (0 : Int) := (by omega)
                                have q360 : 0 < (x4_2.length : Int) := of_decide_eq_true (by first | (with_reducible assumption) | assumption)
                                obtain ⟨ad360, e360, hx360_0⟩ := Kd.at_int (Kd.Q_reads' HO_4.out).2.2 0 p360 q360
                                cases e360
                                have qi360 : (0 < x4_2.length) = True := eq_true (by omega)
                                (try rw [show ((0 : Int)).toNat = 0 from rfl] at hx360_0)
                                (try rw [Addr.add_zero'] at hx360_0)
                                replace p360 := eq_true p360
                                replace q360 := eq_true q360
                                have q45 : (1 : Int) ≤ ((x4_2.length : Int) : Int) := of_decide_eq_true (by first | (with_reducible assumption) | assumption)
                                obtain ⟨i045, hi045, _, hsz45, _⟩ := info_parts info2
                                have hcut45 := cut_from (P := Tryz.prog) 67 2 .i64 Tryz.underlying67 hi045 1 hsz45 (some ad360) x4_2.length co44 1 (by omega) q45
                                have hr45 := Kd.Q_drop (k := (1 : Int).toNat) HO_4.out (by omega)
                                obtain ⟨A45, hA45⟩ : ∃ A1, A1 = (if co44 = (1 : Int).toNat then (some ad360) else ((some ad360) : Option Addr).map (·.add ((1 : Int).toNat * 1))) := ⟨_, rfl⟩
                                obtain ⟨c45, hc45⟩ : ∃ c1, c1 = co44 - (1 : Int).toNat := ⟨_, rfl⟩
                                have hy45 : y364.length = x4_2.length - (1 : Int).toNat := (by rw [Ny364.out, List.length_drop])
                                rw [← Ny364.out] at hr45
                                rw [← hy45, ← hA45, ← hc45] at hcut45
                                replace hr45 : Kd.Q (Kd.int .i64) 2 wc w.heap.size (fun k_ => some k_ ≠ (u5 : Value).ownBlock) (.slice A45 y364.length c45) y364 := (by rw [hA45, hc45, hy45]; exact hr45)
                                have HE45 : Aside0 ((Value.slice A45 y364.length c45).ownBlock = (.slice (some ad360) x4_2.length co44 : Value).ownBlock) := ⟨by rw [hA45]; split <;> (cases ((some ad360) : Option Addr) <;> rfl)⟩
                                clear hy45 hi045 hsz45 HO_4 hA45 hc45
                                have HO366 := Aside0.mk hr45
                                clear hr45
                                replace q45 := eq_true q45
                                have n_ := Aside0.mk (Kd.Q_mono (ok' := fun k_ => some k_ ≠ (.slice A45 y364.length c45 : Value).ownBlock) HO_5.out (fun k_ hk => (by rw [HE45.out]; exact hk)))
                                clear HO_5
                                have HO_5 := n_
                                clear n_
                                go_wp2
                                go_roundg kj15
                                case measure => have := HK1.out; have := HK2.out; have := HJ9.out; have := HJ15.out; omega
                                case rel => exact ⟨(y364), (x5_2), (wrap64 (x7_2 + (rd x4_2 0))), (by first | rfl | (simp; done) | (simp [*]; done)), H', ⟨by have := HK1.out; have := HK2.out; have := HJ9.out; have := HJ15.out; omega⟩, ⟨by (with_reducible repeat (first | apply Kd.Q_alloc | apply Kd.Q_drewN | apply Kd.Q_drew)); exact HO366.out⟩, ⟨by (with_reducible repeat (first | apply Kd.Q_alloc | apply Kd.Q_drewN | apply Kd.Q_drew)); exact HO_5.out⟩, ⟨by repeat (first | (with_reducible first | exact HB.out | apply below_alloc | apply pw_below_drewN | apply below_drew1) | exact HB.out)⟩⟩
                              · rw [if_neg c43] at H
                                exact absurd H (by simp)
                          · rw [if_neg c36] at H
                            exact absurd H (by simp)
                · replace c15 := Bool.eq_false_iff.mpr c15
                  subst c15
                  have H1 : (some (x7_2, true)) = some (r1, r2) := by rw [if_neg (show ¬ (false = true) by decide)] at H; exact H
                  clear H
                  have H := H1
                  clear H1
                  simp only [Option.some.injEq, Prod.mk.injEq] at H
                  obtain ⟨rfl, rfl⟩ := H
                  go_wp2
                  go_ret2
                  exact ⟨by first | rfl | (simp [errW_none, errW_some] <;> rfl) | (simp [*, errW_none, errW_some] <;> rfl), by repeat (first | (with_reducible first | exact HB.out | apply below_alloc | apply pw_below_drewN | apply below_drew1) | exact HB.out)⟩

end Go.Proofs.YtolefpeiceiocaaGreat.Ps
