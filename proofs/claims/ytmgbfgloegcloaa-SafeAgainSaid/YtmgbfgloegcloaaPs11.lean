-- printed by a program of this session out of the translation
import Derived.Test.YtmgbfgloegcloaaPsD
namespace Go.Proofs.Ytmgbfgloegcloaa.Ps
open Go.RowKit Go.Proofs.YtmgbfgloegcloaaW.PrintWords Go.Proofs.YtmgbfgloegcloaaW.PrintLast Go.Proofs.YtmgbfgloegcloaaW.PrintMore
attribute [local go_sem] max2_int min2_int max_two min_two max_three min_three max_four min_four   -- for this text's walks alone
set_option linter.unusedVariables false
set_option linter.unusedSimpArgs false

set_option maxHeartbeats 8000000 in
set_option maxRecDepth 100000 in
theorem antecedentref09_Few.calls (k : Nat) (A0_0 : Option Addr) (c0_0 : Nat) (l0_0 : List (S51)) (a0_1 : ByteArray) (A0_2 : Option Addr) (c0_2 : Nat) (l0_2 : List (S40)) (a1 : Int) (a2 : Int) (r : Bool) (w : World) (hr0_0 : Kd.C k51 w A0_0 l0_0.length l0_0) (hc0_0 : l0_0.length ≤ c0_0) (hr0_2 : Kd.C k40 w A0_2 l0_2.length l0_2) (hc0_2 : l0_2.length ≤ c0_2) (h : antecedentref09_Few.f k l0_0 a0_1 l0_2 a1 a2 = some r) :
    Calls Try.prog 22 #[.agg #[.slice A0_0 l0_0.length c0_0, .string a0_1, .slice A0_2 l0_2.length c0_2], .int .i64 a1, .int .i64 a2] w fun e w' => e = .returned (.bool r) ∧ Below w.heap.size w w' := by
  have hu59 := Try.underlying59
  have hu51 := Try.underlying51
  have HR0_0 := Aside0.mk hr0_0
  have HC0_0 := Aside0.mk hc0_0
  clear hr0_0 hc0_0
  have HR0_2 := Aside0.mk hr0_2
  have HC0_2 := Aside0.mk hc0_2
  clear hr0_2 hc0_2
  have HB := Aside0.mk (Below.refl w.heap.size w)
  have H : (if (l0_0.length : Int) > a1 then (antecedentref09_Few.j0 k a2 true l0_0 a0_1 l0_2) else (antecedentref09_Few.j0 k a2 (decide ((l0_2.length : Int) > 10)) l0_0 a0_1 l0_2)) = some r := h
  clear h
  have HC4 := Aside0.mk H
  clear H
  go_enter Try.func22, Try.ntmps22
  go_upto_region 1 with (first | ((with_reducible refine gate_dst (N := 3) rfl ?_); (try (refine gate_guard (by rfl) ?_; dsimp only)); refine box_event ?hg (N := 3) ?hd (cs := #[.slice A0_0 l0_0.length c0_0, .string a0_1, .slice A0_2 l0_2.length c0_2]) (t := 59) ?hr ?_; (case hd => rfl); (case hg => rfl); (case hr => first | (go_simp; done) | (go_simp; rfl)); intro gb216 hg w5 hbox hb; have n0_ := Aside0.mk (below_step (by repeat (first | (with_reducible first | exact HB.out | apply below_alloc | apply pw_below_drewN | apply below_drew1) | exact HB.out)) hb); have n1_ := Aside0.mk (hbox); have n2_ := Aside0.mk ((by rw [hg]; exact (below_size (by repeat (first | (with_reducible first | exact HB.out | apply below_alloc | apply pw_below_drewN | apply below_drew1) | exact HB.out))) : w.heap.size ≤ gb216)); have n3_ := Aside0.mk ((by rw [hg]; exact (below_size (by repeat (first | (with_reducible first | exact HB.out | apply below_alloc | apply pw_below_drewN | apply below_drew1) | exact HB.out))) : w.heap.size ≤ gb216)); clear HB; have HB := n0_; have BK216 := n1_; have GW216 := n2_; have GE216 := n3_; clear n0_ n1_ n2_ n3_; clear hb hbox hg))
  (try simp only [Act.put, List.setIfInBounds_toArray, List.set_cons_zero, List.set_cons_succ])
  go_cut [22] (fun v22 wc => ∃ (kq : Nat) (x22_3 : Bool), v22 = .bool x22_3 ∧ Aside0 (antecedentref09_Few.j0 kq a2 x22_3 l0_0 a0_1 l0_2 = some r) ∧ Aside0 (kq ≤ k) ∧ Aside0 (wc.heap[gb216]? = some (.cells #[(.slice A0_0 l0_0.length c0_0), .string a0_1, (.slice A0_2 l0_2.length c0_2)] 59 (0, 0))) ∧ Aside0 (Below w.heap.size w wc))
  case first =>
    have H := HC4.out
    clear HC4
    by_cases c6 : (l0_0.length : Int) > a1
    · rw [if_pos c6] at H
      have c6b0 : decide (a1 < (l0_0.length : Int)) = true := decide_eq_true c6
      clear c6
      (first | rw [c6b0] | (simp only [i64_w, i32_w]; rw [c6b0]) | skip)
      have H' := Aside0.mk H
      clear H
      have hcz7_0 : w5.cell? ⟨gb216, 0, none⟩ = some (.slice A0_0 l0_0.length c0_0) := (blk_cell BK216.out 0).trans rfl
      have hcz7_1 : w5.cell? ⟨gb216, 1, none⟩ = some (.string a0_1) := (blk_cell BK216.out 1).trans rfl
      have hcz7_2 : w5.cell? ⟨gb216, 2, none⟩ = some (.slice A0_2 l0_2.length c0_2) := (blk_cell BK216.out 2).trans rfl
      have hfz7_0 := blk_frozen BK216.out 0
      have hfz7_1 := blk_frozen BK216.out 1
      have hfz7_2 := blk_frozen BK216.out 2
      go_wp2
      go_meet
      case rel => exact ⟨_, (true), (by first | rfl | (simp; done) | (simp [*]; done)), H', ⟨by first | omega | exact Nat.le_refl _⟩, ⟨by (with_reducible repeat (first | refine blk_drewN ?_ _ | refine blk_drew ?_ | refine blk_alloc ?_ _)); exact BK216.out⟩, ⟨by repeat (first | (with_reducible first | exact HB.out | apply below_alloc | apply pw_below_drewN | apply below_drew1 | refine below_set ?_ GE216.out) | exact HB.out)⟩⟩
    · rw [if_neg c6] at H
      have c6b0 : decide (a1 < (l0_0.length : Int)) = false := decide_eq_false c6
      clear c6
      (first | rw [c6b0] | (simp only [i64_w, i32_w]; rw [c6b0]) | skip)
      have H' := Aside0.mk H
      clear H
      have hcz8_0 : w5.cell? ⟨gb216, 0, none⟩ = some (.slice A0_0 l0_0.length c0_0) := (blk_cell BK216.out 0).trans rfl
      have hcz8_1 : w5.cell? ⟨gb216, 1, none⟩ = some (.string a0_1) := (blk_cell BK216.out 1).trans rfl
      have hcz8_2 : w5.cell? ⟨gb216, 2, none⟩ = some (.slice A0_2 l0_2.length c0_2) := (blk_cell BK216.out 2).trans rfl
      have hfz8_0 := blk_frozen BK216.out 0
      have hfz8_1 := blk_frozen BK216.out 1
      have hfz8_2 := blk_frozen BK216.out 2
      go_wp2
      go_meet
      case rel => exact ⟨_, (decide ((l0_2.length : Int) > 10)), (by first | rfl | (simp; done) | (simp [*]; done)), H', ⟨by first | omega | exact Nat.le_refl _⟩, ⟨by (with_reducible repeat (first | refine blk_drewN ?_ _ | refine blk_drew ?_ | refine blk_alloc ?_ _)); exact BK216.out⟩, ⟨by repeat (first | (with_reducible first | exact HB.out | apply below_alloc | apply pw_below_drewN | apply below_drew1 | refine below_set ?_ GE216.out) | exact HB.out)⟩⟩
  case rest =>
    clear HC4
    try clear c2
    try clear p2
    try clear c6
    try clear c6b0
    try clear hcz7_0
    try clear hcz7_1
    try clear hcz7_2
    try clear hcz8_0
    try clear hcz8_1
    try clear hcz8_2
    try clear hfz7_0
    try clear hfz7_1
    try clear hfz7_2
    try clear hfz8_0
    try clear hfz8_1
    try clear hfz8_2
    obtain ⟨kq, x22_3, rfl, HA, HJ3, BK216, HB⟩ := hcut
    cases kq with
    | zero => exact absurd HA.out (by simp [antecedentref09_Few.j0])
    | succ kj3 =>
      have H := HA.out
      clear HA
      simp only [antecedentref09_Few.j0] at H
      by_cases c9 : x22_3 = true
      · subst c9
        have H1 : (some false) = some r := by rw [if_pos rfl] at H; exact H
        clear H
        have H := H1
        clear H1
        obtain rfl := Option.some.inj H
        go_wp2
        go_ret
        exact ⟨by first | rfl | (simp [errW_none, errW_some] <;> rfl) | (simp [*, errW_none, errW_some] <;> rfl), by repeat (first | (with_reducible first | exact HB.out | apply below_alloc | apply pw_below_drewN | apply below_drew1 | refine below_set ?_ GE216.out) | exact HB.out)⟩
      · replace c9 := Bool.eq_false_iff.mpr c9
        subst c9
        have H1 : (antecedentref09_Few.l0 kj3 a2 0 (l0_0.length : Int) 0 l0_0 a0_1 l0_2) = some r := by rw [if_neg (show ¬ (false = true) by decide)] at H; exact H
        clear H
        have H := H1
        clear H1
        have H' := Aside0.mk H
        clear H
        have hcz10_0 : wc.cell? ⟨gb216, 0, none⟩ = some (.slice A0_0 l0_0.length c0_0) := (blk_cell BK216.out 0).trans rfl
        have hcz10_1 : wc.cell? ⟨gb216, 1, none⟩ = some (.string a0_1) := (blk_cell BK216.out 1).trans rfl
        have hcz10_2 : wc.cell? ⟨gb216, 2, none⟩ = some (.slice A0_2 l0_2.length c0_2) := (blk_cell BK216.out 2).trans rfl
        have hfz10_0 := blk_frozen BK216.out 0
        have hfz10_1 := blk_frozen BK216.out 1
        have hfz10_2 := blk_frozen BK216.out 2
        go_wp2
        go_loopg [7, 26] kj3 (fun kq v7 v26 w' => ∃ (x7_2 : Int) (x26_2 : Int), v7 = .int .i64 x7_2 ∧ v26 = .int .i64 x26_2 ∧ Aside0 (antecedentref09_Few.l0 kq a2 x7_2 (l0_0.length : Int) x26_2 l0_0 a0_1 l0_2 = some r) ∧ Aside0 (kq ≤ kj3) ∧ Aside0 (w'.heap[gb216]? = some (.cells #[(.slice A0_0 l0_0.length c0_0), .string a0_1, (.slice A0_2 l0_2.length c0_2)] 59 (0, 0))) ∧ Aside0 (Below w.heap.size w w'))
        case atStart => exact ⟨(0), (0), (by first | rfl | (simp; done) | (simp [*]; done)), (by first | rfl | (simp; done) | (simp [*]; done)), H', ⟨Nat.le_refl _⟩, ⟨by (with_reducible repeat (first | refine blk_drewN ?_ _ | refine blk_drew ?_ | refine blk_alloc ?_ _)); exact BK216.out⟩, ⟨by repeat (first | (with_reducible first | exact HB.out | apply below_alloc | apply pw_below_drewN | apply below_drew1 | refine below_set ?_ GE216.out) | exact HB.out)⟩⟩
        case round =>
          clear H'
          try clear c2
          try clear p2
          try clear c6
          try clear c6b0
          try clear c9
          try clear hcz10_0
          try clear hcz10_1
          try clear hcz10_2
          try clear hcz7_0
          try clear hcz7_1
          try clear hcz7_2
          try clear hcz8_0
          try clear hcz8_1
          try clear hcz8_2
          try clear hfz10_0
          try clear hfz10_1
          try clear hfz10_2
          try clear hfz7_0
          try clear hfz7_1
          try clear hfz7_2
          try clear hfz8_0
          try clear hfz8_1
          try clear hfz8_2
          try clear p2
          obtain ⟨x7_2, x26_2, rfl, rfl, HA, HK2, BK216, HB⟩ := hrel
          cases gk with
          | zero => exact absurd HA.out (by simp [antecedentref09_Few.l0])
          | succ k2 =>
            have H := HA.out
            clear HA
            simp only [antecedentref09_Few.l0] at H
            by_cases c11 : x26_2 < (l0_0.length : Int)
            · rw [if_pos c11] at H
              have c11b0 : decide (x26_2 < (l0_0.length : Int)) = true := decide_eq_true c11
              clear c11
              by_cases c12 : 0 ≤ x26_2
              · rw [if_pos c12] at H
                have c12b0 : decide (0 ≤ x26_2) = true := decide_eq_true c12
                clear c12
                by_cases c13 : x26_2 < (l0_0.length : Int)
                · rw [if_pos c13] at H
                  have c13b0 : decide (x26_2 < (l0_0.length : Int)) = true := decide_eq_true c13
                  clear c13
                  have HC14 := Aside0.mk H
                  clear H
                  have hcz15_0 : wr.cell? ⟨gb216, 0, none⟩ = some (.slice A0_0 l0_0.length c0_0) := (blk_cell BK216.out 0).trans rfl
                  have hcz15_1 : wr.cell? ⟨gb216, 1, none⟩ = some (.string a0_1) := (blk_cell BK216.out 1).trans rfl
                  have hcz15_2 : wr.cell? ⟨gb216, 2, none⟩ = some (.slice A0_2 l0_2.length c0_2) := (blk_cell BK216.out 2).trans rfl
                  have hfz15_0 := blk_frozen BK216.out 0
                  have hfz15_1 := blk_frozen BK216.out 1
                  have hfz15_2 := blk_frozen BK216.out 2
                  have p217 : 0 ≤ (x26_2 : Int) := of_decide_eq_true (by first | (with_reducible assumption) | assumption)
                  have q217 : x26_2 < (l0_0.length : Int) := of_decide_eq_true (by first | (with_reducible assumption) | assumption)
                  obtain ⟨ad217, A217_1, c217_1, A217_3, c217_3, e217, hx217_0, hx217_1, hx217_2, hx217_3, hl217_1, hi217_1, hl217_3, hi217_3⟩ := at_T51 HR0_0.out x26_2 p217 q217
                  cases e217
                  replace hx217_0 := (HB.out.cell (World.block_lt_of_cell? w _ hx217_0)).trans hx217_0
                  replace hx217_1 := (HB.out.cell (World.block_lt_of_cell? w _ hx217_1)).trans hx217_1
                  replace hx217_2 := (HB.out.cell (World.block_lt_of_cell? w _ hx217_2)).trans hx217_2
                  replace hx217_3 := (HB.out.cell (World.block_lt_of_cell? w _ hx217_3)).trans hx217_3
                  have HR217_1 := Aside0.mk hi217_1
                  have HC217_1 := Aside0.mk hl217_1
                  clear hi217_1 hl217_1
                  have HR217_3 := Aside0.mk hi217_3
                  have HC217_3 := Aside0.mk hl217_3
                  clear hi217_3 hl217_3
                  replace p217 := eq_true p217
                  replace q217 := eq_true q217
                  go_upto_region 8 with (first | ((with_reducible refine gate_dst (N := 9) rfl ?_); (try (refine gate_guard (by rfl) ?_; dsimp only)); refine box_event ?hg (N := 9) ?hd (cs := #[.string (⟨#[]⟩ : ByteArray), .slice none 0 0, .int .i64 0, .slice none 0 0]) (t := 51) ?hr ?_; (case hd => rfl); (case hg => rfl); (case hr => first | (go_simp; done) | (go_simp; rfl)); intro gb218 hg w16 hbox hb; have n0_ := Aside0.mk (blk_below (g := gb216) (o := .cells #[.slice (some ad217) l0_0.length c0_0, .string a0_1, .slice A0_2 l0_2.length c0_2] 59 (0, 0)) (by (with_reducible repeat (first | refine blk_drewN ?_ _ | refine blk_drew ?_ | refine blk_alloc ?_ _)); exact BK216.out) hb); have n1_ := Aside0.mk (below_step (by repeat (first | (with_reducible first | exact HB.out | apply below_alloc | apply pw_below_drewN | apply below_drew1 | refine below_set ?_ GE216.out) | exact HB.out)) hb); have n2_ := Aside0.mk (hbox); have n3_ := Aside0.mk ((by rw [hg]; exact (below_size (by repeat (first | (with_reducible first | exact HB.out | apply below_alloc | apply pw_below_drewN | apply below_drew1 | refine below_set ?_ GE216.out) | exact HB.out))) : w.heap.size ≤ gb218)); have n4_ := Aside0.mk ((by rw [hg]; exact (below_size (by repeat (first | (with_reducible first | exact HB.out | apply below_alloc | apply pw_below_drewN | apply below_drew1 | refine below_set ?_ GE216.out) | exact HB.out))) : w.heap.size ≤ gb218)); have n5_ := Aside0.mk ((by rw [hg]; exact Nat.ne_of_lt (blk_lt (g := gb216) (o := .cells #[.slice (some ad217) l0_0.length c0_0, .string a0_1, .slice A0_2 l0_2.length c0_2] 59 (0, 0)) (by (with_reducible repeat (first | refine blk_drewN ?_ _ | refine blk_drew ?_ | refine blk_alloc ?_ _)); exact BK216.out)) : gb216 ≠ gb218)); have n6_ := Aside0.mk ((by rw [hg]; exact Nat.ne_of_gt (blk_lt (g := gb216) (o := .cells #[.slice (some ad217) l0_0.length c0_0, .string a0_1, .slice A0_2 l0_2.length c0_2] 59 (0, 0)) (by (with_reducible repeat (first | refine blk_drewN ?_ _ | refine blk_drew ?_ | refine blk_alloc ?_ _)); exact BK216.out)) : gb218 ≠ gb216)); clear BK216; clear HB; have BK216 := n0_; have HB := n1_; have BK218 := n2_; have GW218 := n3_; have GE218 := n4_; have NB216_218 := n5_; have NB218_216 := n6_; clear n0_ n1_ n2_ n3_ n4_ n5_ n6_; clear hb hbox hg; have hnb17 := NB218_216.out; have hnc17 := NB216_218.out; have hcz18_0 : w16.cell? ⟨gb218, 0, none⟩ = some (.string (⟨#[]⟩ : ByteArray)) := (blk_cell BK218.out 0).trans rfl; have hcz18_1 : w16.cell? ⟨gb218, 1, none⟩ = some (.slice none 0 0) := (blk_cell BK218.out 1).trans rfl; have hcz18_2 : w16.cell? ⟨gb218, 2, none⟩ = some (.int .i64 0) := (blk_cell BK218.out 2).trans rfl; have hcz18_3 : w16.cell? ⟨gb218, 3, none⟩ = some (.slice none 0 0) := (blk_cell BK218.out 3).trans rfl; have hfz18_0 := blk_frozen BK218.out 0; have hfz18_1 := blk_frozen BK218.out 1; have hfz18_2 := blk_frozen BK218.out 2; have hfz18_3 := blk_frozen BK218.out 3))
                  (try simp only [Act.put, List.setIfInBounds_toArray, List.set_cons_zero, List.set_cons_succ])
                  go_cut [45] (fun v45 wc => ∃ (kq : Nat) (x45_13 : Bool), v45 = .bool x45_13 ∧ Aside0 (antecedentref09_Few.j2 kq a2 x7_2 (l0_0.length : Int) x26_2 x45_13 l0_0 a0_1 l0_2 ((rd_T51 l0_0 x26_2).f0.f0) ((rd_T51 l0_0 x26_2).f0.f1) ((rd_T51 l0_0 x26_2).f1) ((rd_T51 l0_0 x26_2).f2) = some r) ∧ Aside0 (kq ≤ k2) ∧ Aside0 (wc.heap[gb216]? = some (.cells #[(.slice (some ad217) l0_0.length c0_0), .string a0_1, (.slice A0_2 l0_2.length c0_2)] 59 (0, 0))) ∧ Aside0 (wc.heap[gb218]? = some (.cells #[.string ((rd_T51 l0_0 x26_2).f0.f0), (.slice A217_1 ((rd_T51 l0_0 x26_2).f0.f1).length c217_1), .int .i64 ((rd_T51 l0_0 x26_2).f1), (.slice A217_3 ((rd_T51 l0_0 x26_2).f2).length c217_3)] 51 (0, 0))) ∧ Aside0 (Below w.heap.size w wc))
                  case first =>
                    have H := HC14.out
                    clear HC14
                    by_cases c19 : (((rd_T51 l0_0 x26_2).f2).length : Int) > a2
                    · rw [if_pos c19] at H
                      have c19b0 : decide (a2 < (((rd_T51 l0_0 x26_2).f2).length : Int)) = true := decide_eq_true c19
                      clear c19
                      (first | rw [c19b0] | (simp only [i64_w, i32_w]; rw [c19b0]) | skip)
                      have H' := Aside0.mk H
                      clear H
                      have hnb20 := NB218_216.out
                      have hnc20 := NB216_218.out
                      have hcz21_0 : w16.cell? ⟨gb218, 0, none⟩ = some (.string (⟨#[]⟩ : ByteArray)) := (blk_cell BK218.out 0).trans rfl
                      have hcz21_1 : w16.cell? ⟨gb218, 1, none⟩ = some (.slice none 0 0) := (blk_cell BK218.out 1).trans rfl
                      have hcz21_2 : w16.cell? ⟨gb218, 2, none⟩ = some (.int .i64 0) := (blk_cell BK218.out 2).trans rfl
                      have hcz21_3 : w16.cell? ⟨gb218, 3, none⟩ = some (.slice none 0 0) := (blk_cell BK218.out 3).trans rfl
                      have hfz21_0 := blk_frozen BK218.out 0
                      have hfz21_1 := blk_frozen BK218.out 1
                      have hfz21_2 := blk_frozen BK218.out 2
                      have hfz21_3 := blk_frozen BK218.out 3
                      go_wp2
                      go_meet
                      case rel => exact ⟨_, (true), (by first | rfl | (simp; done) | (simp [*]; done)), H', ⟨by have := HJ3.out; have := HK2.out; first | omega | exact Nat.le_refl _⟩, ⟨by (with_reducible repeat (first | refine blk_drewN ?_ _ | refine blk_drew ?_ | refine blk_alloc ?_ _)); refine blk_far ?_ NB216_218.out _; (with_reducible repeat (first | refine blk_drewN ?_ _ | refine blk_drew ?_ | refine blk_alloc ?_ _)); refine blk_far ?_ NB216_218.out _; (with_reducible repeat (first | refine blk_drewN ?_ _ | refine blk_drew ?_ | refine blk_alloc ?_ _)); refine blk_far ?_ NB216_218.out _; (with_reducible repeat (first | refine blk_drewN ?_ _ | refine blk_drew ?_ | refine blk_alloc ?_ _)); refine blk_far ?_ NB216_218.out _; (with_reducible repeat (first | refine blk_drewN ?_ _ | refine blk_drew ?_ | refine blk_alloc ?_ _)); exact BK216.out⟩, ⟨by (with_reducible repeat (first | refine blk_drewN ?_ _ | refine blk_drew ?_ | refine blk_alloc ?_ _)); refine blk_put (cs := #[.string ((rd_T51 l0_0 x26_2).f0.f0), .slice A217_1 ((rd_T51 l0_0 x26_2).f0.f1).length c217_1, .int .i64 ((rd_T51 l0_0 x26_2).f1), .slice none 0 0]) ?_ 3 _ rfl; (with_reducible repeat (first | refine blk_drewN ?_ _ | refine blk_drew ?_ | refine blk_alloc ?_ _)); refine blk_put (cs := #[.string ((rd_T51 l0_0 x26_2).f0.f0), .slice A217_1 ((rd_T51 l0_0 x26_2).f0.f1).length c217_1, .int .i64 0, .slice none 0 0]) ?_ 2 _ rfl; (with_reducible repeat (first | refine blk_drewN ?_ _ | refine blk_drew ?_ | refine blk_alloc ?_ _)); refine blk_put (cs := #[.string ((rd_T51 l0_0 x26_2).f0.f0), .slice none 0 0, .int .i64 0, .slice none 0 0]) ?_ 1 _ rfl; (with_reducible repeat (first | refine blk_drewN ?_ _ | refine blk_drew ?_ | refine blk_alloc ?_ _)); refine blk_put (cs := #[.string (⟨#[]⟩ : ByteArray), .slice none 0 0, .int .i64 0, .slice none 0 0]) ?_ 0 _ rfl; (with_reducible repeat (first | refine blk_drewN ?_ _ | refine blk_drew ?_ | refine blk_alloc ?_ _)); exact BK218.out⟩, ⟨by repeat (first | (with_reducible first | exact HB.out | apply below_alloc | apply pw_below_drewN | apply below_drew1 | refine below_set ?_ GE216.out | refine below_set ?_ GE218.out) | exact HB.out)⟩⟩
                    · rw [if_neg c19] at H
                      have c19b0 : decide (a2 < (((rd_T51 l0_0 x26_2).f2).length : Int)) = false := decide_eq_false c19
                      clear c19
                      (first | rw [c19b0] | (simp only [i64_w, i32_w]; rw [c19b0]) | skip)
                      have H' := Aside0.mk H
                      clear H
                      have hnb22 := NB218_216.out
                      have hnc22 := NB216_218.out
                      have hcz23_0 : w16.cell? ⟨gb218, 0, none⟩ = some (.string (⟨#[]⟩ : ByteArray)) := (blk_cell BK218.out 0).trans rfl
                      have hcz23_1 : w16.cell? ⟨gb218, 1, none⟩ = some (.slice none 0 0) := (blk_cell BK218.out 1).trans rfl
                      have hcz23_2 : w16.cell? ⟨gb218, 2, none⟩ = some (.int .i64 0) := (blk_cell BK218.out 2).trans rfl
                      have hcz23_3 : w16.cell? ⟨gb218, 3, none⟩ = some (.slice none 0 0) := (blk_cell BK218.out 3).trans rfl
                      have hfz23_0 := blk_frozen BK218.out 0
                      have hfz23_1 := blk_frozen BK218.out 1
                      have hfz23_2 := blk_frozen BK218.out 2
                      have hfz23_3 := blk_frozen BK218.out 3
                      go_wp2
                      go_meet
                      case rel => exact ⟨_, (decide ((((rd_T51 l0_0 x26_2).f0.f1).length : Int) > 10)), (by first | rfl | (simp; done) | (simp [*]; done)), H', ⟨by have := HJ3.out; have := HK2.out; first | omega | exact Nat.le_refl _⟩, ⟨by (with_reducible repeat (first | refine blk_drewN ?_ _ | refine blk_drew ?_ | refine blk_alloc ?_ _)); refine blk_far ?_ NB216_218.out _; (with_reducible repeat (first | refine blk_drewN ?_ _ | refine blk_drew ?_ | refine blk_alloc ?_ _)); refine blk_far ?_ NB216_218.out _; (with_reducible repeat (first | refine blk_drewN ?_ _ | refine blk_drew ?_ | refine blk_alloc ?_ _)); refine blk_far ?_ NB216_218.out _; (with_reducible repeat (first | refine blk_drewN ?_ _ | refine blk_drew ?_ | refine blk_alloc ?_ _)); refine blk_far ?_ NB216_218.out _; (with_reducible repeat (first | refine blk_drewN ?_ _ | refine blk_drew ?_ | refine blk_alloc ?_ _)); exact BK216.out⟩, ⟨by (with_reducible repeat (first | refine blk_drewN ?_ _ | refine blk_drew ?_ | refine blk_alloc ?_ _)); refine blk_put (cs := #[.string ((rd_T51 l0_0 x26_2).f0.f0), .slice A217_1 ((rd_T51 l0_0 x26_2).f0.f1).length c217_1, .int .i64 ((rd_T51 l0_0 x26_2).f1), .slice none 0 0]) ?_ 3 _ rfl; (with_reducible repeat (first | refine blk_drewN ?_ _ | refine blk_drew ?_ | refine blk_alloc ?_ _)); refine blk_put (cs := #[.string ((rd_T51 l0_0 x26_2).f0.f0), .slice A217_1 ((rd_T51 l0_0 x26_2).f0.f1).length c217_1, .int .i64 0, .slice none 0 0]) ?_ 2 _ rfl; (with_reducible repeat (first | refine blk_drewN ?_ _ | refine blk_drew ?_ | refine blk_alloc ?_ _)); refine blk_put (cs := #[.string ((rd_T51 l0_0 x26_2).f0.f0), .slice none 0 0, .int .i64 0, .slice none 0 0]) ?_ 1 _ rfl; (with_reducible repeat (first | refine blk_drewN ?_ _ | refine blk_drew ?_ | refine blk_alloc ?_ _)); refine blk_put (cs := #[.string (⟨#[]⟩ : ByteArray), .slice none 0 0, .int .i64 0, .slice none 0 0]) ?_ 0 _ rfl; (with_reducible repeat (first | refine blk_drewN ?_ _ | refine blk_drew ?_ | refine blk_alloc ?_ _)); exact BK218.out⟩, ⟨by repeat (first | (with_reducible first | exact HB.out | apply below_alloc | apply pw_below_drewN | apply below_drew1 | refine below_set ?_ GE216.out | refine below_set ?_ GE218.out) | exact HB.out)⟩⟩
                  case rest =>
                    clear HC14
                    try clear c1
                    try clear c2
                    try clear p2
                    try clear q2
                    try clear hx2
                    try clear c6
                    try clear c6b0
                    try clear c9
                    try clear c11
                    try clear c11b0
                    try clear c12
                    try clear c12b0
                    try clear c13
                    try clear c13b0
                    try clear c17
                    try clear c19
                    try clear c19b0
                    try clear c20
                    try clear c21
                    try clear p21
                    try clear q21
                    try clear hx21
                    try clear c22
                    try clear hcz10_0
                    try clear hcz10_1
                    try clear hcz10_2
                    try clear hcz15_0
                    try clear hcz15_1
                    try clear hcz15_2
                    try clear hcz18_0
                    try clear hcz18_1
                    try clear hcz18_2
                    try clear hcz18_3
                    try clear hcz21_0
                    try clear hcz21_1
                    try clear hcz21_2
                    try clear hcz21_3
                    try clear hcz23_0
                    try clear hcz23_1
                    try clear hcz23_2
                    try clear hcz23_3
                    try clear hcz7_0
                    try clear hcz7_1
                    try clear hcz7_2
                    try clear hcz8_0
                    try clear hcz8_1
                    try clear hcz8_2
                    try clear hfz10_0
                    try clear hfz10_1
                    try clear hfz10_2
                    try clear hfz15_0
                    try clear hfz15_1
                    try clear hfz15_2
                    try clear hfz18_0
                    try clear hfz18_1
                    try clear hfz18_2
                    try clear hfz18_3
                    try clear hfz21_0
                    try clear hfz21_1
                    try clear hfz21_2
                    try clear hfz21_3
                    try clear hfz23_0
                    try clear hfz23_1
                    try clear hfz23_2
                    try clear hfz23_3
                    try clear hfz7_0
                    try clear hfz7_1
                    try clear hfz7_2
                    try clear hfz8_0
                    try clear hfz8_1
                    try clear hfz8_2
                    try clear hx217_0
                    try clear hx217_1
                    try clear hx217_2
                    try clear hx217_3
                    try clear p2
                    try clear p217
                    try clear q217
                    obtain ⟨kq, x45_13, rfl, HA, HJ13, BK216, BK218, HB⟩ := hcut
                    cases kq with
                    | zero => exact absurd HA.out (by simp [antecedentref09_Few.j2])
                    | succ kj13 =>
                      have H := HA.out
                      clear HA
                      simp only [antecedentref09_Few.j2] at H
                      by_cases c24 : x45_13 = true
                      · subst c24
                        have H1 : (some false) = some r := by rw [if_pos rfl] at H; exact H
                        clear H
                        have H := H1
                        clear H1
                        obtain rfl := Option.some.inj H
                        go_wp2
                        go_ret
                        exact ⟨by first | rfl | (simp [errW_none, errW_some] <;> rfl) | (simp [*, errW_none, errW_some] <;> rfl), by repeat (first | (with_reducible first | exact HB.out | apply below_alloc | apply pw_below_drewN | apply below_drew1 | refine below_set ?_ GE216.out | refine below_set ?_ GE218.out) | exact HB.out)⟩
                      · replace c24 := Bool.eq_false_iff.mpr c24
                        subst c24
                        have H1 : (antecedentref09_Few.l1 kj13 a2 x7_2 (l0_0.length : Int) x26_2 (((rd_T51 l0_0 x26_2).f2).length : Int) 0 l0_0 a0_1 l0_2 ((rd_T51 l0_0 x26_2).f0.f0) ((rd_T51 l0_0 x26_2).f0.f1) ((rd_T51 l0_0 x26_2).f1) ((rd_T51 l0_0 x26_2).f2)) = some r := by rw [if_neg (show ¬ (false = true) by decide)] at H; exact H
                        clear H
                        have H := H1
                        clear H1
                        have H' := Aside0.mk H
                        clear H
                        have hnb25 := NB218_216.out
                        have hnc25 := NB216_218.out
                        have hcz26_0 : wc.cell? ⟨gb218, 0, none⟩ = some (.string ((rd_T51 l0_0 x26_2).f0.f0)) := (blk_cell BK218.out 0).trans rfl
                        have hcz26_1 : wc.cell? ⟨gb218, 1, none⟩ = some (.slice A217_1 ((rd_T51 l0_0 x26_2).f0.f1).length c217_1) := (blk_cell BK218.out 1).trans rfl
                        have hcz26_2 : wc.cell? ⟨gb218, 2, none⟩ = some (.int .i64 ((rd_T51 l0_0 x26_2).f1)) := (blk_cell BK218.out 2).trans rfl
                        have hcz26_3 : wc.cell? ⟨gb218, 3, none⟩ = some (.slice A217_3 ((rd_T51 l0_0 x26_2).f2).length c217_3) := (blk_cell BK218.out 3).trans rfl
                        have hfz26_0 := blk_frozen BK218.out 0
                        have hfz26_1 := blk_frozen BK218.out 1
                        have hfz26_2 := blk_frozen BK218.out 2
                        have hfz26_3 := blk_frozen BK218.out 3
                        go_wp2
                        go_loopg [7, 49] kj13 (fun kq v7 v49 w' => ∃ (x7_4 : Int) (x49_4 : Int), v7 = .int .i64 x7_4 ∧ v49 = .int .i64 x49_4 ∧ Aside0 (antecedentref09_Few.l1 kq a2 x7_4 (l0_0.length : Int) x26_2 (((rd_T51 l0_0 x26_2).f2).length : Int) x49_4 l0_0 a0_1 l0_2 ((rd_T51 l0_0 x26_2).f0.f0) ((rd_T51 l0_0 x26_2).f0.f1) ((rd_T51 l0_0 x26_2).f1) ((rd_T51 l0_0 x26_2).f2) = some r) ∧ Aside0 (kq ≤ kj13) ∧ Aside0 (w'.heap[gb216]? = some (.cells #[(.slice (some ad217) l0_0.length c0_0), .string a0_1, (.slice A0_2 l0_2.length c0_2)] 59 (0, 0))) ∧ Aside0 (w'.heap[gb218]? = some (.cells #[.string ((rd_T51 l0_0 x26_2).f0.f0), (.slice A217_1 ((rd_T51 l0_0 x26_2).f0.f1).length c217_1), .int .i64 ((rd_T51 l0_0 x26_2).f1), (.slice A217_3 ((rd_T51 l0_0 x26_2).f2).length c217_3)] 51 (0, 0))) ∧ Aside0 (Below w.heap.size w w'))
                        case atStart => exact ⟨(x7_2), (0), (by first | rfl | (simp; done) | (simp [*]; done)), (by first | rfl | (simp; done) | (simp [*]; done)), H', ⟨Nat.le_refl _⟩, ⟨by (with_reducible repeat (first | refine blk_drewN ?_ _ | refine blk_drew ?_ | refine blk_alloc ?_ _)); exact BK216.out⟩, ⟨by (with_reducible repeat (first | refine blk_drewN ?_ _ | refine blk_drew ?_ | refine blk_alloc ?_ _)); exact BK218.out⟩, ⟨by repeat (first | (with_reducible first | exact HB.out | apply below_alloc | apply pw_below_drewN | apply below_drew1 | refine below_set ?_ GE216.out | refine below_set ?_ GE218.out) | exact HB.out)⟩⟩
                        case round =>
                          clear H'
                          try clear c1
                          try clear c2
                          try clear p2
                          try clear q2
                          try clear hx2
                          try clear c6
                          try clear c6b0
                          try clear c9
                          try clear c11
                          try clear c11b0
                          try clear c12
                          try clear c12b0
                          try clear c13
                          try clear c13b0
                          try clear c17
                          try clear c19
                          try clear c19b0
                          try clear c20
                          try clear c21
                          try clear p21
                          try clear q21
                          try clear hx21
                          try clear c22
                          try clear c24
                          try clear c25
                          try clear hcz10_0
                          try clear hcz10_1
                          try clear hcz10_2
                          try clear hcz15_0
                          try clear hcz15_1
                          try clear hcz15_2
                          try clear hcz18_0
                          try clear hcz18_1
                          try clear hcz18_2
                          try clear hcz18_3
                          try clear hcz21_0
                          try clear hcz21_1
                          try clear hcz21_2
                          try clear hcz21_3
                          try clear hcz23_0
                          try clear hcz23_1
                          try clear hcz23_2
                          try clear hcz23_3
                          try clear hcz26_0
                          try clear hcz26_1
                          try clear hcz26_2
                          try clear hcz26_3
                          try clear hcz7_0
                          try clear hcz7_1
                          try clear hcz7_2
                          try clear hcz8_0
                          try clear hcz8_1
                          try clear hcz8_2
                          try clear hfz10_0
                          try clear hfz10_1
                          try clear hfz10_2
                          try clear hfz15_0
                          try clear hfz15_1
                          try clear hfz15_2
                          try clear hfz18_0
                          try clear hfz18_1
                          try clear hfz18_2
                          try clear hfz18_3
                          try clear hfz21_0
                          try clear hfz21_1
                          try clear hfz21_2
                          try clear hfz21_3
                          try clear hfz23_0
                          try clear hfz23_1
                          try clear hfz23_2
                          try clear hfz23_3
                          try clear hfz26_0
                          try clear hfz26_1
                          try clear hfz26_2
                          try clear hfz26_3
                          try clear hfz7_0
                          try clear hfz7_1
                          try clear hfz7_2
                          try clear hfz8_0
                          try clear hfz8_1
                          try clear hfz8_2
                          try clear hx217_0
                          try clear hx217_1
                          try clear hx217_2
                          try clear hx217_3
                          try clear p2
                          try clear p21
                          try clear p217
                          try clear q2
                          try clear q21
                          try clear q217
                          obtain ⟨x7_4, x49_4, rfl, rfl, HA, HK4, BK216, BK218, HB⟩ := hrel
                          cases gk with
                          | zero => exact absurd HA.out (by simp [antecedentref09_Few.l1])
                          | succ k4 =>
                            have H := HA.out
                            clear HA
                            simp only [antecedentref09_Few.l1] at H
                            by_cases c27 : x49_4 < (((rd_T51 l0_0 x26_2).f2).length : Int)
                            · rw [if_pos c27] at H
                              have c27b0 : decide (x49_4 < (((rd_T51 l0_0 x26_2).f2).length : Int)) = true := decide_eq_true c27
                              clear c27
                              by_cases c28 : 0 ≤ x49_4
                              · rw [if_pos c28] at H
                                have c28b0 : decide (0 ≤ x49_4) = true := decide_eq_true c28
                                clear c28
                                by_cases c29 : x49_4 < (((rd_T51 l0_0 x26_2).f2).length : Int)
                                · rw [if_pos c29] at H
                                  have c29b0 : decide (x49_4 < (((rd_T51 l0_0 x26_2).f2).length : Int)) = true := decide_eq_true c29
                                  clear c29
                                  by_cases c30 : (((rd_T43 ((rd_T51 l0_0 x26_2).f2) x49_4).f6).length : Int) > 30
                                  · rw [if_pos c30] at H
                                    have c30b0 : decide (30 < (((rd_T43 ((rd_T51 l0_0 x26_2).f2) x49_4).f6).length : Int)) = true := decide_eq_true c30
                                    have c30b1 : decide (30 < ((rd_T43 ((rd_T51 l0_0 x26_2).f2) x49_4).f6).length) = true := decide_eq_true (by omega)
                                    clear c30
                                    obtain rfl := Option.some.inj H
                                    have hnb31 := NB218_216.out
                                    have hnc31 := NB216_218.out
                                    have hcz32_0 : wr.cell? ⟨gb218, 0, none⟩ = some (.string ((rd_T51 l0_0 x26_2).f0.f0)) := (blk_cell BK218.out 0).trans rfl
                                    have hcz32_1 : wr.cell? ⟨gb218, 1, none⟩ = some (.slice A217_1 ((rd_T51 l0_0 x26_2).f0.f1).length c217_1) := (blk_cell BK218.out 1).trans rfl
                                    have hcz32_2 : wr.cell? ⟨gb218, 2, none⟩ = some (.int .i64 ((rd_T51 l0_0 x26_2).f1)) := (blk_cell BK218.out 2).trans rfl
                                    have hcz32_3 : wr.cell? ⟨gb218, 3, none⟩ = some (.slice A217_3 ((rd_T51 l0_0 x26_2).f2).length c217_3) := (blk_cell BK218.out 3).trans rfl
                                    have hfz32_0 := blk_frozen BK218.out 0
                                    have hfz32_1 := blk_frozen BK218.out 1
                                    have hfz32_2 := blk_frozen BK218.out 2
                                    have hfz32_3 := blk_frozen BK218.out 3
                                    have p219 : 0 ≤ (x49_4 : Int) := of_decide_eq_true (by first | (with_reducible assumption) | assumption)
                                    have q219 : x49_4 < (((rd_T51 l0_0 x26_2).f2).length : Int) := of_decide_eq_true (by first | (with_reducible assumption) | assumption)
                                    obtain ⟨ad219, A219_2, c219_2, A219_16, c219_16, e219, hx219_0, hx219_1, hx219_2, hx219_3, hx219_4, hx219_5, hx219_6, hx219_7, hx219_8, hx219_9, hx219_10, hx219_11, hx219_12, hx219_13, hx219_14, hx219_15, hx219_16, hl219_2, hi219_2, hl219_16, hi219_16⟩ := at_T43 HR217_3.out x49_4 p219 q219
                                    cases e219
                                    replace hx219_0 := (HB.out.cell (World.block_lt_of_cell? w _ hx219_0)).trans hx219_0
                                    replace hx219_1 := (HB.out.cell (World.block_lt_of_cell? w _ hx219_1)).trans hx219_1
                                    replace hx219_2 := (HB.out.cell (World.block_lt_of_cell? w _ hx219_2)).trans hx219_2
                                    replace hx219_3 := (HB.out.cell (World.block_lt_of_cell? w _ hx219_3)).trans hx219_3
                                    replace hx219_4 := (HB.out.cell (World.block_lt_of_cell? w _ hx219_4)).trans hx219_4
                                    replace hx219_5 := (HB.out.cell (World.block_lt_of_cell? w _ hx219_5)).trans hx219_5
                                    replace hx219_6 := (HB.out.cell (World.block_lt_of_cell? w _ hx219_6)).trans hx219_6
                                    replace hx219_7 := (HB.out.cell (World.block_lt_of_cell? w _ hx219_7)).trans hx219_7
                                    replace hx219_8 := (HB.out.cell (World.block_lt_of_cell? w _ hx219_8)).trans hx219_8
                                    replace hx219_9 := (HB.out.cell (World.block_lt_of_cell? w _ hx219_9)).trans hx219_9
                                    replace hx219_10 := (HB.out.cell (World.block_lt_of_cell? w _ hx219_10)).trans hx219_10
                                    replace hx219_11 := (HB.out.cell (World.block_lt_of_cell? w _ hx219_11)).trans hx219_11
                                    replace hx219_12 := (HB.out.cell (World.block_lt_of_cell? w _ hx219_12)).trans hx219_12
                                    replace hx219_13 := (HB.out.cell (World.block_lt_of_cell? w _ hx219_13)).trans hx219_13
                                    replace hx219_14 := (HB.out.cell (World.block_lt_of_cell? w _ hx219_14)).trans hx219_14
                                    replace hx219_15 := (HB.out.cell (World.block_lt_of_cell? w _ hx219_15)).trans hx219_15
                                    replace hx219_16 := (HB.out.cell (World.block_lt_of_cell? w _ hx219_16)).trans hx219_16
                                    have HR219_2 := Aside0.mk hi219_2
                                    have HC219_2 := Aside0.mk hl219_2
                                    clear hi219_2 hl219_2
                                    have HR219_16 := Aside0.mk hi219_16
                                    have HC219_16 := Aside0.mk hl219_16
                                    clear hi219_16 hl219_16
                                    replace p219 := eq_true p219
                                    replace q219 := eq_true q219
                                    have p220 : 0 ≤ (x49_4 : Int) := of_decide_eq_true (by first | (with_reducible assumption) | assumption)
                                    have q220 : x49_4 < (((rd_T51 l0_0 x26_2).f2).length : Int) := of_decide_eq_true (by first | (with_reducible assumption) | assumption)
                                    obtain ⟨ad220, A220_2, c220_2, A220_16, c220_16, e220, hx220_0, hx220_1, hx220_2, hx220_3, hx220_4, hx220_5, hx220_6, hx220_7, hx220_8, hx220_9, hx220_10, hx220_11, hx220_12, hx220_13, hx220_14, hx220_15, hx220_16, hl220_2, hi220_2, hl220_16, hi220_16⟩ := at_T43 HR217_3.out x49_4 p220 q220
                                    obtain rfl : ad219 = ad220 := (by injection e220)
                                    replace hx220_0 := (HB.out.cell (World.block_lt_of_cell? w _ hx220_0)).trans hx220_0
                                    replace hx220_1 := (HB.out.cell (World.block_lt_of_cell? w _ hx220_1)).trans hx220_1
                                    replace hx220_2 := (HB.out.cell (World.block_lt_of_cell? w _ hx220_2)).trans hx220_2
                                    replace hx220_3 := (HB.out.cell (World.block_lt_of_cell? w _ hx220_3)).trans hx220_3
                                    replace hx220_4 := (HB.out.cell (World.block_lt_of_cell? w _ hx220_4)).trans hx220_4
                                    replace hx220_5 := (HB.out.cell (World.block_lt_of_cell? w _ hx220_5)).trans hx220_5
                                    replace hx220_6 := (HB.out.cell (World.block_lt_of_cell? w _ hx220_6)).trans hx220_6
                                    replace hx220_7 := (HB.out.cell (World.block_lt_of_cell? w _ hx220_7)).trans hx220_7
                                    replace hx220_8 := (HB.out.cell (World.block_lt_of_cell? w _ hx220_8)).trans hx220_8
                                    replace hx220_9 := (HB.out.cell (World.block_lt_of_cell? w _ hx220_9)).trans hx220_9
                                    replace hx220_10 := (HB.out.cell (World.block_lt_of_cell? w _ hx220_10)).trans hx220_10
                                    replace hx220_11 := (HB.out.cell (World.block_lt_of_cell? w _ hx220_11)).trans hx220_11
                                    replace hx220_12 := (HB.out.cell (World.block_lt_of_cell? w _ hx220_12)).trans hx220_12
                                    replace hx220_13 := (HB.out.cell (World.block_lt_of_cell? w _ hx220_13)).trans hx220_13
                                    replace hx220_14 := (HB.out.cell (World.block_lt_of_cell? w _ hx220_14)).trans hx220_14
                                    replace hx220_15 := (HB.out.cell (World.block_lt_of_cell? w _ hx220_15)).trans hx220_15
                                    replace hx220_16 := (HB.out.cell (World.block_lt_of_cell? w _ hx220_16)).trans hx220_16
                                    have HR220_2 := Aside0.mk hi220_2
                                    have HC220_2 := Aside0.mk hl220_2
                                    clear hi220_2 hl220_2
                                    have HR220_16 := Aside0.mk hi220_16
                                    have HC220_16 := Aside0.mk hl220_16
                                    clear hi220_16 hl220_16
                                    replace p220 := eq_true p220
                                    replace q220 := eq_true q220
                                    have ea_ := Option.some.inj (hx219_2.symm.trans hx220_2)
                                    injection ea_ with ea_ en_ ec_
                                    subst ea_
                                    subst ec_
                                    clear en_
                                    have ea_ := Option.some.inj (hx219_16.symm.trans hx220_16)
                                    injection ea_ with ea_ en_ ec_
                                    subst ea_
                                    subst ec_
                                    clear en_
                                    go_wp2
                                    go_ret
                                    exact ⟨by first | rfl | (simp [errW_none, errW_some] <;> rfl) | (simp [*, errW_none, errW_some] <;> rfl), by repeat (first | (with_reducible first | exact HB.out | apply below_alloc | apply pw_below_drewN | apply below_drew1 | refine below_set ?_ GE216.out | refine below_set ?_ GE218.out) | exact HB.out)⟩
                                  · rw [if_neg c30] at H
                                    have c30b0 : decide (30 < (((rd_T43 ((rd_T51 l0_0 x26_2).f2) x49_4).f6).length : Int)) = false := decide_eq_false c30
                                    have c30b1 : decide (30 < ((rd_T43 ((rd_T51 l0_0 x26_2).f2) x49_4).f6).length) = false := decide_eq_false (by omega)
                                    clear c30
                                    by_cases c33 : (((rd_T43 ((rd_T51 l0_0 x26_2).f2) x49_4).f1.f1).length : Int) > 10
                                    · rw [if_pos c33] at H
                                      have c33b0 : decide (10 < (((rd_T43 ((rd_T51 l0_0 x26_2).f2) x49_4).f1.f1).length : Int)) = true := decide_eq_true c33
                                      have c33b1 : decide (10 < ((rd_T43 ((rd_T51 l0_0 x26_2).f2) x49_4).f1.f1).length) = true := decide_eq_true (by omega)
                                      clear c33
                                      obtain rfl := Option.some.inj H
                                      have hnb34 := NB218_216.out
                                      have hnc34 := NB216_218.out
                                      have hcz35_0 : wr.cell? ⟨gb218, 0, none⟩ = some (.string ((rd_T51 l0_0 x26_2).f0.f0)) := (blk_cell BK218.out 0).trans rfl
                                      have hcz35_1 : wr.cell? ⟨gb218, 1, none⟩ = some (.slice A217_1 ((rd_T51 l0_0 x26_2).f0.f1).length c217_1) := (blk_cell BK218.out 1).trans rfl
                                      have hcz35_2 : wr.cell? ⟨gb218, 2, none⟩ = some (.int .i64 ((rd_T51 l0_0 x26_2).f1)) := (blk_cell BK218.out 2).trans rfl
                                      have hcz35_3 : wr.cell? ⟨gb218, 3, none⟩ = some (.slice A217_3 ((rd_T51 l0_0 x26_2).f2).length c217_3) := (blk_cell BK218.out 3).trans rfl
                                      have hfz35_0 := blk_frozen BK218.out 0
                                      have hfz35_1 := blk_frozen BK218.out 1
                                      have hfz35_2 := blk_frozen BK218.out 2
                                      have hfz35_3 := blk_frozen BK218.out 3
                                      have p219 : 0 ≤ (x49_4 : Int) := of_decide_eq_true (by first | (with_reducible assumption) | assumption)
                                      have q219 : x49_4 < (((rd_T51 l0_0 x26_2).f2).length : Int) := of_decide_eq_true (by first | (with_reducible assumption) | assumption)
                                      obtain ⟨ad219, A219_2, c219_2, A219_16, c219_16, e219, hx219_0, hx219_1, hx219_2, hx219_3, hx219_4, hx219_5, hx219_6, hx219_7, hx219_8, hx219_9, hx219_10, hx219_11, hx219_12, hx219_13, hx219_14, hx219_15, hx219_16, hl219_2, hi219_2, hl219_16, hi219_16⟩ := at_T43 HR217_3.out x49_4 p219 q219
                                      cases e219
                                      replace hx219_0 := (HB.out.cell (World.block_lt_of_cell? w _ hx219_0)).trans hx219_0
                                      replace hx219_1 := (HB.out.cell (World.block_lt_of_cell? w _ hx219_1)).trans hx219_1
                                      replace hx219_2 := (HB.out.cell (World.block_lt_of_cell? w _ hx219_2)).trans hx219_2
                                      replace hx219_3 := (HB.out.cell (World.block_lt_of_cell? w _ hx219_3)).trans hx219_3
                                      replace hx219_4 := (HB.out.cell (World.block_lt_of_cell? w _ hx219_4)).trans hx219_4
                                      replace hx219_5 := (HB.out.cell (World.block_lt_of_cell? w _ hx219_5)).trans hx219_5
                                      replace hx219_6 := (HB.out.cell (World.block_lt_of_cell? w _ hx219_6)).trans hx219_6
                                      replace hx219_7 := (HB.out.cell (World.block_lt_of_cell? w _ hx219_7)).trans hx219_7
                                      replace hx219_8 := (HB.out.cell (World.block_lt_of_cell? w _ hx219_8)).trans hx219_8
                                      replace hx219_9 := (HB.out.cell (World.block_lt_of_cell? w _ hx219_9)).trans hx219_9
                                      replace hx219_10 := (HB.out.cell (World.block_lt_of_cell? w _ hx219_10)).trans hx219_10
                                      replace hx219_11 := (HB.out.cell (World.block_lt_of_cell? w _ hx219_11)).trans hx219_11
                                      replace hx219_12 := (HB.out.cell (World.block_lt_of_cell? w _ hx219_12)).trans hx219_12
                                      replace hx219_13 := (HB.out.cell (World.block_lt_of_cell? w _ hx219_13)).trans hx219_13
                                      replace hx219_14 := (HB.out.cell (World.block_lt_of_cell? w _ hx219_14)).trans hx219_14
                                      replace hx219_15 := (HB.out.cell (World.block_lt_of_cell? w _ hx219_15)).trans hx219_15
                                      replace hx219_16 := (HB.out.cell (World.block_lt_of_cell? w _ hx219_16)).trans hx219_16
                                      have HR219_2 := Aside0.mk hi219_2
                                      have HC219_2 := Aside0.mk hl219_2
                                      clear hi219_2 hl219_2
                                      have HR219_16 := Aside0.mk hi219_16
                                      have HC219_16 := Aside0.mk hl219_16
                                      clear hi219_16 hl219_16
                                      replace p219 := eq_true p219
                                      replace q219 := eq_true q219
                                      have p220 : 0 ≤ (x49_4 : Int) := of_decide_eq_true (by first | (with_reducible assumption) | assumption)
                                      have q220 : x49_4 < (((rd_T51 l0_0 x26_2).f2).length : Int) := of_decide_eq_true (by first | (with_reducible assumption) | assumption)
                                      obtain ⟨ad220, A220_2, c220_2, A220_16, c220_16, e220, hx220_0, hx220_1, hx220_2, hx220_3, hx220_4, hx220_5, hx220_6, hx220_7, hx220_8, hx220_9, hx220_10, hx220_11, hx220_12, hx220_13, hx220_14, hx220_15, hx220_16, hl220_2, hi220_2, hl220_16, hi220_16⟩ := at_T43 HR217_3.out x49_4 p220 q220
                                      obtain rfl : ad219 = ad220 := (by injection e220)
                                      replace hx220_0 := (HB.out.cell (World.block_lt_of_cell? w _ hx220_0)).trans hx220_0
                                      replace hx220_1 := (HB.out.cell (World.block_lt_of_cell? w _ hx220_1)).trans hx220_1
                                      replace hx220_2 := (HB.out.cell (World.block_lt_of_cell? w _ hx220_2)).trans hx220_2
                                      replace hx220_3 := (HB.out.cell (World.block_lt_of_cell? w _ hx220_3)).trans hx220_3
                                      replace hx220_4 := (HB.out.cell (World.block_lt_of_cell? w _ hx220_4)).trans hx220_4
                                      replace hx220_5 := (HB.out.cell (World.block_lt_of_cell? w _ hx220_5)).trans hx220_5
                                      replace hx220_6 := (HB.out.cell (World.block_lt_of_cell? w _ hx220_6)).trans hx220_6
                                      replace hx220_7 := (HB.out.cell (World.block_lt_of_cell? w _ hx220_7)).trans hx220_7
                                      replace hx220_8 := (HB.out.cell (World.block_lt_of_cell? w _ hx220_8)).trans hx220_8
                                      replace hx220_9 := (HB.out.cell (World.block_lt_of_cell? w _ hx220_9)).trans hx220_9
                                      replace hx220_10 := (HB.out.cell (World.block_lt_of_cell? w _ hx220_10)).trans hx220_10
                                      replace hx220_11 := (HB.out.cell (World.block_lt_of_cell? w _ hx220_11)).trans hx220_11
                                      replace hx220_12 := (HB.out.cell (World.block_lt_of_cell? w _ hx220_12)).trans hx220_12
                                      replace hx220_13 := (HB.out.cell (World.block_lt_of_cell? w _ hx220_13)).trans hx220_13
                                      replace hx220_14 := (HB.out.cell (World.block_lt_of_cell? w _ hx220_14)).trans hx220_14
                                      replace hx220_15 := (HB.out.cell (World.block_lt_of_cell? w _ hx220_15)).trans hx220_15
                                      replace hx220_16 := (HB.out.cell (World.block_lt_of_cell? w _ hx220_16)).trans hx220_16
                                      have HR220_2 := Aside0.mk hi220_2
                                      have HC220_2 := Aside0.mk hl220_2
                                      clear hi220_2 hl220_2
                                      have HR220_16 := Aside0.mk hi220_16
                                      have HC220_16 := Aside0.mk hl220_16
                                      clear hi220_16 hl220_16
                                      replace p220 := eq_true p220
                                      replace q220 := eq_true q220
                                      have ea_ := Option.some.inj (hx219_2.symm.trans hx220_2)
                                      injection ea_ with ea_ en_ ec_
                                      subst ea_
                                      subst ec_
                                      clear en_
                                      have ea_ := Option.some.inj (hx219_16.symm.trans hx220_16)
                                      injection ea_ with ea_ en_ ec_
                                      subst ea_
                                      subst ec_
                                      clear en_
                                      have p221 : 0 ≤ (x49_4 : Int) := of_decide_eq_true (by first | (with_reducible assumption) | assumption)
                                      have q221 : x49_4 < (((rd_T51 l0_0 x26_2).f2).length : Int) := of_decide_eq_true (by first | (with_reducible assumption) | assumption)
                                      obtain ⟨ad221, A221_2, c221_2, A221_16, c221_16, e221, hx221_0, hx221_1, hx221_2, hx221_3, hx221_4, hx221_5, hx221_6, hx221_7, hx221_8, hx221_9, hx221_10, hx221_11, hx221_12, hx221_13, hx221_14, hx221_15, hx221_16, hl221_2, hi221_2, hl221_16, hi221_16⟩ := at_T43 HR217_3.out x49_4 p221 q221
                                      obtain rfl : ad219 = ad221 := (by injection e221)
                                      replace hx221_0 := (HB.out.cell (World.block_lt_of_cell? w _ hx221_0)).trans hx221_0
                                      replace hx221_1 := (HB.out.cell (World.block_lt_of_cell? w _ hx221_1)).trans hx221_1
                                      replace hx221_2 := (HB.out.cell (World.block_lt_of_cell? w _ hx221_2)).trans hx221_2
                                      replace hx221_3 := (HB.out.cell (World.block_lt_of_cell? w _ hx221_3)).trans hx221_3
                                      replace hx221_4 := (HB.out.cell (World.block_lt_of_cell? w _ hx221_4)).trans hx221_4
                                      replace hx221_5 := (HB.out.cell (World.block_lt_of_cell? w _ hx221_5)).trans hx221_5
                                      replace hx221_6 := (HB.out.cell (World.block_lt_of_cell? w _ hx221_6)).trans hx221_6
                                      replace hx221_7 := (HB.out.cell (World.block_lt_of_cell? w _ hx221_7)).trans hx221_7
                                      replace hx221_8 := (HB.out.cell (World.block_lt_of_cell? w _ hx221_8)).trans hx221_8
                                      replace hx221_9 := (HB.out.cell (World.block_lt_of_cell? w _ hx221_9)).trans hx221_9
                                      replace hx221_10 := (HB.out.cell (World.block_lt_of_cell? w _ hx221_10)).trans hx221_10
                                      replace hx221_11 := (HB.out.cell (World.block_lt_of_cell? w _ hx221_11)).trans hx221_11
                                      replace hx221_12 := (HB.out.cell (World.block_lt_of_cell? w _ hx221_12)).trans hx221_12
                                      replace hx221_13 := (HB.out.cell (World.block_lt_of_cell? w _ hx221_13)).trans hx221_13
                                      replace hx221_14 := (HB.out.cell (World.block_lt_of_cell? w _ hx221_14)).trans hx221_14
                                      replace hx221_15 := (HB.out.cell (World.block_lt_of_cell? w _ hx221_15)).trans hx221_15
                                      replace hx221_16 := (HB.out.cell (World.block_lt_of_cell? w _ hx221_16)).trans hx221_16
                                      have HR221_2 := Aside0.mk hi221_2
                                      have HC221_2 := Aside0.mk hl221_2
                                      clear hi221_2 hl221_2
                                      have HR221_16 := Aside0.mk hi221_16
                                      have HC221_16 := Aside0.mk hl221_16
                                      clear hi221_16 hl221_16
                                      replace p221 := eq_true p221
                                      replace q221 := eq_true q221
                                      have ea_ := Option.some.inj (hx219_2.symm.trans hx221_2)
                                      injection ea_ with ea_ en_ ec_
                                      subst ea_
                                      subst ec_
                                      clear en_
                                      have ea_ := Option.some.inj (hx219_16.symm.trans hx221_16)
                                      injection ea_ with ea_ en_ ec_
                                      subst ea_
                                      subst ec_
                                      clear en_
                                      go_wp2
                                      go_ret
                                      exact ⟨by first | rfl | (simp [errW_none, errW_some] <;> rfl) | (simp [*, errW_none, errW_some] <;> rfl), by repeat (first | (with_reducible first | exact HB.out | apply below_alloc | apply pw_below_drewN | apply below_drew1 | refine below_set ?_ GE216.out | refine below_set ?_ GE218.out) | exact HB.out)⟩
                                    · rw [if_neg c33] at H
                                      have c33b0 : decide (10 < (((rd_T43 ((rd_T51 l0_0 x26_2).f2) x49_4).f1.f1).length : Int)) = false := decide_eq_false c33
                                      have c33b1 : decide (10 < ((rd_T43 ((rd_T51 l0_0 x26_2).f2) x49_4).f1.f1).length) = false := decide_eq_false (by omega)
                                      clear c33
                                      by_cases c36 : (wrap64 (x7_4 + (((rd_T43 ((rd_T51 l0_0 x26_2).f2) x49_4).f6).length : Int))) > 60
                                      · rw [if_pos c36] at H
                                        have c36b0 : decide (60 < (wrap64 (x7_4 + (((rd_T43 ((rd_T51 l0_0 x26_2).f2) x49_4).f6).length : Int)))) = true := decide_eq_true c36
                                        clear c36
                                        obtain rfl := Option.some.inj H
                                        have hnb37 := NB218_216.out
                                        have hnc37 := NB216_218.out
                                        have hcz38_0 : wr.cell? ⟨gb218, 0, none⟩ = some (.string ((rd_T51 l0_0 x26_2).f0.f0)) := (blk_cell BK218.out 0).trans rfl
                                        have hcz38_1 : wr.cell? ⟨gb218, 1, none⟩ = some (.slice A217_1 ((rd_T51 l0_0 x26_2).f0.f1).length c217_1) := (blk_cell BK218.out 1).trans rfl
                                        have hcz38_2 : wr.cell? ⟨gb218, 2, none⟩ = some (.int .i64 ((rd_T51 l0_0 x26_2).f1)) := (blk_cell BK218.out 2).trans rfl
                                        have hcz38_3 : wr.cell? ⟨gb218, 3, none⟩ = some (.slice A217_3 ((rd_T51 l0_0 x26_2).f2).length c217_3) := (blk_cell BK218.out 3).trans rfl
                                        have hfz38_0 := blk_frozen BK218.out 0
                                        have hfz38_1 := blk_frozen BK218.out 1
                                        have hfz38_2 := blk_frozen BK218.out 2
                                        have hfz38_3 := blk_frozen BK218.out 3
                                        have p219 : 0 ≤ (x49_4 : Int) := of_decide_eq_true (by first | (with_reducible assumption) | assumption)
                                        have q219 : x49_4 < (((rd_T51 l0_0 x26_2).f2).length : Int) := of_decide_eq_true (by first | (with_reducible assumption) | assumption)
                                        obtain ⟨ad219, A219_2, c219_2, A219_16, c219_16, e219, hx219_0, hx219_1, hx219_2, hx219_3, hx219_4, hx219_5, hx219_6, hx219_7, hx219_8, hx219_9, hx219_10, hx219_11, hx219_12, hx219_13, hx219_14, hx219_15, hx219_16, hl219_2, hi219_2, hl219_16, hi219_16⟩ := at_T43 HR217_3.out x49_4 p219 q219
                                        cases e219
                                        replace hx219_0 := (HB.out.cell (World.block_lt_of_cell? w _ hx219_0)).trans hx219_0
                                        replace hx219_1 := (HB.out.cell (World.block_lt_of_cell? w _ hx219_1)).trans hx219_1
                                        replace hx219_2 := (HB.out.cell (World.block_lt_of_cell? w _ hx219_2)).trans hx219_2
                                        replace hx219_3 := (HB.out.cell (World.block_lt_of_cell? w _ hx219_3)).trans hx219_3
                                        replace hx219_4 := (HB.out.cell (World.block_lt_of_cell? w _ hx219_4)).trans hx219_4
                                        replace hx219_5 := (HB.out.cell (World.block_lt_of_cell? w _ hx219_5)).trans hx219_5
                                        replace hx219_6 := (HB.out.cell (World.block_lt_of_cell? w _ hx219_6)).trans hx219_6
                                        replace hx219_7 := (HB.out.cell (World.block_lt_of_cell? w _ hx219_7)).trans hx219_7
                                        replace hx219_8 := (HB.out.cell (World.block_lt_of_cell? w _ hx219_8)).trans hx219_8
                                        replace hx219_9 := (HB.out.cell (World.block_lt_of_cell? w _ hx219_9)).trans hx219_9
                                        replace hx219_10 := (HB.out.cell (World.block_lt_of_cell? w _ hx219_10)).trans hx219_10
                                        replace hx219_11 := (HB.out.cell (World.block_lt_of_cell? w _ hx219_11)).trans hx219_11
                                        replace hx219_12 := (HB.out.cell (World.block_lt_of_cell? w _ hx219_12)).trans hx219_12
                                        replace hx219_13 := (HB.out.cell (World.block_lt_of_cell? w _ hx219_13)).trans hx219_13
                                        replace hx219_14 := (HB.out.cell (World.block_lt_of_cell? w _ hx219_14)).trans hx219_14
                                        replace hx219_15 := (HB.out.cell (World.block_lt_of_cell? w _ hx219_15)).trans hx219_15
                                        replace hx219_16 := (HB.out.cell (World.block_lt_of_cell? w _ hx219_16)).trans hx219_16
                                        have HR219_2 := Aside0.mk hi219_2
                                        have HC219_2 := Aside0.mk hl219_2
                                        clear hi219_2 hl219_2
                                        have HR219_16 := Aside0.mk hi219_16
                                        have HC219_16 := Aside0.mk hl219_16
                                        clear hi219_16 hl219_16
                                        replace p219 := eq_true p219
                                        replace q219 := eq_true q219
                                        have p220 : 0 ≤ (x49_4 : Int) := of_decide_eq_true (by first | (with_reducible assumption) | assumption)
                                        have q220 : x49_4 < (((rd_T51 l0_0 x26_2).f2).length : Int) := of_decide_eq_true (by first | (with_reducible assumption) | assumption)
                                        obtain ⟨ad220, A220_2, c220_2, A220_16, c220_16, e220, hx220_0, hx220_1, hx220_2, hx220_3, hx220_4, hx220_5, hx220_6, hx220_7, hx220_8, hx220_9, hx220_10, hx220_11, hx220_12, hx220_13, hx220_14, hx220_15, hx220_16, hl220_2, hi220_2, hl220_16, hi220_16⟩ := at_T43 HR217_3.out x49_4 p220 q220
                                        obtain rfl : ad219 = ad220 := (by injection e220)
                                        replace hx220_0 := (HB.out.cell (World.block_lt_of_cell? w _ hx220_0)).trans hx220_0
                                        replace hx220_1 := (HB.out.cell (World.block_lt_of_cell? w _ hx220_1)).trans hx220_1
                                        replace hx220_2 := (HB.out.cell (World.block_lt_of_cell? w _ hx220_2)).trans hx220_2
                                        replace hx220_3 := (HB.out.cell (World.block_lt_of_cell? w _ hx220_3)).trans hx220_3
                                        replace hx220_4 := (HB.out.cell (World.block_lt_of_cell? w _ hx220_4)).trans hx220_4
                                        replace hx220_5 := (HB.out.cell (World.block_lt_of_cell? w _ hx220_5)).trans hx220_5
                                        replace hx220_6 := (HB.out.cell (World.block_lt_of_cell? w _ hx220_6)).trans hx220_6
                                        replace hx220_7 := (HB.out.cell (World.block_lt_of_cell? w _ hx220_7)).trans hx220_7
                                        replace hx220_8 := (HB.out.cell (World.block_lt_of_cell? w _ hx220_8)).trans hx220_8
                                        replace hx220_9 := (HB.out.cell (World.block_lt_of_cell? w _ hx220_9)).trans hx220_9
                                        replace hx220_10 := (HB.out.cell (World.block_lt_of_cell? w _ hx220_10)).trans hx220_10
                                        replace hx220_11 := (HB.out.cell (World.block_lt_of_cell? w _ hx220_11)).trans hx220_11
                                        replace hx220_12 := (HB.out.cell (World.block_lt_of_cell? w _ hx220_12)).trans hx220_12
                                        replace hx220_13 := (HB.out.cell (World.block_lt_of_cell? w _ hx220_13)).trans hx220_13
                                        replace hx220_14 := (HB.out.cell (World.block_lt_of_cell? w _ hx220_14)).trans hx220_14
                                        replace hx220_15 := (HB.out.cell (World.block_lt_of_cell? w _ hx220_15)).trans hx220_15
                                        replace hx220_16 := (HB.out.cell (World.block_lt_of_cell? w _ hx220_16)).trans hx220_16
                                        have HR220_2 := Aside0.mk hi220_2
                                        have HC220_2 := Aside0.mk hl220_2
                                        clear hi220_2 hl220_2
                                        have HR220_16 := Aside0.mk hi220_16
                                        have HC220_16 := Aside0.mk hl220_16
                                        clear hi220_16 hl220_16
                                        replace p220 := eq_true p220
                                        replace q220 := eq_true q220
                                        have ea_ := Option.some.inj (hx219_2.symm.trans hx220_2)
                                        injection ea_ with ea_ en_ ec_
                                        subst ea_
                                        subst ec_
                                        clear en_
                                        have ea_ := Option.some.inj (hx219_16.symm.trans hx220_16)
                                        injection ea_ with ea_ en_ ec_
                                        subst ea_
                                        subst ec_
                                        clear en_
                                        have p221 : 0 ≤ (x49_4 : Int) := of_decide_eq_true (by first | (with_reducible assumption) | assumption)
                                        have q221 : x49_4 < (((rd_T51 l0_0 x26_2).f2).length : Int) := of_decide_eq_true (by first | (with_reducible assumption) | assumption)
                                        obtain ⟨ad221, A221_2, c221_2, A221_16, c221_16, e221, hx221_0, hx221_1, hx221_2, hx221_3, hx221_4, hx221_5, hx221_6, hx221_7, hx221_8, hx221_9, hx221_10, hx221_11, hx221_12, hx221_13, hx221_14, hx221_15, hx221_16, hl221_2, hi221_2, hl221_16, hi221_16⟩ := at_T43 HR217_3.out x49_4 p221 q221
                                        obtain rfl : ad219 = ad221 := (by injection e221)
                                        replace hx221_0 := (HB.out.cell (World.block_lt_of_cell? w _ hx221_0)).trans hx221_0
                                        replace hx221_1 := (HB.out.cell (World.block_lt_of_cell? w _ hx221_1)).trans hx221_1
                                        replace hx221_2 := (HB.out.cell (World.block_lt_of_cell? w _ hx221_2)).trans hx221_2
                                        replace hx221_3 := (HB.out.cell (World.block_lt_of_cell? w _ hx221_3)).trans hx221_3
                                        replace hx221_4 := (HB.out.cell (World.block_lt_of_cell? w _ hx221_4)).trans hx221_4
                                        replace hx221_5 := (HB.out.cell (World.block_lt_of_cell? w _ hx221_5)).trans hx221_5
                                        replace hx221_6 := (HB.out.cell (World.block_lt_of_cell? w _ hx221_6)).trans hx221_6
                                        replace hx221_7 := (HB.out.cell (World.block_lt_of_cell? w _ hx221_7)).trans hx221_7
                                        replace hx221_8 := (HB.out.cell (World.block_lt_of_cell? w _ hx221_8)).trans hx221_8
                                        replace hx221_9 := (HB.out.cell (World.block_lt_of_cell? w _ hx221_9)).trans hx221_9
                                        replace hx221_10 := (HB.out.cell (World.block_lt_of_cell? w _ hx221_10)).trans hx221_10
                                        replace hx221_11 := (HB.out.cell (World.block_lt_of_cell? w _ hx221_11)).trans hx221_11
                                        replace hx221_12 := (HB.out.cell (World.block_lt_of_cell? w _ hx221_12)).trans hx221_12
                                        replace hx221_13 := (HB.out.cell (World.block_lt_of_cell? w _ hx221_13)).trans hx221_13
                                        replace hx221_14 := (HB.out.cell (World.block_lt_of_cell? w _ hx221_14)).trans hx221_14
                                        replace hx221_15 := (HB.out.cell (World.block_lt_of_cell? w _ hx221_15)).trans hx221_15
                                        replace hx221_16 := (HB.out.cell (World.block_lt_of_cell? w _ hx221_16)).trans hx221_16
                                        have HR221_2 := Aside0.mk hi221_2
                                        have HC221_2 := Aside0.mk hl221_2
                                        clear hi221_2 hl221_2
                                        have HR221_16 := Aside0.mk hi221_16
                                        have HC221_16 := Aside0.mk hl221_16
                                        clear hi221_16 hl221_16
                                        replace p221 := eq_true p221
                                        replace q221 := eq_true q221
                                        have ea_ := Option.some.inj (hx219_2.symm.trans hx221_2)
                                        injection ea_ with ea_ en_ ec_
                                        subst ea_
                                        subst ec_
                                        clear en_
                                        have ea_ := Option.some.inj (hx219_16.symm.trans hx221_16)
                                        injection ea_ with ea_ en_ ec_
                                        subst ea_
                                        subst ec_
                                        clear en_
                                        go_wp2
                                        go_ret
                                        exact ⟨by first | rfl | (simp [errW_none, errW_some] <;> rfl) | (simp [*, errW_none, errW_some] <;> rfl), by repeat (first | (with_reducible first | exact HB.out | apply below_alloc | apply pw_below_drewN | apply below_drew1 | refine below_set ?_ GE216.out | refine below_set ?_ GE218.out) | exact HB.out)⟩
                                      · rw [if_neg c36] at H
                                        have c36b0 : decide (60 < (wrap64 (x7_4 + (((rd_T43 ((rd_T51 l0_0 x26_2).f2) x49_4).f6).length : Int)))) = false := decide_eq_false c36
                                        clear c36
                                        have H' := Aside0.mk H
                                        clear H
                                        have hnb39 := NB218_216.out
                                        have hnc39 := NB216_218.out
                                        have hcz40_0 : wr.cell? ⟨gb218, 0, none⟩ = some (.string ((rd_T51 l0_0 x26_2).f0.f0)) := (blk_cell BK218.out 0).trans rfl
                                        have hcz40_1 : wr.cell? ⟨gb218, 1, none⟩ = some (.slice A217_1 ((rd_T51 l0_0 x26_2).f0.f1).length c217_1) := (blk_cell BK218.out 1).trans rfl
                                        have hcz40_2 : wr.cell? ⟨gb218, 2, none⟩ = some (.int .i64 ((rd_T51 l0_0 x26_2).f1)) := (blk_cell BK218.out 2).trans rfl
                                        have hcz40_3 : wr.cell? ⟨gb218, 3, none⟩ = some (.slice A217_3 ((rd_T51 l0_0 x26_2).f2).length c217_3) := (blk_cell BK218.out 3).trans rfl
                                        have hfz40_0 := blk_frozen BK218.out 0
                                        have hfz40_1 := blk_frozen BK218.out 1
                                        have hfz40_2 := blk_frozen BK218.out 2
                                        have hfz40_3 := blk_frozen BK218.out 3
                                        have p219 : 0 ≤ (x49_4 : Int) := of_decide_eq_true (by first | (with_reducible assumption) | assumption)
                                        have q219 : x49_4 < (((rd_T51 l0_0 x26_2).f2).length : Int) := of_decide_eq_true (by first | (with_reducible assumption) | assumption)
                                        obtain ⟨ad219, A219_2, c219_2, A219_16, c219_16, e219, hx219_0, hx219_1, hx219_2, hx219_3, hx219_4, hx219_5, hx219_6, hx219_7, hx219_8, hx219_9, hx219_10, hx219_11, hx219_12, hx219_13, hx219_14, hx219_15, hx219_16, hl219_2, hi219_2, hl219_16, hi219_16⟩ := at_T43 HR217_3.out x49_4 p219 q219
                                        cases e219
                                        replace hx219_0 := (HB.out.cell (World.block_lt_of_cell? w _ hx219_0)).trans hx219_0
                                        replace hx219_1 := (HB.out.cell (World.block_lt_of_cell? w _ hx219_1)).trans hx219_1
                                        replace hx219_2 := (HB.out.cell (World.block_lt_of_cell? w _ hx219_2)).trans hx219_2
                                        replace hx219_3 := (HB.out.cell (World.block_lt_of_cell? w _ hx219_3)).trans hx219_3
                                        replace hx219_4 := (HB.out.cell (World.block_lt_of_cell? w _ hx219_4)).trans hx219_4
                                        replace hx219_5 := (HB.out.cell (World.block_lt_of_cell? w _ hx219_5)).trans hx219_5
                                        replace hx219_6 := (HB.out.cell (World.block_lt_of_cell? w _ hx219_6)).trans hx219_6
                                        replace hx219_7 := (HB.out.cell (World.block_lt_of_cell? w _ hx219_7)).trans hx219_7
                                        replace hx219_8 := (HB.out.cell (World.block_lt_of_cell? w _ hx219_8)).trans hx219_8
                                        replace hx219_9 := (HB.out.cell (World.block_lt_of_cell? w _ hx219_9)).trans hx219_9
                                        replace hx219_10 := (HB.out.cell (World.block_lt_of_cell? w _ hx219_10)).trans hx219_10
                                        replace hx219_11 := (HB.out.cell (World.block_lt_of_cell? w _ hx219_11)).trans hx219_11
                                        replace hx219_12 := (HB.out.cell (World.block_lt_of_cell? w _ hx219_12)).trans hx219_12
                                        replace hx219_13 := (HB.out.cell (World.block_lt_of_cell? w _ hx219_13)).trans hx219_13
                                        replace hx219_14 := (HB.out.cell (World.block_lt_of_cell? w _ hx219_14)).trans hx219_14
                                        replace hx219_15 := (HB.out.cell (World.block_lt_of_cell? w _ hx219_15)).trans hx219_15
                                        replace hx219_16 := (HB.out.cell (World.block_lt_of_cell? w _ hx219_16)).trans hx219_16
                                        have HR219_2 := Aside0.mk hi219_2
                                        have HC219_2 := Aside0.mk hl219_2
                                        clear hi219_2 hl219_2
                                        have HR219_16 := Aside0.mk hi219_16
                                        have HC219_16 := Aside0.mk hl219_16
                                        clear hi219_16 hl219_16
                                        replace p219 := eq_true p219
                                        replace q219 := eq_true q219
                                        have p220 : 0 ≤ (x49_4 : Int) := of_decide_eq_true (by first | (with_reducible assumption) | assumption)
                                        have q220 : x49_4 < (((rd_T51 l0_0 x26_2).f2).length : Int) := of_decide_eq_true (by first | (with_reducible assumption) | assumption)
                                        obtain ⟨ad220, A220_2, c220_2, A220_16, c220_16, e220, hx220_0, hx220_1, hx220_2, hx220_3, hx220_4, hx220_5, hx220_6, hx220_7, hx220_8, hx220_9, hx220_10, hx220_11, hx220_12, hx220_13, hx220_14, hx220_15, hx220_16, hl220_2, hi220_2, hl220_16, hi220_16⟩ := at_T43 HR217_3.out x49_4 p220 q220
                                        obtain rfl : ad219 = ad220 := (by injection e220)
                                        replace hx220_0 := (HB.out.cell (World.block_lt_of_cell? w _ hx220_0)).trans hx220_0
                                        replace hx220_1 := (HB.out.cell (World.block_lt_of_cell? w _ hx220_1)).trans hx220_1
                                        replace hx220_2 := (HB.out.cell (World.block_lt_of_cell? w _ hx220_2)).trans hx220_2
                                        replace hx220_3 := (HB.out.cell (World.block_lt_of_cell? w _ hx220_3)).trans hx220_3
                                        replace hx220_4 := (HB.out.cell (World.block_lt_of_cell? w _ hx220_4)).trans hx220_4
                                        replace hx220_5 := (HB.out.cell (World.block_lt_of_cell? w _ hx220_5)).trans hx220_5
                                        replace hx220_6 := (HB.out.cell (World.block_lt_of_cell? w _ hx220_6)).trans hx220_6
                                        replace hx220_7 := (HB.out.cell (World.block_lt_of_cell? w _ hx220_7)).trans hx220_7
                                        replace hx220_8 := (HB.out.cell (World.block_lt_of_cell? w _ hx220_8)).trans hx220_8
                                        replace hx220_9 := (HB.out.cell (World.block_lt_of_cell? w _ hx220_9)).trans hx220_9
                                        replace hx220_10 := (HB.out.cell (World.block_lt_of_cell? w _ hx220_10)).trans hx220_10
                                        replace hx220_11 := (HB.out.cell (World.block_lt_of_cell? w _ hx220_11)).trans hx220_11
                                        replace hx220_12 := (HB.out.cell (World.block_lt_of_cell? w _ hx220_12)).trans hx220_12
                                        replace hx220_13 := (HB.out.cell (World.block_lt_of_cell? w _ hx220_13)).trans hx220_13
                                        replace hx220_14 := (HB.out.cell (World.block_lt_of_cell? w _ hx220_14)).trans hx220_14
                                        replace hx220_15 := (HB.out.cell (World.block_lt_of_cell? w _ hx220_15)).trans hx220_15
                                        replace hx220_16 := (HB.out.cell (World.block_lt_of_cell? w _ hx220_16)).trans hx220_16
                                        have HR220_2 := Aside0.mk hi220_2
                                        have HC220_2 := Aside0.mk hl220_2
                                        clear hi220_2 hl220_2
                                        have HR220_16 := Aside0.mk hi220_16
                                        have HC220_16 := Aside0.mk hl220_16
                                        clear hi220_16 hl220_16
                                        replace p220 := eq_true p220
                                        replace q220 := eq_true q220
                                        have ea_ := Option.some.inj (hx219_2.symm.trans hx220_2)
                                        injection ea_ with ea_ en_ ec_
                                        subst ea_
                                        subst ec_
                                        clear en_
                                        have ea_ := Option.some.inj (hx219_16.symm.trans hx220_16)
                                        injection ea_ with ea_ en_ ec_
                                        subst ea_
                                        subst ec_
                                        clear en_
                                        have p221 : 0 ≤ (x49_4 : Int) := of_decide_eq_true (by first | (with_reducible assumption) | assumption)
                                        have q221 : x49_4 < (((rd_T51 l0_0 x26_2).f2).length : Int) := of_decide_eq_true (by first | (with_reducible assumption) | assumption)
                                        obtain ⟨ad221, A221_2, c221_2, A221_16, c221_16, e221, hx221_0, hx221_1, hx221_2, hx221_3, hx221_4, hx221_5, hx221_6, hx221_7, hx221_8, hx221_9, hx221_10, hx221_11, hx221_12, hx221_13, hx221_14, hx221_15, hx221_16, hl221_2, hi221_2, hl221_16, hi221_16⟩ := at_T43 HR217_3.out x49_4 p221 q221
                                        obtain rfl : ad219 = ad221 := (by injection e221)
                                        replace hx221_0 := (HB.out.cell (World.block_lt_of_cell? w _ hx221_0)).trans hx221_0
                                        replace hx221_1 := (HB.out.cell (World.block_lt_of_cell? w _ hx221_1)).trans hx221_1
                                        replace hx221_2 := (HB.out.cell (World.block_lt_of_cell? w _ hx221_2)).trans hx221_2
                                        replace hx221_3 := (HB.out.cell (World.block_lt_of_cell? w _ hx221_3)).trans hx221_3
                                        replace hx221_4 := (HB.out.cell (World.block_lt_of_cell? w _ hx221_4)).trans hx221_4
                                        replace hx221_5 := (HB.out.cell (World.block_lt_of_cell? w _ hx221_5)).trans hx221_5
                                        replace hx221_6 := (HB.out.cell (World.block_lt_of_cell? w _ hx221_6)).trans hx221_6
                                        replace hx221_7 := (HB.out.cell (World.block_lt_of_cell? w _ hx221_7)).trans hx221_7
                                        replace hx221_8 := (HB.out.cell (World.block_lt_of_cell? w _ hx221_8)).trans hx221_8
                                        replace hx221_9 := (HB.out.cell (World.block_lt_of_cell? w _ hx221_9)).trans hx221_9
                                        replace hx221_10 := (HB.out.cell (World.block_lt_of_cell? w _ hx221_10)).trans hx221_10
                                        replace hx221_11 := (HB.out.cell (World.block_lt_of_cell? w _ hx221_11)).trans hx221_11
                                        replace hx221_12 := (HB.out.cell (World.block_lt_of_cell? w _ hx221_12)).trans hx221_12
                                        replace hx221_13 := (HB.out.cell (World.block_lt_of_cell? w _ hx221_13)).trans hx221_13
                                        replace hx221_14 := (HB.out.cell (World.block_lt_of_cell? w _ hx221_14)).trans hx221_14
                                        replace hx221_15 := (HB.out.cell (World.block_lt_of_cell? w _ hx221_15)).trans hx221_15
                                        replace hx221_16 := (HB.out.cell (World.block_lt_of_cell? w _ hx221_16)).trans hx221_16
                                        have HR221_2 := Aside0.mk hi221_2
                                        have HC221_2 := Aside0.mk hl221_2
                                        clear hi221_2 hl221_2
                                        have HR221_16 := Aside0.mk hi221_16
                                        have HC221_16 := Aside0.mk hl221_16
                                        clear hi221_16 hl221_16
                                        replace p221 := eq_true p221
                                        replace q221 := eq_true q221
                                        have ea_ := Option.some.inj (hx219_2.symm.trans hx221_2)
                                        injection ea_ with ea_ en_ ec_
                                        subst ea_
                                        subst ec_
                                        clear en_
                                        have ea_ := Option.some.inj (hx219_16.symm.trans hx221_16)
                                        injection ea_ with ea_ en_ ec_
                                        subst ea_
                                        subst ec_
                                        clear en_
                                        go_wp2
                                        go_roundg k4
                                        case measure => have := HJ3.out; have := HK2.out; have := HJ13.out; have := HK4.out; omega
                                        case rel => exact ⟨(wrap64 (x7_4 + (((rd_T43 ((rd_T51 l0_0 x26_2).f2) x49_4).f6).length : Int))), (wrap64 (x49_4 + 1)), (by first | rfl | (simp; done) | (simp [*]; done)), (by first | rfl | (simp; done) | (simp [*]; done)), H', ⟨by have := HJ3.out; have := HK2.out; have := HJ13.out; have := HK4.out; omega⟩, ⟨by (with_reducible repeat (first | refine blk_drewN ?_ _ | refine blk_drew ?_ | refine blk_alloc ?_ _)); exact BK216.out⟩, ⟨by (with_reducible repeat (first | refine blk_drewN ?_ _ | refine blk_drew ?_ | refine blk_alloc ?_ _)); exact BK218.out⟩, ⟨by repeat (first | (with_reducible first | exact HB.out | apply below_alloc | apply pw_below_drewN | apply below_drew1 | refine below_set ?_ GE216.out | refine below_set ?_ GE218.out) | exact HB.out)⟩⟩
                                · rw [if_neg c29] at H
                                  exact absurd H (by simp)
                              · rw [if_neg c28] at H
                                exact absurd H (by simp)
                            · rw [if_neg c27] at H
                              have c27b0 : decide (x49_4 < (((rd_T51 l0_0 x26_2).f2).length : Int)) = false := decide_eq_false c27
                              clear c27
                              have H' := Aside0.mk H
                              clear H
                              go_wp2
                              go_roundg k4
                              case measure => have := HJ3.out; have := HK2.out; have := HJ13.out; have := HK4.out; omega
                              case rel => exact ⟨(x7_4), (wrap64 (x26_2 + 1)), (by first | rfl | (simp; done) | (simp [*]; done)), (by first | rfl | (simp; done) | (simp [*]; done)), H', ⟨by have := HJ3.out; have := HK2.out; have := HJ13.out; have := HK4.out; omega⟩, ⟨by (with_reducible repeat (first | refine blk_drewN ?_ _ | refine blk_drew ?_ | refine blk_alloc ?_ _)); exact BK216.out⟩, ⟨by repeat (first | (with_reducible first | exact HB.out | apply below_alloc | apply pw_below_drewN | apply below_drew1 | refine below_set ?_ GE216.out | refine below_set ?_ GE218.out) | exact HB.out)⟩⟩
                · rw [if_neg c13] at H
                  exact absurd H (by simp)
              · rw [if_neg c12] at H
                exact absurd H (by simp)
            · rw [if_neg c11] at H
              have c11b0 : decide (x26_2 < (l0_0.length : Int)) = false := decide_eq_false c11
              clear c11
              obtain rfl := Option.some.inj H
              go_wp2
              go_ret
              exact ⟨by first | rfl | (simp [errW_none, errW_some] <;> rfl) | (simp [*, errW_none, errW_some] <;> rfl), by repeat (first | (with_reducible first | exact HB.out | apply below_alloc | apply pw_below_drewN | apply below_drew1 | refine below_set ?_ GE216.out) | exact HB.out)⟩

end Go.Proofs.Ytmgbfgloegcloaa.Ps
