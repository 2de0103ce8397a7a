-- printed by a program of this session out of the translation
import Derived.Test.YtmgbfgloegcloaaPsD
import Derived.Test.YtmgbfgloegcloaaPs17
import Derived.Test.YtmgbfgloegcloaaPs18
import Derived.Test.YtmgbfgloegcloaaPs19
namespace Go.Proofs.Ytmgbfgloegcloaa.Ps
open Go.RowKit Go.Proofs.YtmgbfgloegcloaaW.PrintWords Go.Proofs.YtmgbfgloegcloaaW.PrintLast Go.Proofs.YtmgbfgloegcloaaW.PrintMore
attribute [local go_sem] max2_int min2_int max_two min_two max_three min_three max_four min_four   -- for this text's walks alone
set_option linter.unusedVariables false
set_option linter.unusedSimpArgs false

def antecedentref11_Ready.T11 : Bool × List (List Nat × List Nat) := (true, [([], []), ([0], [0]), ([], []), ([1, 2], [1, 2]), ([], []), ([4], [4]), ([], []), ([5, 6, 3], [5, 6]), ([3, 7, 0, 1, 2, 3], [3]), ([7, 8, 0, 1, 2, 3, 4, 5, 6, 7, 8], [7])])
def antecedentref11_Ready.B11 : List Nat := [0, 1, 0, 7, 0, 16, 0, 127, 255, 511]
theorem antecedentref11_Ready.tab11 : rtab .any (opsOf Try.f29 11) = antecedentref11_Ready.T11 := by kernel_rfl
theorem antecedentref11_Ready.bits11 : waitsOk antecedentref11_Ready.T11.2 antecedentref11_Ready.B11 = true := by kernel_rfl
set_option maxHeartbeats 8000000 in
set_option maxRecDepth 100000 in
theorem antecedentref11_Ready.calls (k : Nat) (a0_0 : Int) (a0_1 : ByteArray) (A0_2 : Option Addr) (c0_2 : Nat) (l0_2 : List (S40)) (a0_3 : ByteArray) (a0_4 : ByteArray) (a0_5 : Int) (a0_6 : Int) (a0_7 : ByteArray) (a0_8 : ByteArray) (a0_9 : Int) (a0_10 : Int) (a0_11 : ByteArray) (a0_12 : ByteArray) (a0_13 : Int) (a0_14 : Int) (a0_15 : ByteArray) (A0_16 : Option Addr) (c0_16 : Nat) (l0_16 : List (S82)) (A1 : Option Addr) (c1 : Nat) (l1 : List ByteArray) (r : Bool) (w : World) (hr0_2 : Kd.C k40 w A0_2 l0_2.length l0_2) (hc0_2 : l0_2.length ≤ c0_2) (hr0_16 : Kd.C k82 w A0_16 l0_16.length l0_16) (hc0_16 : l0_16.length ≤ c0_16) (hr1 : Kd.C Kd.string w A1 l1.length l1) (hc1 : l1.length ≤ c1) (h : antecedentref11_Ready.f k a0_0 a0_1 l0_2 a0_3 a0_4 a0_5 a0_6 a0_7 a0_8 a0_9 a0_10 a0_11 a0_12 a0_13 a0_14 a0_15 l0_16 l1 = some r) :
    Calls Try.prog 29 #[.agg #[.int .i64 a0_0, .string a0_1, .slice A0_2 l0_2.length c0_2, .string a0_3, .string a0_4, .int .i64 a0_5, .int .i64 a0_6, .string a0_7, .string a0_8, .int .i64 a0_9, .int .i64 a0_10, .string a0_11, .string a0_12, .int .i64 a0_13, .int .i64 a0_14, .string a0_15, .slice A0_16 l0_16.length c0_16], .slice A1 l1.length c1] w fun e w' => e = .returned (.bool r) ∧ Below w.heap.size w w' := by
  have hu43 := Try.underlying43
  have hu40 := Try.underlying40
  have HR0_2 := Aside0.mk hr0_2
  have HC0_2 := Aside0.mk hc0_2
  clear hr0_2 hc0_2
  have HR0_16 := Aside0.mk hr0_16
  have HC0_16 := Aside0.mk hc0_16
  clear hr0_16 hc0_16
  have HR1 := Aside0.mk hr1
  have HC1 := Aside0.mk hc1
  clear hr1 hc1
  have HB := Aside0.mk (Below.refl w.heap.size w)
  have H : (if a0_0 = 2 then ((antecedentref11_Vars.f k a0_0 a0_1 l0_2 a0_3 a0_4 a0_5 a0_6 a0_7 a0_8 a0_9 a0_10 a0_11 a0_12 a0_13 a0_14 a0_15 l0_16).bind fun t283 => (antecedentref11_Ready.l0 k l1 t283 (t283.length : Int) 0)) else (if a0_0 = 3 then ((antecedentref11_is.f k a0_4 a0_5 a0_6 a0_7 l1).bind fun t288 => ((antecedentref11_is.f k a0_8 a0_9 a0_10 a0_11 l1).bind fun t289 => (if t288 = true then (if t289 = true then (some true) else (if a0_3.toList = ([61] : List UInt8) then (some true) else (some false))) else (if a0_3.toList = ([61] : List UInt8) then (some t289) else (some false))))) else (if a0_0 = 4 then ((antecedentref11_is.f k a0_8 a0_9 a0_10 a0_11 l1).bind fun t290 => (if t290 = true then ((antecedentref11_is.f k a0_12 a0_13 a0_14 a0_15 l1).bind fun t291 => (some t291)) else (some false))) else (some true)))) = some r := h
  clear h
  by_cases c3 : a0_0 = 2
  · rw [if_pos c3] at H
    have c3b0 : (a0_0 == 2) = true := beq_iff_eq.mpr c3
    have c3b1 : (a0_0 != 2) = false := bne_eq_false_iff_eq.mpr c3
    clear c3
    replace H := Option.bind_eq_some_iff.mp H
    obtain ⟨t283, A40, H⟩ := H
    replace H : (antecedentref11_Ready.l0 k l1 t283 (t283.length : Int) 0) = some r := H
    have A4 := Aside0.mk A40
    clear A40
    have H' := Aside0.mk H
    clear H
    go_enter Try.func29, Try.ntmps29
    go_wp2_with (first | ((with_reducible refine gate_dst (N := 2) rfl ?_); refine box_event ?hg (N := 2) ?hd (cs := #[.int .i64 a0_0, .string a0_1, .slice A0_2 l0_2.length c0_2, .string a0_3, .string a0_4, .int .i64 a0_5, .int .i64 a0_6, .string a0_7, .string a0_8, .int .i64 a0_9, .int .i64 a0_10, .string a0_11, .string a0_12, .int .i64 a0_13, .int .i64 a0_14, .string a0_15, .slice A0_16 l0_16.length c0_16]) (t := 43) ?hr ?_; (case hd => rfl); (case hg => rfl); (case hr => first | (go_simp; done) | (go_simp; rfl)); intro gb282 hg w5 hbox hb; have n0_ := Aside0.mk (below_step (by repeat (first | (with_reducible first | exact HB.out | apply below_alloc | apply pw_below_drewN | apply below_drew1) | exact HB.out)) hb); have n1_ := Aside0.mk (hbox); have n2_ := Aside0.mk ((by rw [hg]; exact (below_size (by repeat (first | (with_reducible first | exact HB.out | apply below_alloc | apply pw_below_drewN | apply below_drew1) | exact HB.out))) : w.heap.size ≤ gb282)); have n3_ := Aside0.mk ((by rw [hg]; exact (below_size (by repeat (first | (with_reducible first | exact HB.out | apply below_alloc | apply pw_below_drewN | apply below_drew1) | exact HB.out))) : w.heap.size ≤ gb282)); clear HB; have HB := n0_; have BK282 := n1_; have GW282 := n2_; have GE282 := n3_; clear n0_ n1_ n2_ n3_; clear hb hbox hg; have hcz6_0 : w5.cell? ⟨gb282, 0, none⟩ = some (.int .i64 a0_0) := (blk_cell BK282.out 0).trans rfl; have hcz6_1 : w5.cell? ⟨gb282, 1, none⟩ = some (.string a0_1) := (blk_cell BK282.out 1).trans rfl; have hcz6_2 : w5.cell? ⟨gb282, 2, none⟩ = some (.slice A0_2 l0_2.length c0_2) := (blk_cell BK282.out 2).trans rfl; have hcz6_3 : w5.cell? ⟨gb282, 3, none⟩ = some (.string a0_3) := (blk_cell BK282.out 3).trans rfl; have hcz6_4 : w5.cell? ⟨gb282, 4, none⟩ = some (.string a0_4) := (blk_cell BK282.out 4).trans rfl; have hcz6_5 : w5.cell? ⟨gb282, 5, none⟩ = some (.int .i64 a0_5) := (blk_cell BK282.out 5).trans rfl; have hcz6_6 : w5.cell? ⟨gb282, 6, none⟩ = some (.int .i64 a0_6) := (blk_cell BK282.out 6).trans rfl; have hcz6_7 : w5.cell? ⟨gb282, 7, none⟩ = some (.string a0_7) := (blk_cell BK282.out 7).trans rfl; have hcz6_8 : w5.cell? ⟨gb282, 8, none⟩ = some (.string a0_8) := (blk_cell BK282.out 8).trans rfl; have hcz6_9 : w5.cell? ⟨gb282, 9, none⟩ = some (.int .i64 a0_9) := (blk_cell BK282.out 9).trans rfl; have hcz6_10 : w5.cell? ⟨gb282, 10, none⟩ = some (.int .i64 a0_10) := (blk_cell BK282.out 10).trans rfl; have hcz6_11 : w5.cell? ⟨gb282, 11, none⟩ = some (.string a0_11) := (blk_cell BK282.out 11).trans rfl; have hcz6_12 : w5.cell? ⟨gb282, 12, none⟩ = some (.string a0_12) := (blk_cell BK282.out 12).trans rfl; have hcz6_13 : w5.cell? ⟨gb282, 13, none⟩ = some (.int .i64 a0_13) := (blk_cell BK282.out 13).trans rfl; have hcz6_14 : w5.cell? ⟨gb282, 14, none⟩ = some (.int .i64 a0_14) := (blk_cell BK282.out 14).trans rfl; have hcz6_15 : w5.cell? ⟨gb282, 15, none⟩ = some (.string a0_15) := (blk_cell BK282.out 15).trans rfl; have hcz6_16 : w5.cell? ⟨gb282, 16, none⟩ = some (.slice A0_16 l0_16.length c0_16) := (blk_cell BK282.out 16).trans rfl; have hfz6_0 := blk_frozen BK282.out 0; have hfz6_1 := blk_frozen BK282.out 1; have hfz6_2 := blk_frozen BK282.out 2; have hfz6_3 := blk_frozen BK282.out 3; have hfz6_4 := blk_frozen BK282.out 4; have hfz6_5 := blk_frozen BK282.out 5; have hfz6_6 := blk_frozen BK282.out 6; have hfz6_7 := blk_frozen BK282.out 7; have hfz6_8 := blk_frozen BK282.out 8; have hfz6_9 := blk_frozen BK282.out 9; have hfz6_10 := blk_frozen BK282.out 10; have hfz6_11 := blk_frozen BK282.out 11; have hfz6_12 := blk_frozen BK282.out 12; have hfz6_13 := blk_frozen BK282.out 13; have hfz6_14 := blk_frozen BK282.out 14; have hfz6_15 := blk_frozen BK282.out 15; have hfz6_16 := blk_frozen BK282.out 16) | ((with_reducible refine gate_callee (f := 15) rfl ?_); refine goesL_ (some 14) rfl rfl Try.func15 (by kernel_rfl) rfl #[.agg #[.int .i64 a0_0, .string a0_1, .slice A0_2 l0_2.length c0_2, .string a0_3, .string a0_4, .int .i64 a0_5, .int .i64 a0_6, .string a0_7, .string a0_8, .int .i64 a0_9, .int .i64 a0_10, .string a0_11, .string a0_12, .int .i64 a0_13, .int .i64 a0_14, .string a0_15, .slice A0_16 l0_16.length c0_16]] rfl (by (try simp only [List.map_toArray, List.map_cons, List.map_nil]); first | done | rfl | (simp only [List.length_drop, List.length_take]; rfl)) ?_; (with_reducible refine (antecedentref11_Vars.calls k a0_0 a0_1 _ _ l0_2 a0_3 a0_4 a0_5 a0_6 a0_7 a0_8 a0_9 a0_10 a0_11 a0_12 a0_13 a0_14 a0_15 _ _ l0_16 t283 _ ?side1 ?side2 ?side3 ?side4 A4.out).mono ?_); (case side1 => repeat (first | exact (Kd.C_below HR0_2.out HB.out) | (with_reducible refine Kd.C_alloc ?_ _) | (with_reducible refine Kd.C_drewN ?_ _) | (with_reducible refine Kd.C_drew ?_))); (case side2 => exact HC0_2.out); (case side3 => repeat (first | exact (Kd.C_below HR0_16.out HB.out) | (with_reducible refine Kd.C_alloc ?_ _) | (with_reducible refine Kd.C_drewN ?_ _) | (with_reducible refine Kd.C_drew ?_))); (case side4 => exact HC0_16.out); rintro e w7 ⟨v284, rfl, ho0, hb⟩; refine ⟨_, rfl, ?_⟩; have n0_ := Aside0.mk (Kd.R_lower ho0 (below_size (by repeat (first | (with_reducible first | exact HB.out | apply below_alloc | apply pw_below_drewN | apply below_drew1 | refine below_set ?_ GE282.out) | exact HB.out)))); have n1_ := Aside0.mk (blk_below (g := gb282) (o := .cells #[.int .i64 a0_0, .string a0_1, .slice A0_2 l0_2.length c0_2, .string a0_3, .string a0_4, .int .i64 a0_5, .int .i64 a0_6, .string a0_7, .string a0_8, .int .i64 a0_9, .int .i64 a0_10, .string a0_11, .string a0_12, .int .i64 a0_13, .int .i64 a0_14, .string a0_15, .slice A0_16 l0_16.length c0_16] 43 (0, 0)) (by (with_reducible repeat (first | refine blk_drewN ?_ _ | refine blk_drew ?_ | refine blk_alloc ?_ _)); exact BK282.out) hb); have n2_ := Aside0.mk (below_step (by repeat (first | (with_reducible first | exact HB.out | apply below_alloc | apply pw_below_drewN | apply below_drew1 | refine below_set ?_ GE282.out) | exact HB.out)) hb); clear BK282; clear HB; have HO285 := n0_; have BK282 := n1_; have HB := n2_; clear n0_ n1_ n2_; (try clear hb); (try clear hb2); (try clear hk); (try clear hi); (try clear ho0); obtain ⟨Ao8, co8, eo8⟩ := Kd.R_slice HO285.out; subst eo8))
    go_loopg [17] k (fun kq v17 w' => ∃ (x17_1 : Int), v17 = .int .i64 x17_1 ∧ Aside0 (antecedentref11_Ready.l0 kq l1 t283 (t283.length : Int) x17_1 = some r) ∧ Aside0 (kq ≤ k) ∧ Aside0 (Kd.R Kd.string 9 w' w.heap.size (fun _ => True) (.slice Ao8 t283.length co8) t283) ∧ Aside0 (w'.heap[gb282]? = some (.cells #[.int .i64 a0_0, .string a0_1, (.slice A0_2 l0_2.length c0_2), .string a0_3, .string a0_4, .int .i64 a0_5, .int .i64 a0_6, .string a0_7, .string a0_8, .int .i64 a0_9, .int .i64 a0_10, .string a0_11, .string a0_12, .int .i64 a0_13, .int .i64 a0_14, .string a0_15, (.slice A0_16 l0_16.length c0_16)] 43 (0, 0))) ∧ Aside0 (Below w.heap.size w w'))
    case atStart => exact ⟨(0), (by first | rfl | (simp; done) | (simp [*]; done)), H', ⟨Nat.le_refl _⟩, ⟨by (with_reducible repeat (first | apply Kd.R_alloc | apply Kd.R_drewN | apply Kd.R_drew)); exact HO285.out⟩, ⟨by (with_reducible repeat (first | refine blk_drewN ?_ _ | refine blk_drew ?_ | refine blk_alloc ?_ _)); exact BK282.out⟩, ⟨by repeat (first | (with_reducible first | exact HB.out | apply below_alloc | apply pw_below_drewN | apply below_drew1 | refine below_set ?_ GE282.out) | exact HB.out)⟩⟩
    case round =>
      clear H'
      try clear c1
      try clear c2
      try clear p2
      try clear c3
      try clear c3b0
      try clear c3b1
      try clear hcz6_0
      try clear hcz6_1
      try clear hcz6_10
      try clear hcz6_11
      try clear hcz6_12
      try clear hcz6_13
      try clear hcz6_14
      try clear hcz6_15
      try clear hcz6_16
      try clear hcz6_2
      try clear hcz6_3
      try clear hcz6_4
      try clear hcz6_5
      try clear hcz6_6
      try clear hcz6_7
      try clear hcz6_8
      try clear hcz6_9
      try clear hfz6_0
      try clear hfz6_1
      try clear hfz6_10
      try clear hfz6_11
      try clear hfz6_12
      try clear hfz6_13
      try clear hfz6_14
      try clear hfz6_15
      try clear hfz6_16
      try clear hfz6_2
      try clear hfz6_3
      try clear hfz6_4
      try clear hfz6_5
      try clear hfz6_6
      try clear hfz6_7
      try clear hfz6_8
      try clear hfz6_9
      obtain ⟨x17_1, rfl, HA, HK1, HO_5, BK282, HB⟩ := hrel
      cases gk with
      | zero => exact absurd HA.out (by simp [antecedentref11_Ready.l0])
      | succ k1 =>
        have H := HA.out
        clear HA
        simp only [antecedentref11_Ready.l0] at H
        by_cases c9 : x17_1 < (t283.length : Int)
        · rw [if_pos c9] at H
          have c9b0 : decide (x17_1 < (t283.length : Int)) = true := decide_eq_true c9
          clear c9
          by_cases c10 : 0 ≤ x17_1
          · rw [if_pos c10] at H
            have c10b0 : decide (0 ≤ x17_1) = true := decide_eq_true c10
            clear c10
            by_cases c11 : x17_1 < (t283.length : Int)
            · rw [if_pos c11] at H
              have c11b0 : decide (x17_1 < (t283.length : Int)) = true := decide_eq_true c11
              clear c11
              replace H := Option.bind_eq_some_iff.mp H
              obtain ⟨t287, A120, H⟩ := H
              replace H : (if t287 = true then (antecedentref11_Ready.l0 k1 l1 t283 (t283.length : Int) (wrap64 (x17_1 + 1))) else (some false)) = some r := H
              have A12 := Aside0.mk A120
              clear A120
              by_cases c13 : t287 = true
              · subst c13
                have H1 : (antecedentref11_Ready.l0 k1 l1 t283 (t283.length : Int) (wrap64 (x17_1 + 1))) = some r := by rw [if_pos rfl] at H; exact H
                clear H
                have H := H1
                clear H1
                have H' := Aside0.mk H
                clear H
                have p286 : 0 ≤ (x17_1 : Int) := of_decide_eq_true (by first | (with_reducible assumption) | assumption)
                have q286 : x17_1 < (t283.length : Int) := of_decide_eq_true (by first | (with_reducible assumption) | assumption)
                obtain ⟨ad286, e286, hx286_0⟩ := Kd.at_string (Kd.R_reads' HO_5.out).2.2 x17_1 p286 q286
                cases e286
                replace p286 := eq_true p286
                replace q286 := eq_true q286
                go_wp2_with (first | ((with_reducible refine gate_callee (f := 18) rfl ?_); refine goesL_ (some 25) rfl rfl Try.func18 (by kernel_rfl) rfl #[.slice A1 l1.length c1, .string (rdOf ByteArray.empty t283 x17_1)] rfl (by (try simp only [List.map_toArray, List.map_cons, List.map_nil]); first | done | rfl | (simp only [List.length_drop, List.length_take]; rfl)) ?_; (with_reducible refine (antecedentref11_In.calls k1 _ _ l1 (rdOf ByteArray.empty t283 x17_1) true _ ?side1 ?side2 A12.out).mono ?_); (case side1 => repeat (first | exact (Kd.C_below HR1.out HB.out) | (with_reducible refine Kd.C_alloc ?_ _) | (with_reducible refine Kd.C_drewN ?_ _) | (with_reducible refine Kd.C_drew ?_))); (case side2 => exact HC1.out); rintro e w' ⟨rfl, ⟨nd, rfl⟩⟩; refine ⟨_, rfl, ?_⟩))
                go_roundg k1
                case measure => have := HK1.out; omega
                case rel => exact ⟨(wrap64 (x17_1 + 1)), (by first | rfl | (simp; done) | (simp [*]; done)), H', ⟨by have := HK1.out; omega⟩, ⟨by (with_reducible repeat (first | apply Kd.R_alloc | apply Kd.R_drewN | apply Kd.R_drew)); exact HO_5.out⟩, ⟨by (with_reducible repeat (first | refine blk_drewN ?_ _ | refine blk_drew ?_ | refine blk_alloc ?_ _)); exact BK282.out⟩, ⟨by repeat (first | (with_reducible first | exact HB.out | apply below_alloc | apply pw_below_drewN | apply below_drew1 | refine below_set ?_ GE282.out) | exact HB.out)⟩⟩
              · replace c13 := Bool.eq_false_iff.mpr c13
                subst c13
                have H1 : (some false) = some r := by rw [if_neg (show ¬ (false = true) by decide)] at H; exact H
                clear H
                have H := H1
                clear H1
                obtain rfl := Option.some.inj H
                have p286 : 0 ≤ (x17_1 : Int) := of_decide_eq_true (by first | (with_reducible assumption) | assumption)
                have q286 : x17_1 < (t283.length : Int) := of_decide_eq_true (by first | (with_reducible assumption) | assumption)
                obtain ⟨ad286, e286, hx286_0⟩ := Kd.at_string (Kd.R_reads' HO_5.out).2.2 x17_1 p286 q286
                cases e286
                replace p286 := eq_true p286
                replace q286 := eq_true q286
                go_wp2_with (first | ((with_reducible refine gate_callee (f := 18) rfl ?_); refine goesL_ (some 25) rfl rfl Try.func18 (by kernel_rfl) rfl #[.slice A1 l1.length c1, .string (rdOf ByteArray.empty t283 x17_1)] rfl (by (try simp only [List.map_toArray, List.map_cons, List.map_nil]); first | done | rfl | (simp only [List.length_drop, List.length_take]; rfl)) ?_; (with_reducible refine (antecedentref11_In.calls k1 _ _ l1 (rdOf ByteArray.empty t283 x17_1) false _ ?side1 ?side2 A12.out).mono ?_); (case side1 => repeat (first | exact (Kd.C_below HR1.out HB.out) | (with_reducible refine Kd.C_alloc ?_ _) | (with_reducible refine Kd.C_drewN ?_ _) | (with_reducible refine Kd.C_drew ?_))); (case side2 => exact HC1.out); rintro e w' ⟨rfl, ⟨nd, rfl⟩⟩; refine ⟨_, rfl, ?_⟩))
                go_ret
                exact ⟨by first | rfl | (simp [errW_none, errW_some] <;> rfl) | (simp [*, errW_none, errW_some] <;> rfl), by repeat (first | (with_reducible first | exact HB.out | apply below_alloc | apply pw_below_drewN | apply below_drew1 | refine below_set ?_ GE282.out) | exact HB.out)⟩
            · rw [if_neg c11] at H
              exact absurd H (by simp)
          · rw [if_neg c10] at H
            exact absurd H (by simp)
        · rw [if_neg c9] at H
          have c9b0 : decide (x17_1 < (t283.length : Int)) = false := decide_eq_false c9
          clear c9
          obtain rfl := Option.some.inj H
          go_wp2
          go_ret
          exact ⟨by first | rfl | (simp [errW_none, errW_some] <;> rfl) | (simp [*, errW_none, errW_some] <;> rfl), by repeat (first | (with_reducible first | exact HB.out | apply below_alloc | apply pw_below_drewN | apply below_drew1 | refine below_set ?_ GE282.out) | exact HB.out)⟩
  · rw [if_neg c3] at H
    have c3b0 : (a0_0 == 2) = false := beq_eq_false_iff_ne.mpr c3
    have c3b1 : (a0_0 != 2) = true := bne_iff_ne.mpr c3
    by_cases c14 : a0_0 = 3
    · rw [if_pos c14] at H
      have c14b0 : (a0_0 == 3) = true := beq_iff_eq.mpr c14
      have c14b1 : (a0_0 != 3) = false := bne_eq_false_iff_eq.mpr c14
      clear c14
      replace H := Option.bind_eq_some_iff.mp H
      obtain ⟨t288, A150, H⟩ := H
      replace H : ((antecedentref11_is.f k a0_8 a0_9 a0_10 a0_11 l1).bind fun t289 => (if t288 = true then (if t289 = true then (some true) else (if a0_3.toList = ([61] : List UInt8) then (some true) else (some false))) else (if a0_3.toList = ([61] : List UInt8) then (some t289) else (some false)))) = some r := H
      have A15 := Aside0.mk A150
      clear A150
      replace H := Option.bind_eq_some_iff.mp H
      obtain ⟨t289, A160, H⟩ := H
      replace H : (if t288 = true then (if t289 = true then (some true) else (if a0_3.toList = ([61] : List UInt8) then (some true) else (some false))) else (if a0_3.toList = ([61] : List UInt8) then (some t289) else (some false))) = some r := H
      have A16 := Aside0.mk A160
      clear A160
      by_cases c17 : t288 = true
      · subst c17
        have H1 : (if t289 = true then (some true) else (if a0_3.toList = ([61] : List UInt8) then (some true) else (some false))) = some r := by rw [if_pos rfl] at H; exact H
        clear H
        have H := H1
        clear H1
        by_cases c18 : t289 = true
        · subst c18
          have H1 : (some true) = some r := by rw [if_pos rfl] at H; exact H
          clear H
          have H := H1
          clear H1
          obtain rfl := Option.some.inj H
          go_enter Try.func29, Try.ntmps29
          try go_wp2_with (first | ((with_reducible refine gate_dst (N := 2) rfl ?_); refine box_event ?hg (N := 2) ?hd (cs := #[.int .i64 a0_0, .string a0_1, .slice A0_2 l0_2.length c0_2, .string a0_3, .string a0_4, .int .i64 a0_5, .int .i64 a0_6, .string a0_7, .string a0_8, .int .i64 a0_9, .int .i64 a0_10, .string a0_11, .string a0_12, .int .i64 a0_13, .int .i64 a0_14, .string a0_15, .slice A0_16 l0_16.length c0_16]) (t := 43) ?hr ?_; (case hd => rfl); (case hg => rfl); (case hr => first | (go_simp; done) | (go_simp; rfl)); intro gb282 hg w19 hbox hb; have n0_ := Aside0.mk (below_step (by repeat (first | (with_reducible first | exact HB.out | apply below_alloc | apply pw_below_drewN | apply below_drew1) | exact HB.out)) hb); have n1_ := Aside0.mk (hbox); have n2_ := Aside0.mk ((by rw [hg]; exact (below_size (by repeat (first | (with_reducible first | exact HB.out | apply below_alloc | apply pw_below_drewN | apply below_drew1) | exact HB.out))) : w.heap.size ≤ gb282)); have n3_ := Aside0.mk ((by rw [hg]; exact (below_size (by repeat (first | (with_reducible first | exact HB.out | apply below_alloc | apply pw_below_drewN | apply below_drew1) | exact HB.out))) : w.heap.size ≤ gb282)); clear HB; have HB := n0_; have BK282 := n1_; have GW282 := n2_; have GE282 := n3_; clear n0_ n1_ n2_ n3_; clear hb hbox hg; have hcz20_0 : w19.cell? ⟨gb282, 0, none⟩ = some (.int .i64 a0_0) := (blk_cell BK282.out 0).trans rfl; have hcz20_1 : w19.cell? ⟨gb282, 1, none⟩ = some (.string a0_1) := (blk_cell BK282.out 1).trans rfl; have hcz20_2 : w19.cell? ⟨gb282, 2, none⟩ = some (.slice A0_2 l0_2.length c0_2) := (blk_cell BK282.out 2).trans rfl; have hcz20_3 : w19.cell? ⟨gb282, 3, none⟩ = some (.string a0_3) := (blk_cell BK282.out 3).trans rfl; have hcz20_4 : w19.cell? ⟨gb282, 4, none⟩ = some (.string a0_4) := (blk_cell BK282.out 4).trans rfl; have hcz20_5 : w19.cell? ⟨gb282, 5, none⟩ = some (.int .i64 a0_5) := (blk_cell BK282.out 5).trans rfl; have hcz20_6 : w19.cell? ⟨gb282, 6, none⟩ = some (.int .i64 a0_6) := (blk_cell BK282.out 6).trans rfl; have hcz20_7 : w19.cell? ⟨gb282, 7, none⟩ = some (.string a0_7) := (blk_cell BK282.out 7).trans rfl; have hcz20_8 : w19.cell? ⟨gb282, 8, none⟩ = some (.string a0_8) := (blk_cell BK282.out 8).trans rfl; have hcz20_9 : w19.cell? ⟨gb282, 9, none⟩ = some (.int .i64 a0_9) := (blk_cell BK282.out 9).trans rfl; have hcz20_10 : w19.cell? ⟨gb282, 10, none⟩ = some (.int .i64 a0_10) := (blk_cell BK282.out 10).trans rfl; have hcz20_11 : w19.cell? ⟨gb282, 11, none⟩ = some (.string a0_11) := (blk_cell BK282.out 11).trans rfl; have hcz20_12 : w19.cell? ⟨gb282, 12, none⟩ = some (.string a0_12) := (blk_cell BK282.out 12).trans rfl; have hcz20_13 : w19.cell? ⟨gb282, 13, none⟩ = some (.int .i64 a0_13) := (blk_cell BK282.out 13).trans rfl; have hcz20_14 : w19.cell? ⟨gb282, 14, none⟩ = some (.int .i64 a0_14) := (blk_cell BK282.out 14).trans rfl; have hcz20_15 : w19.cell? ⟨gb282, 15, none⟩ = some (.string a0_15) := (blk_cell BK282.out 15).trans rfl; have hcz20_16 : w19.cell? ⟨gb282, 16, none⟩ = some (.slice A0_16 l0_16.length c0_16) := (blk_cell BK282.out 16).trans rfl; have hfz20_0 := blk_frozen BK282.out 0; have hfz20_1 := blk_frozen BK282.out 1; have hfz20_2 := blk_frozen BK282.out 2; have hfz20_3 := blk_frozen BK282.out 3; have hfz20_4 := blk_frozen BK282.out 4; have hfz20_5 := blk_frozen BK282.out 5; have hfz20_6 := blk_frozen BK282.out 6; have hfz20_7 := blk_frozen BK282.out 7; have hfz20_8 := blk_frozen BK282.out 8; have hfz20_9 := blk_frozen BK282.out 9; have hfz20_10 := blk_frozen BK282.out 10; have hfz20_11 := blk_frozen BK282.out 11; have hfz20_12 := blk_frozen BK282.out 12; have hfz20_13 := blk_frozen BK282.out 13; have hfz20_14 := blk_frozen BK282.out 14; have hfz20_15 := blk_frozen BK282.out 15; have hfz20_16 := blk_frozen BK282.out 16))
          have n0_ := Aside0.mk (blk_drew BK282.out)
          have n1_ := Aside0.mk (below_drew1 HB.out)
          clear BK282
          clear HB
          have BK282 := n0_
          have HB := n1_
          clear n0_ n1_
          refine start_ (n := 10) (S := fun w' => w'.cell? ⟨gb282, 0, none⟩ = some (.int .i64 a0_0) ∧ w'.cell? ⟨gb282, 1, none⟩ = some (.string a0_1) ∧ w'.cell? ⟨gb282, 2, none⟩ = some (.slice A0_2 l0_2.length c0_2) ∧ w'.cell? ⟨gb282, 3, none⟩ = some (.string a0_3) ∧ w'.cell? ⟨gb282, 4, none⟩ = some (.string a0_4) ∧ w'.cell? ⟨gb282, 5, none⟩ = some (.int .i64 a0_5) ∧ w'.cell? ⟨gb282, 6, none⟩ = some (.int .i64 a0_6) ∧ w'.cell? ⟨gb282, 7, none⟩ = some (.string a0_7) ∧ w'.cell? ⟨gb282, 8, none⟩ = some (.string a0_8) ∧ w'.cell? ⟨gb282, 9, none⟩ = some (.int .i64 a0_9) ∧ w'.cell? ⟨gb282, 10, none⟩ = some (.int .i64 a0_10) ∧ w'.cell? ⟨gb282, 11, none⟩ = some (.string a0_11) ∧ w'.cell? ⟨gb282, 12, none⟩ = some (.string a0_12) ∧ w'.cell? ⟨gb282, 13, none⟩ = some (.int .i64 a0_13) ∧ w'.cell? ⟨gb282, 14, none⟩ = some (.int .i64 a0_14) ∧ w'.cell? ⟨gb282, 15, none⟩ = some (.string a0_15) ∧ w'.cell? ⟨gb282, 16, none⟩ = some (.slice A0_16 l0_16.length c0_16)) (ds := []) #[false, false, false, false, false, false, false, false, false, false] (by kernel_rfl) rfl rfl ⟨(blk_cell BK282.out 0).trans rfl, (blk_cell BK282.out 1).trans rfl, (blk_cell BK282.out 2).trans rfl, (blk_cell BK282.out 3).trans rfl, (blk_cell BK282.out 4).trans rfl, (blk_cell BK282.out 5).trans rfl, (blk_cell BK282.out 6).trans rfl, (blk_cell BK282.out 7).trans rfl, (blk_cell BK282.out 8).trans rfl, (blk_cell BK282.out 9).trans rfl, (blk_cell BK282.out 10).trans rfl, (blk_cell BK282.out 11).trans rfl, (blk_cell BK282.out 12).trans rfl, (blk_cell BK282.out 13).trans rfl, (blk_cell BK282.out 14).trans rfl, (blk_cell BK282.out 15).trans rfl, (blk_cell BK282.out 16).trans rfl⟩ (fun hHeld => ?_); refine with_tabW antecedentref11_Ready.tab11 antecedentref11_Ready.bits11 (fun HT_ HW_ => ?_)
          generalize w19.drew = w21 at BK282 HB hHeld ⊢
          refine pure_ (i := 0) (N := some 30) (v := ?_) (a' := ?_) #[true, false, false, false, false, false, false, false, false, false] rfl rfl (any_of HT_.out (by kernel_rfl)) (fun _ _ _ h => h) (Or.inl ⟨by rfl, ?_⟩) ?_ ?_
          rotate_left
          · intro w'
            go_simp
            with_reducible rfl
          rotate_left
          · simp only [Act.put, List.setIfInBounds_toArray, List.set_cons_zero, List.set_cons_succ, i64_w, i32_w]
            rfl
          refine pure_ (i := 2) (N := some 32) (v := ?_) (a' := ?_) #[true, false, true, false, false, false, false, false, false, false] rfl rfl (any_of HT_.out (by kernel_rfl)) (fun _ _ _ h => h) (Or.inl ⟨by rfl, ?_⟩) ?_ ?_
          rotate_left
          · intro w'
            go_simp
            with_reducible rfl
          rotate_left
          · simp only [Act.put, List.setIfInBounds_toArray, List.set_cons_zero, List.set_cons_succ, i64_w, i32_w]
            rfl
          refine pure_ (i := 4) (N := some 34) (v := ?_) (a' := ?_) #[true, false, true, false, true, false, false, false, false, false] rfl rfl (any_of HT_.out (by kernel_rfl)) (fun _ _ _ h => h) (Or.inl ⟨by rfl, ?_⟩) ?_ ?_
          rotate_left
          · intro w'
            go_simp
            with_reducible rfl
          rotate_left
          · simp only [Act.put, List.setIfInBounds_toArray, List.set_cons_zero, List.set_cons_succ, i64_w, i32_w]
            rfl
          refine pure_ (i := 6) (N := some 36) (v := ?_) (a' := ?_) #[true, false, true, false, true, false, true, false, false, false] rfl rfl (any_of HT_.out (by kernel_rfl)) (fun _ _ _ h => h) (Or.inl ⟨by rfl, ?_⟩) ?_ ?_
          rotate_left
          · intro w'
            go_simp
            with_reducible rfl
          rotate_left
          · simp only [Act.put, List.setIfInBounds_toArray, List.set_cons_zero, List.set_cons_succ, i64_w, i32_w]
            rfl
          refine take_ (i := 1) (N := some 31) (v := ?_) (a' := ?_) #[true, true, true, false, true, false, true, false, false, false] rfl rfl (take_ofW HT_.out HW_.out (by kernel_rfl)) (fun _ _ _ h => h) (Or.inl ⟨by rfl, ?_⟩) hHeld ?_ ?_
          rotate_left
          · rintro w' ⟨s0, s1, s2, s3, s4, s5, s6, s7, s8, s9, s10, s11, s12, s13, s14, s15, s16⟩
            go_simp
            with_reducible rfl
          rotate_left
          · simp only [Act.put, List.setIfInBounds_toArray, List.set_cons_zero, List.set_cons_succ, i64_w, i32_w]
            rfl
          refine take_ (i := 5) (N := some 35) (v := ?_) (a' := ?_) #[true, true, true, false, true, true, true, false, false, false] rfl rfl (take_ofW HT_.out HW_.out (by kernel_rfl)) (fun _ _ _ h => h) (Or.inl ⟨by rfl, ?_⟩) hHeld ?_ ?_
          rotate_left
          · rintro w' ⟨s0, s1, s2, s3, s4, s5, s6, s7, s8, s9, s10, s11, s12, s13, s14, s15, s16⟩
            go_simp
            with_reducible rfl
          rotate_left
          · simp only [Act.put, List.setIfInBounds_toArray, List.set_cons_zero, List.set_cons_succ, i64_w, i32_w]
            rfl
          refine one_ (i := 3) (N := some 33) #[true, true, true, true, true, true, true, false, false, false] rfl rfl (one_of HT_.out (by kernel_rfl)) (by decide) (fun K hK => ?_)
          refine goes_ Try.func43 (by kernel_rfl) rfl #[.agg #[.string a0_4, .int .i64 a0_5, .int .i64 a0_6, .string a0_7], .slice A1 l1.length c1] (by rfl) rfl rfl (by (try simp only [List.map_toArray, List.map_cons, List.map_nil]); first | done | rfl | (simp only [List.length_drop, List.length_take]; rfl)) ?_
          with_reducible refine (antecedentref11_is.calls k a0_4 a0_5 a0_6 a0_7 _ _ l1 true _ ?side1 ?side2 A15.out).mono ?_
          (case side1 => repeat (first | exact (Kd.C_below HR1.out HB.out) | (with_reducible refine Kd.C_alloc ?_ _) | (with_reducible refine Kd.C_drewN ?_ _) | (with_reducible refine Kd.C_drew ?_)))
          (case side2 => exact HC1.out)
          rintro e w22 ⟨rfl, hb⟩
          refine ⟨_, rfl, ?_⟩
          have n0_ := Aside0.mk (blk_below (g := gb282) (o := .cells #[.int .i64 a0_0, .string a0_1, .slice A0_2 l0_2.length c0_2, .string a0_3, .string a0_4, .int .i64 a0_5, .int .i64 a0_6, .string a0_7, .string a0_8, .int .i64 a0_9, .int .i64 a0_10, .string a0_11, .string a0_12, .int .i64 a0_13, .int .i64 a0_14, .string a0_15, .slice A0_16 l0_16.length c0_16] 43 (0, 0)) (by (with_reducible repeat (first | refine blk_drewN ?_ _ | refine blk_drew ?_ | refine blk_alloc ?_ _)); exact BK282.out) hb)
          have n1_ := Aside0.mk (below_step (by repeat (first | (with_reducible first | exact HB.out | apply below_alloc | apply pw_below_drewN | apply below_drew1 | refine below_set ?_ GE282.out) | exact HB.out)) hb)
          clear BK282
          clear HB
          have BK282 := n0_
          have HB := n1_
          clear n0_ n1_
          (try clear hb)
          (try clear hb2)
          (try clear hk)
          (try clear hi)
          refine hK.out _ _ ⟨(blk_cell BK282.out 0).trans rfl, (blk_cell BK282.out 1).trans rfl, (blk_cell BK282.out 2).trans rfl, (blk_cell BK282.out 3).trans rfl, (blk_cell BK282.out 4).trans rfl, (blk_cell BK282.out 5).trans rfl, (blk_cell BK282.out 6).trans rfl, (blk_cell BK282.out 7).trans rfl, (blk_cell BK282.out 8).trans rfl, (blk_cell BK282.out 9).trans rfl, (blk_cell BK282.out 10).trans rfl, (blk_cell BK282.out 11).trans rfl, (blk_cell BK282.out 12).trans rfl, (blk_cell BK282.out 13).trans rfl, (blk_cell BK282.out 14).trans rfl, (blk_cell BK282.out 15).trans rfl, (blk_cell BK282.out 16).trans rfl⟩ (fun hHeld => ?_)
          clear hK K
          refine norm_ (a' := ?_) ?_ ?_
          rotate_left
          · show Act.put _ (some 33) _ = _
            simp only [Act.put, List.setIfInBounds_toArray, List.set_cons_zero, List.set_cons_succ, i64_w, i32_w]
            rfl
          refine one_ (i := 7) (N := some 37) #[true, true, true, true, true, true, true, true, false, false] rfl rfl (one_of HT_.out (by kernel_rfl)) (by decide) (fun K hK => ?_)
          refine goes_ Try.func43 (by kernel_rfl) rfl #[.agg #[.string a0_8, .int .i64 a0_9, .int .i64 a0_10, .string a0_11], .slice A1 l1.length c1] (by rfl) rfl rfl (by (try simp only [List.map_toArray, List.map_cons, List.map_nil]); first | done | rfl | (simp only [List.length_drop, List.length_take]; rfl)) ?_
          with_reducible refine (antecedentref11_is.calls k a0_8 a0_9 a0_10 a0_11 _ _ l1 true _ ?side1 ?side2 A16.out).mono ?_
          (case side1 => repeat (first | exact (Kd.C_below HR1.out HB.out) | (with_reducible refine Kd.C_alloc ?_ _) | (with_reducible refine Kd.C_drewN ?_ _) | (with_reducible refine Kd.C_drew ?_)))
          (case side2 => exact HC1.out)
          rintro e w23 ⟨rfl, hb⟩
          refine ⟨_, rfl, ?_⟩
          have n0_ := Aside0.mk (blk_below (g := gb282) (o := .cells #[.int .i64 a0_0, .string a0_1, .slice A0_2 l0_2.length c0_2, .string a0_3, .string a0_4, .int .i64 a0_5, .int .i64 a0_6, .string a0_7, .string a0_8, .int .i64 a0_9, .int .i64 a0_10, .string a0_11, .string a0_12, .int .i64 a0_13, .int .i64 a0_14, .string a0_15, .slice A0_16 l0_16.length c0_16] 43 (0, 0)) (by (with_reducible repeat (first | refine blk_drewN ?_ _ | refine blk_drew ?_ | refine blk_alloc ?_ _)); exact BK282.out) hb)
          have n1_ := Aside0.mk (below_step (by repeat (first | (with_reducible first | exact HB.out | apply below_alloc | apply pw_below_drewN | apply below_drew1 | refine below_set ?_ GE282.out) | exact HB.out)) hb)
          clear BK282
          clear HB
          have BK282 := n0_
          have HB := n1_
          clear n0_ n1_
          (try clear hb)
          (try clear hb2)
          (try clear hk)
          (try clear hi)
          refine hK.out _ _ ⟨(blk_cell BK282.out 0).trans rfl, (blk_cell BK282.out 1).trans rfl, (blk_cell BK282.out 2).trans rfl, (blk_cell BK282.out 3).trans rfl, (blk_cell BK282.out 4).trans rfl, (blk_cell BK282.out 5).trans rfl, (blk_cell BK282.out 6).trans rfl, (blk_cell BK282.out 7).trans rfl, (blk_cell BK282.out 8).trans rfl, (blk_cell BK282.out 9).trans rfl, (blk_cell BK282.out 10).trans rfl, (blk_cell BK282.out 11).trans rfl, (blk_cell BK282.out 12).trans rfl, (blk_cell BK282.out 13).trans rfl, (blk_cell BK282.out 14).trans rfl, (blk_cell BK282.out 15).trans rfl, (blk_cell BK282.out 16).trans rfl⟩ (fun hHeld => ?_)
          clear hK K
          refine norm_ (a' := ?_) ?_ ?_
          rotate_left
          · show Act.put _ (some 37) _ = _
            simp only [Act.put, List.setIfInBounds_toArray, List.set_cons_zero, List.set_cons_succ, i64_w, i32_w]
            rfl
          refine pure_ (i := 8) (N := some 7) (v := ?_) (a' := ?_) #[true, true, true, true, true, true, true, true, true, false] rfl rfl (any_of HT_.out (by kernel_rfl)) (fun _ _ _ h => h) (Or.inl ⟨by rfl, ?_⟩) ?_ ?_
          rotate_left
          · intro w'
            go_simp
            with_reducible rfl
          rotate_left
          · simp only [Act.put, List.setIfInBounds_toArray, List.set_cons_zero, List.set_cons_succ, i64_w, i32_w]
            rfl
          refine pure_ (i := 9) (N := some 8) (v := ?_) (a' := ?_) #[true, true, true, true, true, true, true, true, true, true] rfl rfl (any_of HT_.out (by kernel_rfl)) (fun _ _ _ h => h) (Or.inl ⟨by rfl, ?_⟩) ?_ ?_
          rotate_left
          · intro w'
            go_simp
            with_reducible rfl
          rotate_left
          · simp only [Act.put, List.setIfInBounds_toArray, List.set_cons_zero, List.set_cons_succ, i64_w, i32_w]
            rfl
          refine done_ (done_of HT_.out (by kernel_rfl)) ?_
          try go_wp2
          go_ret
          exact ⟨by first | rfl | (simp [errW_none, errW_some] <;> rfl) | (simp [*, errW_none, errW_some] <;> rfl), by repeat (first | (with_reducible first | exact HB.out | apply below_alloc | apply pw_below_drewN | apply below_drew1 | refine below_set ?_ GE282.out) | exact HB.out)⟩
        · replace c18 := Bool.eq_false_iff.mpr c18
          subst c18
          have H1 : (if a0_3.toList = ([61] : List UInt8) then (some true) else (some false)) = some r := by rw [if_neg (show ¬ (false = true) by decide)] at H; exact H
          clear H
          have H := H1
          clear H1
          by_cases c24 : a0_3.toList = ([61] : List UInt8)
          · rw [if_pos c24] at H
            have c24b0 : (a0_3.toList == ([61] : List UInt8)) = true := beq_iff_eq.mpr c24
            have c24b1 : (a0_3.toList != ([61] : List UInt8)) = false := bne_eq_false_iff_eq.mpr c24
            clear c24
            obtain rfl := Option.some.inj H
            go_enter Try.func29, Try.ntmps29
            try go_wp2_with (first | ((with_reducible refine gate_dst (N := 2) rfl ?_); refine box_event ?hg (N := 2) ?hd (cs := #[.int .i64 a0_0, .string a0_1, .slice A0_2 l0_2.length c0_2, .string a0_3, .string a0_4, .int .i64 a0_5, .int .i64 a0_6, .string a0_7, .string a0_8, .int .i64 a0_9, .int .i64 a0_10, .string a0_11, .string a0_12, .int .i64 a0_13, .int .i64 a0_14, .string a0_15, .slice A0_16 l0_16.length c0_16]) (t := 43) ?hr ?_; (case hd => rfl); (case hg => rfl); (case hr => first | (go_simp; done) | (go_simp; rfl)); intro gb282 hg w25 hbox hb; have n0_ := Aside0.mk (below_step (by repeat (first | (with_reducible first | exact HB.out | apply below_alloc | apply pw_below_drewN | apply below_drew1) | exact HB.out)) hb); have n1_ := Aside0.mk (hbox); have n2_ := Aside0.mk ((by rw [hg]; exact (below_size (by repeat (first | (with_reducible first | exact HB.out | apply below_alloc | apply pw_below_drewN | apply below_drew1) | exact HB.out))) : w.heap.size ≤ gb282)); have n3_ := Aside0.mk ((by rw [hg]; exact (below_size (by repeat (first | (with_reducible first | exact HB.out | apply below_alloc | apply pw_below_drewN | apply below_drew1) | exact HB.out))) : w.heap.size ≤ gb282)); clear HB; have HB := n0_; have BK282 := n1_; have GW282 := n2_; have GE282 := n3_; clear n0_ n1_ n2_ n3_; clear hb hbox hg; have hcz26_0 : w25.cell? ⟨gb282, 0, none⟩ = some (.int .i64 a0_0) := (blk_cell BK282.out 0).trans rfl; have hcz26_1 : w25.cell? ⟨gb282, 1, none⟩ = some (.string a0_1) := (blk_cell BK282.out 1).trans rfl; have hcz26_2 : w25.cell? ⟨gb282, 2, none⟩ = some (.slice A0_2 l0_2.length c0_2) := (blk_cell BK282.out 2).trans rfl; have hcz26_3 : w25.cell? ⟨gb282, 3, none⟩ = some (.string a0_3) := (blk_cell BK282.out 3).trans rfl; have hcz26_4 : w25.cell? ⟨gb282, 4, none⟩ = some (.string a0_4) := (blk_cell BK282.out 4).trans rfl; have hcz26_5 : w25.cell? ⟨gb282, 5, none⟩ = some (.int .i64 a0_5) := (blk_cell BK282.out 5).trans rfl; have hcz26_6 : w25.cell? ⟨gb282, 6, none⟩ = some (.int .i64 a0_6) := (blk_cell BK282.out 6).trans rfl; have hcz26_7 : w25.cell? ⟨gb282, 7, none⟩ = some (.string a0_7) := (blk_cell BK282.out 7).trans rfl; have hcz26_8 : w25.cell? ⟨gb282, 8, none⟩ = some (.string a0_8) := (blk_cell BK282.out 8).trans rfl; have hcz26_9 : w25.cell? ⟨gb282, 9, none⟩ = some (.int .i64 a0_9) := (blk_cell BK282.out 9).trans rfl; have hcz26_10 : w25.cell? ⟨gb282, 10, none⟩ = some (.int .i64 a0_10) := (blk_cell BK282.out 10).trans rfl; have hcz26_11 : w25.cell? ⟨gb282, 11, none⟩ = some (.string a0_11) := (blk_cell BK282.out 11).trans rfl; have hcz26_12 : w25.cell? ⟨gb282, 12, none⟩ = some (.string a0_12) := (blk_cell BK282.out 12).trans rfl; have hcz26_13 : w25.cell? ⟨gb282, 13, none⟩ = some (.int .i64 a0_13) := (blk_cell BK282.out 13).trans rfl; have hcz26_14 : w25.cell? ⟨gb282, 14, none⟩ = some (.int .i64 a0_14) := (blk_cell BK282.out 14).trans rfl; have hcz26_15 : w25.cell? ⟨gb282, 15, none⟩ = some (.string a0_15) := (blk_cell BK282.out 15).trans rfl; have hcz26_16 : w25.cell? ⟨gb282, 16, none⟩ = some (.slice A0_16 l0_16.length c0_16) := (blk_cell BK282.out 16).trans rfl; have hfz26_0 := blk_frozen BK282.out 0; have hfz26_1 := blk_frozen BK282.out 1; have hfz26_2 := blk_frozen BK282.out 2; have hfz26_3 := blk_frozen BK282.out 3; have hfz26_4 := blk_frozen BK282.out 4; have hfz26_5 := blk_frozen BK282.out 5; have hfz26_6 := blk_frozen BK282.out 6; have hfz26_7 := blk_frozen BK282.out 7; have hfz26_8 := blk_frozen BK282.out 8; have hfz26_9 := blk_frozen BK282.out 9; have hfz26_10 := blk_frozen BK282.out 10; have hfz26_11 := blk_frozen BK282.out 11; have hfz26_12 := blk_frozen BK282.out 12; have hfz26_13 := blk_frozen BK282.out 13; have hfz26_14 := blk_frozen BK282.out 14; have hfz26_15 := blk_frozen BK282.out 15; have hfz26_16 := blk_frozen BK282.out 16))
            have n0_ := Aside0.mk (blk_drew BK282.out)
            have n1_ := Aside0.mk (below_drew1 HB.out)
            clear BK282
            clear HB
            have BK282 := n0_
            have HB := n1_
            clear n0_ n1_
            refine start_ (n := 10) (S := fun w' => w'.cell? ⟨gb282, 0, none⟩ = some (.int .i64 a0_0) ∧ w'.cell? ⟨gb282, 1, none⟩ = some (.string a0_1) ∧ w'.cell? ⟨gb282, 2, none⟩ = some (.slice A0_2 l0_2.length c0_2) ∧ w'.cell? ⟨gb282, 3, none⟩ = some (.string a0_3) ∧ w'.cell? ⟨gb282, 4, none⟩ = some (.string a0_4) ∧ w'.cell? ⟨gb282, 5, none⟩ = some (.int .i64 a0_5) ∧ w'.cell? ⟨gb282, 6, none⟩ = some (.int .i64 a0_6) ∧ w'.cell? ⟨gb282, 7, none⟩ = some (.string a0_7) ∧ w'.cell? ⟨gb282, 8, none⟩ = some (.string a0_8) ∧ w'.cell? ⟨gb282, 9, none⟩ = some (.int .i64 a0_9) ∧ w'.cell? ⟨gb282, 10, none⟩ = some (.int .i64 a0_10) ∧ w'.cell? ⟨gb282, 11, none⟩ = some (.string a0_11) ∧ w'.cell? ⟨gb282, 12, none⟩ = some (.string a0_12) ∧ w'.cell? ⟨gb282, 13, none⟩ = some (.int .i64 a0_13) ∧ w'.cell? ⟨gb282, 14, none⟩ = some (.int .i64 a0_14) ∧ w'.cell? ⟨gb282, 15, none⟩ = some (.string a0_15) ∧ w'.cell? ⟨gb282, 16, none⟩ = some (.slice A0_16 l0_16.length c0_16)) (ds := []) #[false, false, false, false, false, false, false, false, false, false] (by kernel_rfl) rfl rfl ⟨(blk_cell BK282.out 0).trans rfl, (blk_cell BK282.out 1).trans rfl, (blk_cell BK282.out 2).trans rfl, (blk_cell BK282.out 3).trans rfl, (blk_cell BK282.out 4).trans rfl, (blk_cell BK282.out 5).trans rfl, (blk_cell BK282.out 6).trans rfl, (blk_cell BK282.out 7).trans rfl, (blk_cell BK282.out 8).trans rfl, (blk_cell BK282.out 9).trans rfl, (blk_cell BK282.out 10).trans rfl, (blk_cell BK282.out 11).trans rfl, (blk_cell BK282.out 12).trans rfl, (blk_cell BK282.out 13).trans rfl, (blk_cell BK282.out 14).trans rfl, (blk_cell BK282.out 15).trans rfl, (blk_cell BK282.out 16).trans rfl⟩ (fun hHeld => ?_); refine with_tabW antecedentref11_Ready.tab11 antecedentref11_Ready.bits11 (fun HT_ HW_ => ?_)
            generalize w25.drew = w27 at BK282 HB hHeld ⊢
            refine pure_ (i := 0) (N := some 30) (v := ?_) (a' := ?_) #[true, false, false, false, false, false, false, false, false, false] rfl rfl (any_of HT_.out (by kernel_rfl)) (fun _ _ _ h => h) (Or.inl ⟨by rfl, ?_⟩) ?_ ?_
            rotate_left
            · intro w'
              go_simp
              with_reducible rfl
            rotate_left
            · simp only [Act.put, List.setIfInBounds_toArray, List.set_cons_zero, List.set_cons_succ, i64_w, i32_w]
              rfl
            refine pure_ (i := 2) (N := some 32) (v := ?_) (a' := ?_) #[true, false, true, false, false, false, false, false, false, false] rfl rfl (any_of HT_.out (by kernel_rfl)) (fun _ _ _ h => h) (Or.inl ⟨by rfl, ?_⟩) ?_ ?_
            rotate_left
            · intro w'
              go_simp
              with_reducible rfl
            rotate_left
            · simp only [Act.put, List.setIfInBounds_toArray, List.set_cons_zero, List.set_cons_succ, i64_w, i32_w]
              rfl
            refine pure_ (i := 4) (N := some 34) (v := ?_) (a' := ?_) #[true, false, true, false, true, false, false, false, false, false] rfl rfl (any_of HT_.out (by kernel_rfl)) (fun _ _ _ h => h) (Or.inl ⟨by rfl, ?_⟩) ?_ ?_
            rotate_left
            · intro w'
              go_simp
              with_reducible rfl
            rotate_left
            · simp only [Act.put, List.setIfInBounds_toArray, List.set_cons_zero, List.set_cons_succ, i64_w, i32_w]
              rfl
            refine pure_ (i := 6) (N := some 36) (v := ?_) (a' := ?_) #[true, false, true, false, true, false, true, false, false, false] rfl rfl (any_of HT_.out (by kernel_rfl)) (fun _ _ _ h => h) (Or.inl ⟨by rfl, ?_⟩) ?_ ?_
            rotate_left
            · intro w'
              go_simp
              with_reducible rfl
            rotate_left
            · simp only [Act.put, List.setIfInBounds_toArray, List.set_cons_zero, List.set_cons_succ, i64_w, i32_w]
              rfl
            refine take_ (i := 1) (N := some 31) (v := ?_) (a' := ?_) #[true, true, true, false, true, false, true, false, false, false] rfl rfl (take_ofW HT_.out HW_.out (by kernel_rfl)) (fun _ _ _ h => h) (Or.inl ⟨by rfl, ?_⟩) hHeld ?_ ?_
            rotate_left
            · rintro w' ⟨s0, s1, s2, s3, s4, s5, s6, s7, s8, s9, s10, s11, s12, s13, s14, s15, s16⟩
              go_simp
              with_reducible rfl
            rotate_left
            · simp only [Act.put, List.setIfInBounds_toArray, List.set_cons_zero, List.set_cons_succ, i64_w, i32_w]
              rfl
            refine take_ (i := 5) (N := some 35) (v := ?_) (a' := ?_) #[true, true, true, false, true, true, true, false, false, false] rfl rfl (take_ofW HT_.out HW_.out (by kernel_rfl)) (fun _ _ _ h => h) (Or.inl ⟨by rfl, ?_⟩) hHeld ?_ ?_
            rotate_left
            · rintro w' ⟨s0, s1, s2, s3, s4, s5, s6, s7, s8, s9, s10, s11, s12, s13, s14, s15, s16⟩
              go_simp
              with_reducible rfl
            rotate_left
            · simp only [Act.put, List.setIfInBounds_toArray, List.set_cons_zero, List.set_cons_succ, i64_w, i32_w]
              rfl
            refine one_ (i := 3) (N := some 33) #[true, true, true, true, true, true, true, false, false, false] rfl rfl (one_of HT_.out (by kernel_rfl)) (by decide) (fun K hK => ?_)
            refine goes_ Try.func43 (by kernel_rfl) rfl #[.agg #[.string a0_4, .int .i64 a0_5, .int .i64 a0_6, .string a0_7], .slice A1 l1.length c1] (by rfl) rfl rfl (by (try simp only [List.map_toArray, List.map_cons, List.map_nil]); first | done | rfl | (simp only [List.length_drop, List.length_take]; rfl)) ?_
            with_reducible refine (antecedentref11_is.calls k a0_4 a0_5 a0_6 a0_7 _ _ l1 true _ ?side1 ?side2 A15.out).mono ?_
            (case side1 => repeat (first | exact (Kd.C_below HR1.out HB.out) | (with_reducible refine Kd.C_alloc ?_ _) | (with_reducible refine Kd.C_drewN ?_ _) | (with_reducible refine Kd.C_drew ?_)))
            (case side2 => exact HC1.out)
            rintro e w28 ⟨rfl, hb⟩
            refine ⟨_, rfl, ?_⟩
            have n0_ := Aside0.mk (blk_below (g := gb282) (o := .cells #[.int .i64 a0_0, .string a0_1, .slice A0_2 l0_2.length c0_2, .string a0_3, .string a0_4, .int .i64 a0_5, .int .i64 a0_6, .string a0_7, .string a0_8, .int .i64 a0_9, .int .i64 a0_10, .string a0_11, .string a0_12, .int .i64 a0_13, .int .i64 a0_14, .string a0_15, .slice A0_16 l0_16.length c0_16] 43 (0, 0)) (by (with_reducible repeat (first | refine blk_drewN ?_ _ | refine blk_drew ?_ | refine blk_alloc ?_ _)); exact BK282.out) hb)
            have n1_ := Aside0.mk (below_step (by repeat (first | (with_reducible first | exact HB.out | apply below_alloc | apply pw_below_drewN | apply below_drew1 | refine below_set ?_ GE282.out) | exact HB.out)) hb)
            clear BK282
            clear HB
            have BK282 := n0_
            have HB := n1_
            clear n0_ n1_
            (try clear hb)
            (try clear hb2)
            (try clear hk)
            (try clear hi)
            refine hK.out _ _ ⟨(blk_cell BK282.out 0).trans rfl, (blk_cell BK282.out 1).trans rfl, (blk_cell BK282.out 2).trans rfl, (blk_cell BK282.out 3).trans rfl, (blk_cell BK282.out 4).trans rfl, (blk_cell BK282.out 5).trans rfl, (blk_cell BK282.out 6).trans rfl, (blk_cell BK282.out 7).trans rfl, (blk_cell BK282.out 8).trans rfl, (blk_cell BK282.out 9).trans rfl, (blk_cell BK282.out 10).trans rfl, (blk_cell BK282.out 11).trans rfl, (blk_cell BK282.out 12).trans rfl, (blk_cell BK282.out 13).trans rfl, (blk_cell BK282.out 14).trans rfl, (blk_cell BK282.out 15).trans rfl, (blk_cell BK282.out 16).trans rfl⟩ (fun hHeld => ?_)
            clear hK K
            refine norm_ (a' := ?_) ?_ ?_
            rotate_left
            · show Act.put _ (some 33) _ = _
              simp only [Act.put, List.setIfInBounds_toArray, List.set_cons_zero, List.set_cons_succ, i64_w, i32_w]
              rfl
            refine one_ (i := 7) (N := some 37) #[true, true, true, true, true, true, true, true, false, false] rfl rfl (one_of HT_.out (by kernel_rfl)) (by decide) (fun K hK => ?_)
            refine goes_ Try.func43 (by kernel_rfl) rfl #[.agg #[.string a0_8, .int .i64 a0_9, .int .i64 a0_10, .string a0_11], .slice A1 l1.length c1] (by rfl) rfl rfl (by (try simp only [List.map_toArray, List.map_cons, List.map_nil]); first | done | rfl | (simp only [List.length_drop, List.length_take]; rfl)) ?_
            with_reducible refine (antecedentref11_is.calls k a0_8 a0_9 a0_10 a0_11 _ _ l1 false _ ?side1 ?side2 A16.out).mono ?_
            (case side1 => repeat (first | exact (Kd.C_below HR1.out HB.out) | (with_reducible refine Kd.C_alloc ?_ _) | (with_reducible refine Kd.C_drewN ?_ _) | (with_reducible refine Kd.C_drew ?_)))
            (case side2 => exact HC1.out)
            rintro e w29 ⟨rfl, hb⟩
            refine ⟨_, rfl, ?_⟩
            have n0_ := Aside0.mk (blk_below (g := gb282) (o := .cells #[.int .i64 a0_0, .string a0_1, .slice A0_2 l0_2.length c0_2, .string a0_3, .string a0_4, .int .i64 a0_5, .int .i64 a0_6, .string a0_7, .string a0_8, .int .i64 a0_9, .int .i64 a0_10, .string a0_11, .string a0_12, .int .i64 a0_13, .int .i64 a0_14, .string a0_15, .slice A0_16 l0_16.length c0_16] 43 (0, 0)) (by (with_reducible repeat (first | refine blk_drewN ?_ _ | refine blk_drew ?_ | refine blk_alloc ?_ _)); exact BK282.out) hb)
            have n1_ := Aside0.mk (below_step (by repeat (first | (with_reducible first | exact HB.out | apply below_alloc | apply pw_below_drewN | apply below_drew1 | refine below_set ?_ GE282.out) | exact HB.out)) hb)
            clear BK282
            clear HB
            have BK282 := n0_
            have HB := n1_
            clear n0_ n1_
            (try clear hb)
            (try clear hb2)
            (try clear hk)
            (try clear hi)
            refine hK.out _ _ ⟨(blk_cell BK282.out 0).trans rfl, (blk_cell BK282.out 1).trans rfl, (blk_cell BK282.out 2).trans rfl, (blk_cell BK282.out 3).trans rfl, (blk_cell BK282.out 4).trans rfl, (blk_cell BK282.out 5).trans rfl, (blk_cell BK282.out 6).trans rfl, (blk_cell BK282.out 7).trans rfl, (blk_cell BK282.out 8).trans rfl, (blk_cell BK282.out 9).trans rfl, (blk_cell BK282.out 10).trans rfl, (blk_cell BK282.out 11).trans rfl, (blk_cell BK282.out 12).trans rfl, (blk_cell BK282.out 13).trans rfl, (blk_cell BK282.out 14).trans rfl, (blk_cell BK282.out 15).trans rfl, (blk_cell BK282.out 16).trans rfl⟩ (fun hHeld => ?_)
            clear hK K
            refine norm_ (a' := ?_) ?_ ?_
            rotate_left
            · show Act.put _ (some 37) _ = _
              simp only [Act.put, List.setIfInBounds_toArray, List.set_cons_zero, List.set_cons_succ, i64_w, i32_w]
              rfl
            refine pure_ (i := 8) (N := some 7) (v := ?_) (a' := ?_) #[true, true, true, true, true, true, true, true, true, false] rfl rfl (any_of HT_.out (by kernel_rfl)) (fun _ _ _ h => h) (Or.inl ⟨by rfl, ?_⟩) ?_ ?_
            rotate_left
            · intro w'
              go_simp
              with_reducible rfl
            rotate_left
            · simp only [Act.put, List.setIfInBounds_toArray, List.set_cons_zero, List.set_cons_succ, i64_w, i32_w]
              rfl
            refine pure_ (i := 9) (N := some 8) (v := ?_) (a' := ?_) #[true, true, true, true, true, true, true, true, true, true] rfl rfl (any_of HT_.out (by kernel_rfl)) (fun _ _ _ h => h) (Or.inl ⟨by rfl, ?_⟩) ?_ ?_
            rotate_left
            · intro w'
              go_simp
              with_reducible rfl
            rotate_left
            · simp only [Act.put, List.setIfInBounds_toArray, List.set_cons_zero, List.set_cons_succ, i64_w, i32_w]
              rfl
            refine done_ (done_of HT_.out (by kernel_rfl)) ?_
            have hcz30_0 : w29.cell? ⟨gb282, 0, none⟩ = some (.int .i64 a0_0) := (blk_cell BK282.out 0).trans rfl
            have hcz30_1 : w29.cell? ⟨gb282, 1, none⟩ = some (.string a0_1) := (blk_cell BK282.out 1).trans rfl
            have hcz30_2 : w29.cell? ⟨gb282, 2, none⟩ = some (.slice A0_2 l0_2.length c0_2) := (blk_cell BK282.out 2).trans rfl
            have hcz30_3 : w29.cell? ⟨gb282, 3, none⟩ = some (.string a0_3) := (blk_cell BK282.out 3).trans rfl
            have hcz30_4 : w29.cell? ⟨gb282, 4, none⟩ = some (.string a0_4) := (blk_cell BK282.out 4).trans rfl
            have hcz30_5 : w29.cell? ⟨gb282, 5, none⟩ = some (.int .i64 a0_5) := (blk_cell BK282.out 5).trans rfl
            have hcz30_6 : w29.cell? ⟨gb282, 6, none⟩ = some (.int .i64 a0_6) := (blk_cell BK282.out 6).trans rfl
            have hcz30_7 : w29.cell? ⟨gb282, 7, none⟩ = some (.string a0_7) := (blk_cell BK282.out 7).trans rfl
            have hcz30_8 : w29.cell? ⟨gb282, 8, none⟩ = some (.string a0_8) := (blk_cell BK282.out 8).trans rfl
            have hcz30_9 : w29.cell? ⟨gb282, 9, none⟩ = some (.int .i64 a0_9) := (blk_cell BK282.out 9).trans rfl
            have hcz30_10 : w29.cell? ⟨gb282, 10, none⟩ = some (.int .i64 a0_10) := (blk_cell BK282.out 10).trans rfl
            have hcz30_11 : w29.cell? ⟨gb282, 11, none⟩ = some (.string a0_11) := (blk_cell BK282.out 11).trans rfl
            have hcz30_12 : w29.cell? ⟨gb282, 12, none⟩ = some (.string a0_12) := (blk_cell BK282.out 12).trans rfl
            have hcz30_13 : w29.cell? ⟨gb282, 13, none⟩ = some (.int .i64 a0_13) := (blk_cell BK282.out 13).trans rfl
            have hcz30_14 : w29.cell? ⟨gb282, 14, none⟩ = some (.int .i64 a0_14) := (blk_cell BK282.out 14).trans rfl
            have hcz30_15 : w29.cell? ⟨gb282, 15, none⟩ = some (.string a0_15) := (blk_cell BK282.out 15).trans rfl
            have hcz30_16 : w29.cell? ⟨gb282, 16, none⟩ = some (.slice A0_16 l0_16.length c0_16) := (blk_cell BK282.out 16).trans rfl
            have hfz30_0 := blk_frozen BK282.out 0
            have hfz30_1 := blk_frozen BK282.out 1
            have hfz30_2 := blk_frozen BK282.out 2
            have hfz30_3 := blk_frozen BK282.out 3
            have hfz30_4 := blk_frozen BK282.out 4
            have hfz30_5 := blk_frozen BK282.out 5
            have hfz30_6 := blk_frozen BK282.out 6
            have hfz30_7 := blk_frozen BK282.out 7
            have hfz30_8 := blk_frozen BK282.out 8
            have hfz30_9 := blk_frozen BK282.out 9
            have hfz30_10 := blk_frozen BK282.out 10
            have hfz30_11 := blk_frozen BK282.out 11
            have hfz30_12 := blk_frozen BK282.out 12
            have hfz30_13 := blk_frozen BK282.out 13
            have hfz30_14 := blk_frozen BK282.out 14
            have hfz30_15 := blk_frozen BK282.out 15
            have hfz30_16 := blk_frozen BK282.out 16
            try go_wp2
            go_ret
            exact ⟨by first | rfl | (simp [errW_none, errW_some] <;> rfl) | (simp [*, errW_none, errW_some] <;> rfl), by repeat (first | (with_reducible first | exact HB.out | apply below_alloc | apply pw_below_drewN | apply below_drew1 | refine below_set ?_ GE282.out) | exact HB.out)⟩
          · rw [if_neg c24] at H
            have c24b0 : (a0_3.toList == ([61] : List UInt8)) = false := beq_eq_false_iff_ne.mpr c24
            have c24b1 : (a0_3.toList != ([61] : List UInt8)) = true := bne_iff_ne.mpr c24
            obtain rfl := Option.some.inj H
            go_enter Try.func29, Try.ntmps29
            try go_wp2_with (first | ((with_reducible refine gate_dst (N := 2) rfl ?_); refine box_event ?hg (N := 2) ?hd (cs := #[.int .i64 a0_0, .string a0_1, .slice A0_2 l0_2.length c0_2, .string a0_3, .string a0_4, .int .i64 a0_5, .int .i64 a0_6, .string a0_7, .string a0_8, .int .i64 a0_9, .int .i64 a0_10, .string a0_11, .string a0_12, .int .i64 a0_13, .int .i64 a0_14, .string a0_15, .slice A0_16 l0_16.length c0_16]) (t := 43) ?hr ?_; (case hd => rfl); (case hg => rfl); (case hr => first | (go_simp; done) | (go_simp; rfl)); intro gb282 hg w31 hbox hb; have n0_ := Aside0.mk (below_step (by repeat (first | (with_reducible first | exact HB.out | apply below_alloc | apply pw_below_drewN | apply below_drew1) | exact HB.out)) hb); have n1_ := Aside0.mk (hbox); have n2_ := Aside0.mk ((by rw [hg]; exact (below_size (by repeat (first | (with_reducible first | exact HB.out | apply below_alloc | apply pw_below_drewN | apply below_drew1) | exact HB.out))) : w.heap.size ≤ gb282)); have n3_ := Aside0.mk ((by rw [hg]; exact (below_size (by repeat (first | (with_reducible first | exact HB.out | apply below_alloc | apply pw_below_drewN | apply below_drew1) | exact HB.out))) : w.heap.size ≤ gb282)); clear HB; have HB := n0_; have BK282 := n1_; have GW282 := n2_; have GE282 := n3_; clear n0_ n1_ n2_ n3_; clear hb hbox hg; have hcz32_0 : w31.cell? ⟨gb282, 0, none⟩ = some (.int .i64 a0_0) := (blk_cell BK282.out 0).trans rfl; have hcz32_1 : w31.cell? ⟨gb282, 1, none⟩ = some (.string a0_1) := (blk_cell BK282.out 1).trans rfl; have hcz32_2 : w31.cell? ⟨gb282, 2, none⟩ = some (.slice A0_2 l0_2.length c0_2) := (blk_cell BK282.out 2).trans rfl; have hcz32_3 : w31.cell? ⟨gb282, 3, none⟩ = some (.string a0_3) := (blk_cell BK282.out 3).trans rfl; have hcz32_4 : w31.cell? ⟨gb282, 4, none⟩ = some (.string a0_4) := (blk_cell BK282.out 4).trans rfl; have hcz32_5 : w31.cell? ⟨gb282, 5, none⟩ = some (.int .i64 a0_5) := (blk_cell BK282.out 5).trans rfl; have hcz32_6 : w31.cell? ⟨gb282, 6, none⟩ = some (.int .i64 a0_6) := (blk_cell BK282.out 6).trans rfl; have hcz32_7 : w31.cell? ⟨gb282, 7, none⟩ = some (.string a0_7) := (blk_cell BK282.out 7).trans rfl; have hcz32_8 : w31.cell? ⟨gb282, 8, none⟩ = some (.string a0_8) := (blk_cell BK282.out 8).trans rfl; have hcz32_9 : w31.cell? ⟨gb282, 9, none⟩ = some (.int .i64 a0_9) := (blk_cell BK282.out 9).trans rfl; have hcz32_10 : w31.cell? ⟨gb282, 10, none⟩ = some (.int .i64 a0_10) := (blk_cell BK282.out 10).trans rfl; have hcz32_11 : w31.cell? ⟨gb282, 11, none⟩ = some (.string a0_11) := (blk_cell BK282.out 11).trans rfl; have hcz32_12 : w31.cell? ⟨gb282, 12, none⟩ = some (.string a0_12) := (blk_cell BK282.out 12).trans rfl; have hcz32_13 : w31.cell? ⟨gb282, 13, none⟩ = some (.int .i64 a0_13) := (blk_cell BK282.out 13).trans rfl; have hcz32_14 : w31.cell? ⟨gb282, 14, none⟩ = some (.int .i64 a0_14) := (blk_cell BK282.out 14).trans rfl; have hcz32_15 : w31.cell? ⟨gb282, 15, none⟩ = some (.string a0_15) := (blk_cell BK282.out 15).trans rfl; have hcz32_16 : w31.cell? ⟨gb282, 16, none⟩ = some (.slice A0_16 l0_16.length c0_16) := (blk_cell BK282.out 16).trans rfl; have hfz32_0 := blk_frozen BK282.out 0; have hfz32_1 := blk_frozen BK282.out 1; have hfz32_2 := blk_frozen BK282.out 2; have hfz32_3 := blk_frozen BK282.out 3; have hfz32_4 := blk_frozen BK282.out 4; have hfz32_5 := blk_frozen BK282.out 5; have hfz32_6 := blk_frozen BK282.out 6; have hfz32_7 := blk_frozen BK282.out 7; have hfz32_8 := blk_frozen BK282.out 8; have hfz32_9 := blk_frozen BK282.out 9; have hfz32_10 := blk_frozen BK282.out 10; have hfz32_11 := blk_frozen BK282.out 11; have hfz32_12 := blk_frozen BK282.out 12; have hfz32_13 := blk_frozen BK282.out 13; have hfz32_14 := blk_frozen BK282.out 14; have hfz32_15 := blk_frozen BK282.out 15; have hfz32_16 := blk_frozen BK282.out 16))
            have n0_ := Aside0.mk (blk_drew BK282.out)
            have n1_ := Aside0.mk (below_drew1 HB.out)
            clear BK282
            clear HB
            have BK282 := n0_
            have HB := n1_
            clear n0_ n1_
            refine start_ (n := 10) (S := fun w' => w'.cell? ⟨gb282, 0, none⟩ = some (.int .i64 a0_0) ∧ w'.cell? ⟨gb282, 1, none⟩ = some (.string a0_1) ∧ w'.cell? ⟨gb282, 2, none⟩ = some (.slice A0_2 l0_2.length c0_2) ∧ w'.cell? ⟨gb282, 3, none⟩ = some (.string a0_3) ∧ w'.cell? ⟨gb282, 4, none⟩ = some (.string a0_4) ∧ w'.cell? ⟨gb282, 5, none⟩ = some (.int .i64 a0_5) ∧ w'.cell? ⟨gb282, 6, none⟩ = some (.int .i64 a0_6) ∧ w'.cell? ⟨gb282, 7, none⟩ = some (.string a0_7) ∧ w'.cell? ⟨gb282, 8, none⟩ = some (.string a0_8) ∧ w'.cell? ⟨gb282, 9, none⟩ = some (.int .i64 a0_9) ∧ w'.cell? ⟨gb282, 10, none⟩ = some (.int .i64 a0_10) ∧ w'.cell? ⟨gb282, 11, none⟩ = some (.string a0_11) ∧ w'.cell? ⟨gb282, 12, none⟩ = some (.string a0_12) ∧ w'.cell? ⟨gb282, 13, none⟩ = some (.int .i64 a0_13) ∧ w'.cell? ⟨gb282, 14, none⟩ = some (.int .i64 a0_14) ∧ w'.cell? ⟨gb282, 15, none⟩ = some (.string a0_15) ∧ w'.cell? ⟨gb282, 16, none⟩ = some (.slice A0_16 l0_16.length c0_16)) (ds := []) #[false, false, false, false, false, false, false, false, false, false] (by kernel_rfl) rfl rfl ⟨(blk_cell BK282.out 0).trans rfl, (blk_cell BK282.out 1).trans rfl, (blk_cell BK282.out 2).trans rfl, (blk_cell BK282.out 3).trans rfl, (blk_cell BK282.out 4).trans rfl, (blk_cell BK282.out 5).trans rfl, (blk_cell BK282.out 6).trans rfl, (blk_cell BK282.out 7).trans rfl, (blk_cell BK282.out 8).trans rfl, (blk_cell BK282.out 9).trans rfl, (blk_cell BK282.out 10).trans rfl, (blk_cell BK282.out 11).trans rfl, (blk_cell BK282.out 12).trans rfl, (blk_cell BK282.out 13).trans rfl, (blk_cell BK282.out 14).trans rfl, (blk_cell BK282.out 15).trans rfl, (blk_cell BK282.out 16).trans rfl⟩ (fun hHeld => ?_); refine with_tabW antecedentref11_Ready.tab11 antecedentref11_Ready.bits11 (fun HT_ HW_ => ?_)
            generalize w31.drew = w33 at BK282 HB hHeld ⊢
            refine pure_ (i := 0) (N := some 30) (v := ?_) (a' := ?_) #[true, false, false, false, false, false, false, false, false, false] rfl rfl (any_of HT_.out (by kernel_rfl)) (fun _ _ _ h => h) (Or.inl ⟨by rfl, ?_⟩) ?_ ?_
            rotate_left
            · intro w'
              go_simp
              with_reducible rfl
            rotate_left
            · simp only [Act.put, List.setIfInBounds_toArray, List.set_cons_zero, List.set_cons_succ, i64_w, i32_w]
              rfl
            refine pure_ (i := 2) (N := some 32) (v := ?_) (a' := ?_) #[true, false, true, false, false, false, false, false, false, false] rfl rfl (any_of HT_.out (by kernel_rfl)) (fun _ _ _ h => h) (Or.inl ⟨by rfl, ?_⟩) ?_ ?_
            rotate_left
            · intro w'
              go_simp
              with_reducible rfl
            rotate_left
            · simp only [Act.put, List.setIfInBounds_toArray, List.set_cons_zero, List.set_cons_succ, i64_w, i32_w]
              rfl
            refine pure_ (i := 4) (N := some 34) (v := ?_) (a' := ?_) #[true, false, true, false, true, false, false, false, false, false] rfl rfl (any_of HT_.out (by kernel_rfl)) (fun _ _ _ h => h) (Or.inl ⟨by rfl, ?_⟩) ?_ ?_
            rotate_left
            · intro w'
              go_simp
              with_reducible rfl
            rotate_left
            · simp only [Act.put, List.setIfInBounds_toArray, List.set_cons_zero, List.set_cons_succ, i64_w, i32_w]
              rfl
            refine pure_ (i := 6) (N := some 36) (v := ?_) (a' := ?_) #[true, false, true, false, true, false, true, false, false, false] rfl rfl (any_of HT_.out (by kernel_rfl)) (fun _ _ _ h => h) (Or.inl ⟨by rfl, ?_⟩) ?_ ?_
            rotate_left
            · intro w'
              go_simp
              with_reducible rfl
            rotate_left
            · simp only [Act.put, List.setIfInBounds_toArray, List.set_cons_zero, List.set_cons_succ, i64_w, i32_w]
              rfl
            refine take_ (i := 1) (N := some 31) (v := ?_) (a' := ?_) #[true, true, true, false, true, false, true, false, false, false] rfl rfl (take_ofW HT_.out HW_.out (by kernel_rfl)) (fun _ _ _ h => h) (Or.inl ⟨by rfl, ?_⟩) hHeld ?_ ?_
            rotate_left
            · rintro w' ⟨s0, s1, s2, s3, s4, s5, s6, s7, s8, s9, s10, s11, s12, s13, s14, s15, s16⟩
              go_simp
              with_reducible rfl
            rotate_left
            · simp only [Act.put, List.setIfInBounds_toArray, List.set_cons_zero, List.set_cons_succ, i64_w, i32_w]
              rfl
            refine take_ (i := 5) (N := some 35) (v := ?_) (a' := ?_) #[true, true, true, false, true, true, true, false, false, false] rfl rfl (take_ofW HT_.out HW_.out (by kernel_rfl)) (fun _ _ _ h => h) (Or.inl ⟨by rfl, ?_⟩) hHeld ?_ ?_
            rotate_left
            · rintro w' ⟨s0, s1, s2, s3, s4, s5, s6, s7, s8, s9, s10, s11, s12, s13, s14, s15, s16⟩
              go_simp
              with_reducible rfl
            rotate_left
            · simp only [Act.put, List.setIfInBounds_toArray, List.set_cons_zero, List.set_cons_succ, i64_w, i32_w]
              rfl
            refine one_ (i := 3) (N := some 33) #[true, true, true, true, true, true, true, false, false, false] rfl rfl (one_of HT_.out (by kernel_rfl)) (by decide) (fun K hK => ?_)
            refine goes_ Try.func43 (by kernel_rfl) rfl #[.agg #[.string a0_4, .int .i64 a0_5, .int .i64 a0_6, .string a0_7], .slice A1 l1.length c1] (by rfl) rfl rfl (by (try simp only [List.map_toArray, List.map_cons, List.map_nil]); first | done | rfl | (simp only [List.length_drop, List.length_take]; rfl)) ?_
            with_reducible refine (antecedentref11_is.calls k a0_4 a0_5 a0_6 a0_7 _ _ l1 true _ ?side1 ?side2 A15.out).mono ?_
            (case side1 => repeat (first | exact (Kd.C_below HR1.out HB.out) | (with_reducible refine Kd.C_alloc ?_ _) | (with_reducible refine Kd.C_drewN ?_ _) | (with_reducible refine Kd.C_drew ?_)))
            (case side2 => exact HC1.out)
            rintro e w34 ⟨rfl, hb⟩
            refine ⟨_, rfl, ?_⟩
            have n0_ := Aside0.mk (blk_below (g := gb282) (o := .cells #[.int .i64 a0_0, .string a0_1, .slice A0_2 l0_2.length c0_2, .string a0_3, .string a0_4, .int .i64 a0_5, .int .i64 a0_6, .string a0_7, .string a0_8, .int .i64 a0_9, .int .i64 a0_10, .string a0_11, .string a0_12, .int .i64 a0_13, .int .i64 a0_14, .string a0_15, .slice A0_16 l0_16.length c0_16] 43 (0, 0)) (by (with_reducible repeat (first | refine blk_drewN ?_ _ | refine blk_drew ?_ | refine blk_alloc ?_ _)); exact BK282.out) hb)
            have n1_ := Aside0.mk (below_step (by repeat (first | (with_reducible first | exact HB.out | apply below_alloc | apply pw_below_drewN | apply below_drew1 | refine below_set ?_ GE282.out) | exact HB.out)) hb)
            clear BK282
            clear HB
            have BK282 := n0_
            have HB := n1_
            clear n0_ n1_
            (try clear hb)
            (try clear hb2)
            (try clear hk)
            (try clear hi)
            refine hK.out _ _ ⟨(blk_cell BK282.out 0).trans rfl, (blk_cell BK282.out 1).trans rfl, (blk_cell BK282.out 2).trans rfl, (blk_cell BK282.out 3).trans rfl, (blk_cell BK282.out 4).trans rfl, (blk_cell BK282.out 5).trans rfl, (blk_cell BK282.out 6).trans rfl, (blk_cell BK282.out 7).trans rfl, (blk_cell BK282.out 8).trans rfl, (blk_cell BK282.out 9).trans rfl, (blk_cell BK282.out 10).trans rfl, (blk_cell BK282.out 11).trans rfl, (blk_cell BK282.out 12).trans rfl, (blk_cell BK282.out 13).trans rfl, (blk_cell BK282.out 14).trans rfl, (blk_cell BK282.out 15).trans rfl, (blk_cell BK282.out 16).trans rfl⟩ (fun hHeld => ?_)
            clear hK K
            refine norm_ (a' := ?_) ?_ ?_
            rotate_left
            · show Act.put _ (some 33) _ = _
              simp only [Act.put, List.setIfInBounds_toArray, List.set_cons_zero, List.set_cons_succ, i64_w, i32_w]
              rfl
            refine one_ (i := 7) (N := some 37) #[true, true, true, true, true, true, true, true, false, false] rfl rfl (one_of HT_.out (by kernel_rfl)) (by decide) (fun K hK => ?_)
            refine goes_ Try.func43 (by kernel_rfl) rfl #[.agg #[.string a0_8, .int .i64 a0_9, .int .i64 a0_10, .string a0_11], .slice A1 l1.length c1] (by rfl) rfl rfl (by (try simp only [List.map_toArray, List.map_cons, List.map_nil]); first | done | rfl | (simp only [List.length_drop, List.length_take]; rfl)) ?_
            with_reducible refine (antecedentref11_is.calls k a0_8 a0_9 a0_10 a0_11 _ _ l1 false _ ?side1 ?side2 A16.out).mono ?_
            (case side1 => repeat (first | exact (Kd.C_below HR1.out HB.out) | (with_reducible refine Kd.C_alloc ?_ _) | (with_reducible refine Kd.C_drewN ?_ _) | (with_reducible refine Kd.C_drew ?_)))
            (case side2 => exact HC1.out)
            rintro e w35 ⟨rfl, hb⟩
            refine ⟨_, rfl, ?_⟩
            have n0_ := Aside0.mk (blk_below (g := gb282) (o := .cells #[.int .i64 a0_0, .string a0_1, .slice A0_2 l0_2.length c0_2, .string a0_3, .string a0_4, .int .i64 a0_5, .int .i64 a0_6, .string a0_7, .string a0_8, .int .i64 a0_9, .int .i64 a0_10, .string a0_11, .string a0_12, .int .i64 a0_13, .int .i64 a0_14, .string a0_15, .slice A0_16 l0_16.length c0_16] 43 (0, 0)) (by (with_reducible repeat (first | refine blk_drewN ?_ _ | refine blk_drew ?_ | refine blk_alloc ?_ _)); exact BK282.out) hb)
            have n1_ := Aside0.mk (below_step (by repeat (first | (with_reducible first | exact HB.out | apply below_alloc | apply pw_below_drewN | apply below_drew1 | refine below_set ?_ GE282.out) | exact HB.out)) hb)
            clear BK282
            clear HB
            have BK282 := n0_
            have HB := n1_
            clear n0_ n1_
            (try clear hb)
            (try clear hb2)
            (try clear hk)
            (try clear hi)
            refine hK.out _ _ ⟨(blk_cell BK282.out 0).trans rfl, (blk_cell BK282.out 1).trans rfl, (blk_cell BK282.out 2).trans rfl, (blk_cell BK282.out 3).trans rfl, (blk_cell BK282.out 4).trans rfl, (blk_cell BK282.out 5).trans rfl, (blk_cell BK282.out 6).trans rfl, (blk_cell BK282.out 7).trans rfl, (blk_cell BK282.out 8).trans rfl, (blk_cell BK282.out 9).trans rfl, (blk_cell BK282.out 10).trans rfl, (blk_cell BK282.out 11).trans rfl, (blk_cell BK282.out 12).trans rfl, (blk_cell BK282.out 13).trans rfl, (blk_cell BK282.out 14).trans rfl, (blk_cell BK282.out 15).trans rfl, (blk_cell BK282.out 16).trans rfl⟩ (fun hHeld => ?_)
            clear hK K
            refine norm_ (a' := ?_) ?_ ?_
            rotate_left
            · show Act.put _ (some 37) _ = _
              simp only [Act.put, List.setIfInBounds_toArray, List.set_cons_zero, List.set_cons_succ, i64_w, i32_w]
              rfl
            refine pure_ (i := 8) (N := some 7) (v := ?_) (a' := ?_) #[true, true, true, true, true, true, true, true, true, false] rfl rfl (any_of HT_.out (by kernel_rfl)) (fun _ _ _ h => h) (Or.inl ⟨by rfl, ?_⟩) ?_ ?_
            rotate_left
            · intro w'
              go_simp
              with_reducible rfl
            rotate_left
            · simp only [Act.put, List.setIfInBounds_toArray, List.set_cons_zero, List.set_cons_succ, i64_w, i32_w]
              rfl
            refine pure_ (i := 9) (N := some 8) (v := ?_) (a' := ?_) #[true, true, true, true, true, true, true, true, true, true] rfl rfl (any_of HT_.out (by kernel_rfl)) (fun _ _ _ h => h) (Or.inl ⟨by rfl, ?_⟩) ?_ ?_
            rotate_left
            · intro w'
              go_simp
              with_reducible rfl
            rotate_left
            · simp only [Act.put, List.setIfInBounds_toArray, List.set_cons_zero, List.set_cons_succ, i64_w, i32_w]
              rfl
            refine done_ (done_of HT_.out (by kernel_rfl)) ?_
            have hcz36_0 : w35.cell? ⟨gb282, 0, none⟩ = some (.int .i64 a0_0) := (blk_cell BK282.out 0).trans rfl
            have hcz36_1 : w35.cell? ⟨gb282, 1, none⟩ = some (.string a0_1) := (blk_cell BK282.out 1).trans rfl
            have hcz36_2 : w35.cell? ⟨gb282, 2, none⟩ = some (.slice A0_2 l0_2.length c0_2) := (blk_cell BK282.out 2).trans rfl
            have hcz36_3 : w35.cell? ⟨gb282, 3, none⟩ = some (.string a0_3) := (blk_cell BK282.out 3).trans rfl
            have hcz36_4 : w35.cell? ⟨gb282, 4, none⟩ = some (.string a0_4) := (blk_cell BK282.out 4).trans rfl
            have hcz36_5 : w35.cell? ⟨gb282, 5, none⟩ = some (.int .i64 a0_5) := (blk_cell BK282.out 5).trans rfl
            have hcz36_6 : w35.cell? ⟨gb282, 6, none⟩ = some (.int .i64 a0_6) := (blk_cell BK282.out 6).trans rfl
            have hcz36_7 : w35.cell? ⟨gb282, 7, none⟩ = some (.string a0_7) := (blk_cell BK282.out 7).trans rfl
            have hcz36_8 : w35.cell? ⟨gb282, 8, none⟩ = some (.string a0_8) := (blk_cell BK282.out 8).trans rfl
            have hcz36_9 : w35.cell? ⟨gb282, 9, none⟩ = some (.int .i64 a0_9) := (blk_cell BK282.out 9).trans rfl
            have hcz36_10 : w35.cell? ⟨gb282, 10, none⟩ = some (.int .i64 a0_10) := (blk_cell BK282.out 10).trans rfl
            have hcz36_11 : w35.cell? ⟨gb282, 11, none⟩ = some (.string a0_11) := (blk_cell BK282.out 11).trans rfl
            have hcz36_12 : w35.cell? ⟨gb282, 12, none⟩ = some (.string a0_12) := (blk_cell BK282.out 12).trans rfl
            have hcz36_13 : w35.cell? ⟨gb282, 13, none⟩ = some (.int .i64 a0_13) := (blk_cell BK282.out 13).trans rfl
            have hcz36_14 : w35.cell? ⟨gb282, 14, none⟩ = some (.int .i64 a0_14) := (blk_cell BK282.out 14).trans rfl
            have hcz36_15 : w35.cell? ⟨gb282, 15, none⟩ = some (.string a0_15) := (blk_cell BK282.out 15).trans rfl
            have hcz36_16 : w35.cell? ⟨gb282, 16, none⟩ = some (.slice A0_16 l0_16.length c0_16) := (blk_cell BK282.out 16).trans rfl
            have hfz36_0 := blk_frozen BK282.out 0
            have hfz36_1 := blk_frozen BK282.out 1
            have hfz36_2 := blk_frozen BK282.out 2
            have hfz36_3 := blk_frozen BK282.out 3
            have hfz36_4 := blk_frozen BK282.out 4
            have hfz36_5 := blk_frozen BK282.out 5
            have hfz36_6 := blk_frozen BK282.out 6
            have hfz36_7 := blk_frozen BK282.out 7
            have hfz36_8 := blk_frozen BK282.out 8
            have hfz36_9 := blk_frozen BK282.out 9
            have hfz36_10 := blk_frozen BK282.out 10
            have hfz36_11 := blk_frozen BK282.out 11
            have hfz36_12 := blk_frozen BK282.out 12
            have hfz36_13 := blk_frozen BK282.out 13
            have hfz36_14 := blk_frozen BK282.out 14
            have hfz36_15 := blk_frozen BK282.out 15
            have hfz36_16 := blk_frozen BK282.out 16
            try go_wp2
            go_ret
            exact ⟨by first | rfl | (simp [errW_none, errW_some] <;> rfl) | (simp [*, errW_none, errW_some] <;> rfl), by repeat (first | (with_reducible first | exact HB.out | apply below_alloc | apply pw_below_drewN | apply below_drew1 | refine below_set ?_ GE282.out) | exact HB.out)⟩
      · replace c17 := Bool.eq_false_iff.mpr c17
        subst c17
        have H1 : (if a0_3.toList = ([61] : List UInt8) then (some t289) else (some false)) = some r := by rw [if_neg (show ¬ (false = true) by decide)] at H; exact H
        clear H
        have H := H1
        clear H1
        by_cases c37 : a0_3.toList = ([61] : List UInt8)
        · rw [if_pos c37] at H
          have c37b0 : (a0_3.toList == ([61] : List UInt8)) = true := beq_iff_eq.mpr c37
          have c37b1 : (a0_3.toList != ([61] : List UInt8)) = false := bne_eq_false_iff_eq.mpr c37
          clear c37
          obtain rfl := Option.some.inj H
          go_enter Try.func29, Try.ntmps29
          try go_wp2_with (first | ((with_reducible refine gate_dst (N := 2) rfl ?_); refine box_event ?hg (N := 2) ?hd (cs := #[.int .i64 a0_0, .string a0_1, .slice A0_2 l0_2.length c0_2, .string a0_3, .string a0_4, .int .i64 a0_5, .int .i64 a0_6, .string a0_7, .string a0_8, .int .i64 a0_9, .int .i64 a0_10, .string a0_11, .string a0_12, .int .i64 a0_13, .int .i64 a0_14, .string a0_15, .slice A0_16 l0_16.length c0_16]) (t := 43) ?hr ?_; (case hd => rfl); (case hg => rfl); (case hr => first | (go_simp; done) | (go_simp; rfl)); intro gb282 hg w38 hbox hb; have n0_ := Aside0.mk (below_step (by repeat (first | (with_reducible first | exact HB.out | apply below_alloc | apply pw_below_drewN | apply below_drew1) | exact HB.out)) hb); have n1_ := Aside0.mk (hbox); have n2_ := Aside0.mk ((by rw [hg]; exact (below_size (by repeat (first | (with_reducible first | exact HB.out | apply below_alloc | apply pw_below_drewN | apply below_drew1) | exact HB.out))) : w.heap.size ≤ gb282)); have n3_ := Aside0.mk ((by rw [hg]; exact (below_size (by repeat (first | (with_reducible first | exact HB.out | apply below_alloc | apply pw_below_drewN | apply below_drew1) | exact HB.out))) : w.heap.size ≤ gb282)); clear HB; have HB := n0_; have BK282 := n1_; have GW282 := n2_; have GE282 := n3_; clear n0_ n1_ n2_ n3_; clear hb hbox hg; have hcz39_0 : w38.cell? ⟨gb282, 0, none⟩ = some (.int .i64 a0_0) := (blk_cell BK282.out 0).trans rfl; have hcz39_1 : w38.cell? ⟨gb282, 1, none⟩ = some (.string a0_1) := (blk_cell BK282.out 1).trans rfl; have hcz39_2 : w38.cell? ⟨gb282, 2, none⟩ = some (.slice A0_2 l0_2.length c0_2) := (blk_cell BK282.out 2).trans rfl; have hcz39_3 : w38.cell? ⟨gb282, 3, none⟩ = some (.string a0_3) := (blk_cell BK282.out 3).trans rfl; have hcz39_4 : w38.cell? ⟨gb282, 4, none⟩ = some (.string a0_4) := (blk_cell BK282.out 4).trans rfl; have hcz39_5 : w38.cell? ⟨gb282, 5, none⟩ = some (.int .i64 a0_5) := (blk_cell BK282.out 5).trans rfl; have hcz39_6 : w38.cell? ⟨gb282, 6, none⟩ = some (.int .i64 a0_6) := (blk_cell BK282.out 6).trans rfl; have hcz39_7 : w38.cell? ⟨gb282, 7, none⟩ = some (.string a0_7) := (blk_cell BK282.out 7).trans rfl; have hcz39_8 : w38.cell? ⟨gb282, 8, none⟩ = some (.string a0_8) := (blk_cell BK282.out 8).trans rfl; have hcz39_9 : w38.cell? ⟨gb282, 9, none⟩ = some (.int .i64 a0_9) := (blk_cell BK282.out 9).trans rfl; have hcz39_10 : w38.cell? ⟨gb282, 10, none⟩ = some (.int .i64 a0_10) := (blk_cell BK282.out 10).trans rfl; have hcz39_11 : w38.cell? ⟨gb282, 11, none⟩ = some (.string a0_11) := (blk_cell BK282.out 11).trans rfl; have hcz39_12 : w38.cell? ⟨gb282, 12, none⟩ = some (.string a0_12) := (blk_cell BK282.out 12).trans rfl; have hcz39_13 : w38.cell? ⟨gb282, 13, none⟩ = some (.int .i64 a0_13) := (blk_cell BK282.out 13).trans rfl; have hcz39_14 : w38.cell? ⟨gb282, 14, none⟩ = some (.int .i64 a0_14) := (blk_cell BK282.out 14).trans rfl; have hcz39_15 : w38.cell? ⟨gb282, 15, none⟩ = some (.string a0_15) := (blk_cell BK282.out 15).trans rfl; have hcz39_16 : w38.cell? ⟨gb282, 16, none⟩ = some (.slice A0_16 l0_16.length c0_16) := (blk_cell BK282.out 16).trans rfl; have hfz39_0 := blk_frozen BK282.out 0; have hfz39_1 := blk_frozen BK282.out 1; have hfz39_2 := blk_frozen BK282.out 2; have hfz39_3 := blk_frozen BK282.out 3; have hfz39_4 := blk_frozen BK282.out 4; have hfz39_5 := blk_frozen BK282.out 5; have hfz39_6 := blk_frozen BK282.out 6; have hfz39_7 := blk_frozen BK282.out 7; have hfz39_8 := blk_frozen BK282.out 8; have hfz39_9 := blk_frozen BK282.out 9; have hfz39_10 := blk_frozen BK282.out 10; have hfz39_11 := blk_frozen BK282.out 11; have hfz39_12 := blk_frozen BK282.out 12; have hfz39_13 := blk_frozen BK282.out 13; have hfz39_14 := blk_frozen BK282.out 14; have hfz39_15 := blk_frozen BK282.out 15; have hfz39_16 := blk_frozen BK282.out 16))
          have n0_ := Aside0.mk (blk_drew BK282.out)
          have n1_ := Aside0.mk (below_drew1 HB.out)
          clear BK282
          clear HB
          have BK282 := n0_
          have HB := n1_
          clear n0_ n1_
          refine start_ (n := 10) (S := fun w' => w'.cell? ⟨gb282, 0, none⟩ = some (.int .i64 a0_0) ∧ w'.cell? ⟨gb282, 1, none⟩ = some (.string a0_1) ∧ w'.cell? ⟨gb282, 2, none⟩ = some (.slice A0_2 l0_2.length c0_2) ∧ w'.cell? ⟨gb282, 3, none⟩ = some (.string a0_3) ∧ w'.cell? ⟨gb282, 4, none⟩ = some (.string a0_4) ∧ w'.cell? ⟨gb282, 5, none⟩ = some (.int .i64 a0_5) ∧ w'.cell? ⟨gb282, 6, none⟩ = some (.int .i64 a0_6) ∧ w'.cell? ⟨gb282, 7, none⟩ = some (.string a0_7) ∧ w'.cell? ⟨gb282, 8, none⟩ = some (.string a0_8) ∧ w'.cell? ⟨gb282, 9, none⟩ = some (.int .i64 a0_9) ∧ w'.cell? ⟨gb282, 10, none⟩ = some (.int .i64 a0_10) ∧ w'.cell? ⟨gb282, 11, none⟩ = some (.string a0_11) ∧ w'.cell? ⟨gb282, 12, none⟩ = some (.string a0_12) ∧ w'.cell? ⟨gb282, 13, none⟩ = some (.int .i64 a0_13) ∧ w'.cell? ⟨gb282, 14, none⟩ = some (.int .i64 a0_14) ∧ w'.cell? ⟨gb282, 15, none⟩ = some (.string a0_15) ∧ w'.cell? ⟨gb282, 16, none⟩ = some (.slice A0_16 l0_16.length c0_16)) (ds := []) #[false, false, false, false, false, false, false, false, false, false] (by kernel_rfl) rfl rfl ⟨(blk_cell BK282.out 0).trans rfl, (blk_cell BK282.out 1).trans rfl, (blk_cell BK282.out 2).trans rfl, (blk_cell BK282.out 3).trans rfl, (blk_cell BK282.out 4).trans rfl, (blk_cell BK282.out 5).trans rfl, (blk_cell BK282.out 6).trans rfl, (blk_cell BK282.out 7).trans rfl, (blk_cell BK282.out 8).trans rfl, (blk_cell BK282.out 9).trans rfl, (blk_cell BK282.out 10).trans rfl, (blk_cell BK282.out 11).trans rfl, (blk_cell BK282.out 12).trans rfl, (blk_cell BK282.out 13).trans rfl, (blk_cell BK282.out 14).trans rfl, (blk_cell BK282.out 15).trans rfl, (blk_cell BK282.out 16).trans rfl⟩ (fun hHeld => ?_); refine with_tabW antecedentref11_Ready.tab11 antecedentref11_Ready.bits11 (fun HT_ HW_ => ?_)
          generalize w38.drew = w40 at BK282 HB hHeld ⊢
          refine pure_ (i := 0) (N := some 30) (v := ?_) (a' := ?_) #[true, false, false, false, false, false, false, false, false, false] rfl rfl (any_of HT_.out (by kernel_rfl)) (fun _ _ _ h => h) (Or.inl ⟨by rfl, ?_⟩) ?_ ?_
          rotate_left
          · intro w'
            go_simp
            with_reducible rfl
          rotate_left
          · simp only [Act.put, List.setIfInBounds_toArray, List.set_cons_zero, List.set_cons_succ, i64_w, i32_w]
            rfl
          refine pure_ (i := 2) (N := some 32) (v := ?_) (a' := ?_) #[true, false, true, false, false, false, false, false, false, false] rfl rfl (any_of HT_.out (by kernel_rfl)) (fun _ _ _ h => h) (Or.inl ⟨by rfl, ?_⟩) ?_ ?_
          rotate_left
          · intro w'
            go_simp
            with_reducible rfl
          rotate_left
          · simp only [Act.put, List.setIfInBounds_toArray, List.set_cons_zero, List.set_cons_succ, i64_w, i32_w]
            rfl
          refine pure_ (i := 4) (N := some 34) (v := ?_) (a' := ?_) #[true, false, true, false, true, false, false, false, false, false] rfl rfl (any_of HT_.out (by kernel_rfl)) (fun _ _ _ h => h) (Or.inl ⟨by rfl, ?_⟩) ?_ ?_
          rotate_left
          · intro w'
            go_simp
            with_reducible rfl
          rotate_left
          · simp only [Act.put, List.setIfInBounds_toArray, List.set_cons_zero, List.set_cons_succ, i64_w, i32_w]
            rfl
          refine pure_ (i := 6) (N := some 36) (v := ?_) (a' := ?_) #[true, false, true, false, true, false, true, false, false, false] rfl rfl (any_of HT_.out (by kernel_rfl)) (fun _ _ _ h => h) (Or.inl ⟨by rfl, ?_⟩) ?_ ?_
          rotate_left
          · intro w'
            go_simp
            with_reducible rfl
          rotate_left
          · simp only [Act.put, List.setIfInBounds_toArray, List.set_cons_zero, List.set_cons_succ, i64_w, i32_w]
            rfl
          refine take_ (i := 1) (N := some 31) (v := ?_) (a' := ?_) #[true, true, true, false, true, false, true, false, false, false] rfl rfl (take_ofW HT_.out HW_.out (by kernel_rfl)) (fun _ _ _ h => h) (Or.inl ⟨by rfl, ?_⟩) hHeld ?_ ?_
          rotate_left
          · rintro w' ⟨s0, s1, s2, s3, s4, s5, s6, s7, s8, s9, s10, s11, s12, s13, s14, s15, s16⟩
            go_simp
            with_reducible rfl
          rotate_left
          · simp only [Act.put, List.setIfInBounds_toArray, List.set_cons_zero, List.set_cons_succ, i64_w, i32_w]
            rfl
          refine take_ (i := 5) (N := some 35) (v := ?_) (a' := ?_) #[true, true, true, false, true, true, true, false, false, false] rfl rfl (take_ofW HT_.out HW_.out (by kernel_rfl)) (fun _ _ _ h => h) (Or.inl ⟨by rfl, ?_⟩) hHeld ?_ ?_
          rotate_left
          · rintro w' ⟨s0, s1, s2, s3, s4, s5, s6, s7, s8, s9, s10, s11, s12, s13, s14, s15, s16⟩
            go_simp
            with_reducible rfl
          rotate_left
          · simp only [Act.put, List.setIfInBounds_toArray, List.set_cons_zero, List.set_cons_succ, i64_w, i32_w]
            rfl
          refine one_ (i := 3) (N := some 33) #[true, true, true, true, true, true, true, false, false, false] rfl rfl (one_of HT_.out (by kernel_rfl)) (by decide) (fun K hK => ?_)
          refine goes_ Try.func43 (by kernel_rfl) rfl #[.agg #[.string a0_4, .int .i64 a0_5, .int .i64 a0_6, .string a0_7], .slice A1 l1.length c1] (by rfl) rfl rfl (by (try simp only [List.map_toArray, List.map_cons, List.map_nil]); first | done | rfl | (simp only [List.length_drop, List.length_take]; rfl)) ?_
          with_reducible refine (antecedentref11_is.calls k a0_4 a0_5 a0_6 a0_7 _ _ l1 false _ ?side1 ?side2 A15.out).mono ?_
          (case side1 => repeat (first | exact (Kd.C_below HR1.out HB.out) | (with_reducible refine Kd.C_alloc ?_ _) | (with_reducible refine Kd.C_drewN ?_ _) | (with_reducible refine Kd.C_drew ?_)))
          (case side2 => exact HC1.out)
          rintro e w41 ⟨rfl, hb⟩
          refine ⟨_, rfl, ?_⟩
          have n0_ := Aside0.mk (blk_below (g := gb282) (o := .cells #[.int .i64 a0_0, .string a0_1, .slice A0_2 l0_2.length c0_2, .string a0_3, .string a0_4, .int .i64 a0_5, .int .i64 a0_6, .string a0_7, .string a0_8, .int .i64 a0_9, .int .i64 a0_10, .string a0_11, .string a0_12, .int .i64 a0_13, .int .i64 a0_14, .string a0_15, .slice A0_16 l0_16.length c0_16] 43 (0, 0)) (by (with_reducible repeat (first | refine blk_drewN ?_ _ | refine blk_drew ?_ | refine blk_alloc ?_ _)); exact BK282.out) hb)
          have n1_ := Aside0.mk (below_step (by repeat (first | (with_reducible first | exact HB.out | apply below_alloc | apply pw_below_drewN | apply below_drew1 | refine below_set ?_ GE282.out) | exact HB.out)) hb)
          clear BK282
          clear HB
          have BK282 := n0_
          have HB := n1_
          clear n0_ n1_
          (try clear hb)
          (try clear hb2)
          (try clear hk)
          (try clear hi)
          refine hK.out _ _ ⟨(blk_cell BK282.out 0).trans rfl, (blk_cell BK282.out 1).trans rfl, (blk_cell BK282.out 2).trans rfl, (blk_cell BK282.out 3).trans rfl, (blk_cell BK282.out 4).trans rfl, (blk_cell BK282.out 5).trans rfl, (blk_cell BK282.out 6).trans rfl, (blk_cell BK282.out 7).trans rfl, (blk_cell BK282.out 8).trans rfl, (blk_cell BK282.out 9).trans rfl, (blk_cell BK282.out 10).trans rfl, (blk_cell BK282.out 11).trans rfl, (blk_cell BK282.out 12).trans rfl, (blk_cell BK282.out 13).trans rfl, (blk_cell BK282.out 14).trans rfl, (blk_cell BK282.out 15).trans rfl, (blk_cell BK282.out 16).trans rfl⟩ (fun hHeld => ?_)
          clear hK K
          refine norm_ (a' := ?_) ?_ ?_
          rotate_left
          · show Act.put _ (some 33) _ = _
            simp only [Act.put, List.setIfInBounds_toArray, List.set_cons_zero, List.set_cons_succ, i64_w, i32_w]
            rfl
          refine one_ (i := 7) (N := some 37) #[true, true, true, true, true, true, true, true, false, false] rfl rfl (one_of HT_.out (by kernel_rfl)) (by decide) (fun K hK => ?_)
          refine goes_ Try.func43 (by kernel_rfl) rfl #[.agg #[.string a0_8, .int .i64 a0_9, .int .i64 a0_10, .string a0_11], .slice A1 l1.length c1] (by rfl) rfl rfl (by (try simp only [List.map_toArray, List.map_cons, List.map_nil]); first | done | rfl | (simp only [List.length_drop, List.length_take]; rfl)) ?_
          with_reducible refine (antecedentref11_is.calls k a0_8 a0_9 a0_10 a0_11 _ _ l1 t289 _ ?side1 ?side2 A16.out).mono ?_
          (case side1 => repeat (first | exact (Kd.C_below HR1.out HB.out) | (with_reducible refine Kd.C_alloc ?_ _) | (with_reducible refine Kd.C_drewN ?_ _) | (with_reducible refine Kd.C_drew ?_)))
          (case side2 => exact HC1.out)
          rintro e w42 ⟨rfl, hb⟩
          refine ⟨_, rfl, ?_⟩
          have n0_ := Aside0.mk (blk_below (g := gb282) (o := .cells #[.int .i64 a0_0, .string a0_1, .slice A0_2 l0_2.length c0_2, .string a0_3, .string a0_4, .int .i64 a0_5, .int .i64 a0_6, .string a0_7, .string a0_8, .int .i64 a0_9, .int .i64 a0_10, .string a0_11, .string a0_12, .int .i64 a0_13, .int .i64 a0_14, .string a0_15, .slice A0_16 l0_16.length c0_16] 43 (0, 0)) (by (with_reducible repeat (first | refine blk_drewN ?_ _ | refine blk_drew ?_ | refine blk_alloc ?_ _)); exact BK282.out) hb)
          have n1_ := Aside0.mk (below_step (by repeat (first | (with_reducible first | exact HB.out | apply below_alloc | apply pw_below_drewN | apply below_drew1 | refine below_set ?_ GE282.out) | exact HB.out)) hb)
          clear BK282
          clear HB
          have BK282 := n0_
          have HB := n1_
          clear n0_ n1_
          (try clear hb)
          (try clear hb2)
          (try clear hk)
          (try clear hi)
          refine hK.out _ _ ⟨(blk_cell BK282.out 0).trans rfl, (blk_cell BK282.out 1).trans rfl, (blk_cell BK282.out 2).trans rfl, (blk_cell BK282.out 3).trans rfl, (blk_cell BK282.out 4).trans rfl, (blk_cell BK282.out 5).trans rfl, (blk_cell BK282.out 6).trans rfl, (blk_cell BK282.out 7).trans rfl, (blk_cell BK282.out 8).trans rfl, (blk_cell BK282.out 9).trans rfl, (blk_cell BK282.out 10).trans rfl, (blk_cell BK282.out 11).trans rfl, (blk_cell BK282.out 12).trans rfl, (blk_cell BK282.out 13).trans rfl, (blk_cell BK282.out 14).trans rfl, (blk_cell BK282.out 15).trans rfl, (blk_cell BK282.out 16).trans rfl⟩ (fun hHeld => ?_)
          clear hK K
          refine norm_ (a' := ?_) ?_ ?_
          rotate_left
          · show Act.put _ (some 37) _ = _
            simp only [Act.put, List.setIfInBounds_toArray, List.set_cons_zero, List.set_cons_succ, i64_w, i32_w]
            rfl
          refine pure_ (i := 8) (N := some 7) (v := ?_) (a' := ?_) #[true, true, true, true, true, true, true, true, true, false] rfl rfl (any_of HT_.out (by kernel_rfl)) (fun _ _ _ h => h) (Or.inl ⟨by rfl, ?_⟩) ?_ ?_
          rotate_left
          · intro w'
            go_simp
            with_reducible rfl
          rotate_left
          · simp only [Act.put, List.setIfInBounds_toArray, List.set_cons_zero, List.set_cons_succ, i64_w, i32_w]
            rfl
          refine pure_ (i := 9) (N := some 8) (v := ?_) (a' := ?_) #[true, true, true, true, true, true, true, true, true, true] rfl rfl (any_of HT_.out (by kernel_rfl)) (fun _ _ _ h => h) (Or.inl ⟨by rfl, ?_⟩) ?_ ?_
          rotate_left
          · intro w'
            go_simp
            with_reducible rfl
          rotate_left
          · simp only [Act.put, List.setIfInBounds_toArray, List.set_cons_zero, List.set_cons_succ, i64_w, i32_w]
            rfl
          refine done_ (done_of HT_.out (by kernel_rfl)) ?_
          have hcz43_0 : w42.cell? ⟨gb282, 0, none⟩ = some (.int .i64 a0_0) := (blk_cell BK282.out 0).trans rfl
          have hcz43_1 : w42.cell? ⟨gb282, 1, none⟩ = some (.string a0_1) := (blk_cell BK282.out 1).trans rfl
          have hcz43_2 : w42.cell? ⟨gb282, 2, none⟩ = some (.slice A0_2 l0_2.length c0_2) := (blk_cell BK282.out 2).trans rfl
          have hcz43_3 : w42.cell? ⟨gb282, 3, none⟩ = some (.string a0_3) := (blk_cell BK282.out 3).trans rfl
          have hcz43_4 : w42.cell? ⟨gb282, 4, none⟩ = some (.string a0_4) := (blk_cell BK282.out 4).trans rfl
          have hcz43_5 : w42.cell? ⟨gb282, 5, none⟩ = some (.int .i64 a0_5) := (blk_cell BK282.out 5).trans rfl
          have hcz43_6 : w42.cell? ⟨gb282, 6, none⟩ = some (.int .i64 a0_6) := (blk_cell BK282.out 6).trans rfl
          have hcz43_7 : w42.cell? ⟨gb282, 7, none⟩ = some (.string a0_7) := (blk_cell BK282.out 7).trans rfl
          have hcz43_8 : w42.cell? ⟨gb282, 8, none⟩ = some (.string a0_8) := (blk_cell BK282.out 8).trans rfl
          have hcz43_9 : w42.cell? ⟨gb282, 9, none⟩ = some (.int .i64 a0_9) := (blk_cell BK282.out 9).trans rfl
          have hcz43_10 : w42.cell? ⟨gb282, 10, none⟩ = some (.int .i64 a0_10) := (blk_cell BK282.out 10).trans rfl
          have hcz43_11 : w42.cell? ⟨gb282, 11, none⟩ = some (.string a0_11) := (blk_cell BK282.out 11).trans rfl
          have hcz43_12 : w42.cell? ⟨gb282, 12, none⟩ = some (.string a0_12) := (blk_cell BK282.out 12).trans rfl
          have hcz43_13 : w42.cell? ⟨gb282, 13, none⟩ = some (.int .i64 a0_13) := (blk_cell BK282.out 13).trans rfl
          have hcz43_14 : w42.cell? ⟨gb282, 14, none⟩ = some (.int .i64 a0_14) := (blk_cell BK282.out 14).trans rfl
          have hcz43_15 : w42.cell? ⟨gb282, 15, none⟩ = some (.string a0_15) := (blk_cell BK282.out 15).trans rfl
          have hcz43_16 : w42.cell? ⟨gb282, 16, none⟩ = some (.slice A0_16 l0_16.length c0_16) := (blk_cell BK282.out 16).trans rfl
          have hfz43_0 := blk_frozen BK282.out 0
          have hfz43_1 := blk_frozen BK282.out 1
          have hfz43_2 := blk_frozen BK282.out 2
          have hfz43_3 := blk_frozen BK282.out 3
          have hfz43_4 := blk_frozen BK282.out 4
          have hfz43_5 := blk_frozen BK282.out 5
          have hfz43_6 := blk_frozen BK282.out 6
          have hfz43_7 := blk_frozen BK282.out 7
          have hfz43_8 := blk_frozen BK282.out 8
          have hfz43_9 := blk_frozen BK282.out 9
          have hfz43_10 := blk_frozen BK282.out 10
          have hfz43_11 := blk_frozen BK282.out 11
          have hfz43_12 := blk_frozen BK282.out 12
          have hfz43_13 := blk_frozen BK282.out 13
          have hfz43_14 := blk_frozen BK282.out 14
          have hfz43_15 := blk_frozen BK282.out 15
          have hfz43_16 := blk_frozen BK282.out 16
          try go_wp2
          go_ret
          exact ⟨by first | rfl | (simp [errW_none, errW_some] <;> rfl) | (simp [*, errW_none, errW_some] <;> rfl), by repeat (first | (with_reducible first | exact HB.out | apply below_alloc | apply pw_below_drewN | apply below_drew1 | refine below_set ?_ GE282.out) | exact HB.out)⟩
        · rw [if_neg c37] at H
          have c37b0 : (a0_3.toList == ([61] : List UInt8)) = false := beq_eq_false_iff_ne.mpr c37
          have c37b1 : (a0_3.toList != ([61] : List UInt8)) = true := bne_iff_ne.mpr c37
          obtain rfl := Option.some.inj H
          go_enter Try.func29, Try.ntmps29
          try go_wp2_with (first | ((with_reducible refine gate_dst (N := 2) rfl ?_); refine box_event ?hg (N := 2) ?hd (cs := #[.int .i64 a0_0, .string a0_1, .slice A0_2 l0_2.length c0_2, .string a0_3, .string a0_4, .int .i64 a0_5, .int .i64 a0_6, .string a0_7, .string a0_8, .int .i64 a0_9, .int .i64 a0_10, .string a0_11, .string a0_12, .int .i64 a0_13, .int .i64 a0_14, .string a0_15, .slice A0_16 l0_16.length c0_16]) (t := 43) ?hr ?_; (case hd => rfl); (case hg => rfl); (case hr => first | (go_simp; done) | (go_simp; rfl)); intro gb282 hg w44 hbox hb; have n0_ := Aside0.mk (below_step (by repeat (first | (with_reducible first | exact HB.out | apply below_alloc | apply pw_below_drewN | apply below_drew1) | exact HB.out)) hb); have n1_ := Aside0.mk (hbox); have n2_ := Aside0.mk ((by rw [hg]; exact (below_size (by repeat (first | (with_reducible first | exact HB.out | apply below_alloc | apply pw_below_drewN | apply below_drew1) | exact HB.out))) : w.heap.size ≤ gb282)); have n3_ := Aside0.mk ((by rw [hg]; exact (below_size (by repeat (first | (with_reducible first | exact HB.out | apply below_alloc | apply pw_below_drewN | apply below_drew1) | exact HB.out))) : w.heap.size ≤ gb282)); clear HB; have HB := n0_; have BK282 := n1_; have GW282 := n2_; have GE282 := n3_; clear n0_ n1_ n2_ n3_; clear hb hbox hg; have hcz45_0 : w44.cell? ⟨gb282, 0, none⟩ = some (.int .i64 a0_0) := (blk_cell BK282.out 0).trans rfl; have hcz45_1 : w44.cell? ⟨gb282, 1, none⟩ = some (.string a0_1) := (blk_cell BK282.out 1).trans rfl; have hcz45_2 : w44.cell? ⟨gb282, 2, none⟩ = some (.slice A0_2 l0_2.length c0_2) := (blk_cell BK282.out 2).trans rfl; have hcz45_3 : w44.cell? ⟨gb282, 3, none⟩ = some (.string a0_3) := (blk_cell BK282.out 3).trans rfl; have hcz45_4 : w44.cell? ⟨gb282, 4, none⟩ = some (.string a0_4) := (blk_cell BK282.out 4).trans rfl; have hcz45_5 : w44.cell? ⟨gb282, 5, none⟩ = some (.int .i64 a0_5) := (blk_cell BK282.out 5).trans rfl; have hcz45_6 : w44.cell? ⟨gb282, 6, none⟩ = some (.int .i64 a0_6) := (blk_cell BK282.out 6).trans rfl; have hcz45_7 : w44.cell? ⟨gb282, 7, none⟩ = some (.string a0_7) := (blk_cell BK282.out 7).trans rfl; have hcz45_8 : w44.cell? ⟨gb282, 8, none⟩ = some (.string a0_8) := (blk_cell BK282.out 8).trans rfl; have hcz45_9 : w44.cell? ⟨gb282, 9, none⟩ = some (.int .i64 a0_9) := (blk_cell BK282.out 9).trans rfl; have hcz45_10 : w44.cell? ⟨gb282, 10, none⟩ = some (.int .i64 a0_10) := (blk_cell BK282.out 10).trans rfl; have hcz45_11 : w44.cell? ⟨gb282, 11, none⟩ = some (.string a0_11) := (blk_cell BK282.out 11).trans rfl; have hcz45_12 : w44.cell? ⟨gb282, 12, none⟩ = some (.string a0_12) := (blk_cell BK282.out 12).trans rfl; have hcz45_13 : w44.cell? ⟨gb282, 13, none⟩ = some (.int .i64 a0_13) := (blk_cell BK282.out 13).trans rfl; have hcz45_14 : w44.cell? ⟨gb282, 14, none⟩ = some (.int .i64 a0_14) := (blk_cell BK282.out 14).trans rfl; have hcz45_15 : w44.cell? ⟨gb282, 15, none⟩ = some (.string a0_15) := (blk_cell BK282.out 15).trans rfl; have hcz45_16 : w44.cell? ⟨gb282, 16, none⟩ = some (.slice A0_16 l0_16.length c0_16) := (blk_cell BK282.out 16).trans rfl; have hfz45_0 := blk_frozen BK282.out 0; have hfz45_1 := blk_frozen BK282.out 1; have hfz45_2 := blk_frozen BK282.out 2; have hfz45_3 := blk_frozen BK282.out 3; have hfz45_4 := blk_frozen BK282.out 4; have hfz45_5 := blk_frozen BK282.out 5; have hfz45_6 := blk_frozen BK282.out 6; have hfz45_7 := blk_frozen BK282.out 7; have hfz45_8 := blk_frozen BK282.out 8; have hfz45_9 := blk_frozen BK282.out 9; have hfz45_10 := blk_frozen BK282.out 10; have hfz45_11 := blk_frozen BK282.out 11; have hfz45_12 := blk_frozen BK282.out 12; have hfz45_13 := blk_frozen BK282.out 13; have hfz45_14 := blk_frozen BK282.out 14; have hfz45_15 := blk_frozen BK282.out 15; have hfz45_16 := blk_frozen BK282.out 16))
          have n0_ := Aside0.mk (blk_drew BK282.out)
          have n1_ := Aside0.mk (below_drew1 HB.out)
          clear BK282
          clear HB
          have BK282 := n0_
          have HB := n1_
          clear n0_ n1_
          refine start_ (n := 10) (S := fun w' => w'.cell? ⟨gb282, 0, none⟩ = some (.int .i64 a0_0) ∧ w'.cell? ⟨gb282, 1, none⟩ = some (.string a0_1) ∧ w'.cell? ⟨gb282, 2, none⟩ = some (.slice A0_2 l0_2.length c0_2) ∧ w'.cell? ⟨gb282, 3, none⟩ = some (.string a0_3) ∧ w'.cell? ⟨gb282, 4, none⟩ = some (.string a0_4) ∧ w'.cell? ⟨gb282, 5, none⟩ = some (.int .i64 a0_5) ∧ w'.cell? ⟨gb282, 6, none⟩ = some (.int .i64 a0_6) ∧ w'.cell? ⟨gb282, 7, none⟩ = some (.string a0_7) ∧ w'.cell? ⟨gb282, 8, none⟩ = some (.string a0_8) ∧ w'.cell? ⟨gb282, 9, none⟩ = some (.int .i64 a0_9) ∧ w'.cell? ⟨gb282, 10, none⟩ = some (.int .i64 a0_10) ∧ w'.cell? ⟨gb282, 11, none⟩ = some (.string a0_11) ∧ w'.cell? ⟨gb282, 12, none⟩ = some (.string a0_12) ∧ w'.cell? ⟨gb282, 13, none⟩ = some (.int .i64 a0_13) ∧ w'.cell? ⟨gb282, 14, none⟩ = some (.int .i64 a0_14) ∧ w'.cell? ⟨gb282, 15, none⟩ = some (.string a0_15) ∧ w'.cell? ⟨gb282, 16, none⟩ = some (.slice A0_16 l0_16.length c0_16)) (ds := []) #[false, false, false, false, false, false, false, false, false, false] (by kernel_rfl) rfl rfl ⟨(blk_cell BK282.out 0).trans rfl, (blk_cell BK282.out 1).trans rfl, (blk_cell BK282.out 2).trans rfl, (blk_cell BK282.out 3).trans rfl, (blk_cell BK282.out 4).trans rfl, (blk_cell BK282.out 5).trans rfl, (blk_cell BK282.out 6).trans rfl, (blk_cell BK282.out 7).trans rfl, (blk_cell BK282.out 8).trans rfl, (blk_cell BK282.out 9).trans rfl, (blk_cell BK282.out 10).trans rfl, (blk_cell BK282.out 11).trans rfl, (blk_cell BK282.out 12).trans rfl, (blk_cell BK282.out 13).trans rfl, (blk_cell BK282.out 14).trans rfl, (blk_cell BK282.out 15).trans rfl, (blk_cell BK282.out 16).trans rfl⟩ (fun hHeld => ?_); refine with_tabW antecedentref11_Ready.tab11 antecedentref11_Ready.bits11 (fun HT_ HW_ => ?_)
          generalize w44.drew = w46 at BK282 HB hHeld ⊢
          refine pure_ (i := 0) (N := some 30) (v := ?_) (a' := ?_) #[true, false, false, false, false, false, false, false, false, false] rfl rfl (any_of HT_.out (by kernel_rfl)) (fun _ _ _ h => h) (Or.inl ⟨by rfl, ?_⟩) ?_ ?_
          rotate_left
          · intro w'
            go_simp
            with_reducible rfl
          rotate_left
          · simp only [Act.put, List.setIfInBounds_toArray, List.set_cons_zero, List.set_cons_succ, i64_w, i32_w]
            rfl
          refine pure_ (i := 2) (N := some 32) (v := ?_) (a' := ?_) #[true, false, true, false, false, false, false, false, false, false] rfl rfl (any_of HT_.out (by kernel_rfl)) (fun _ _ _ h => h) (Or.inl ⟨by rfl, ?_⟩) ?_ ?_
          rotate_left
          · intro w'
            go_simp
            with_reducible rfl
          rotate_left
          · simp only [Act.put, List.setIfInBounds_toArray, List.set_cons_zero, List.set_cons_succ, i64_w, i32_w]
            rfl
          refine pure_ (i := 4) (N := some 34) (v := ?_) (a' := ?_) #[true, false, true, false, true, false, false, false, false, false] rfl rfl (any_of HT_.out (by kernel_rfl)) (fun _ _ _ h => h) (Or.inl ⟨by rfl, ?_⟩) ?_ ?_
          rotate_left
          · intro w'
            go_simp
            with_reducible rfl
          rotate_left
          · simp only [Act.put, List.setIfInBounds_toArray, List.set_cons_zero, List.set_cons_succ, i64_w, i32_w]
            rfl
          refine pure_ (i := 6) (N := some 36) (v := ?_) (a' := ?_) #[true, false, true, false, true, false, true, false, false, false] rfl rfl (any_of HT_.out (by kernel_rfl)) (fun _ _ _ h => h) (Or.inl ⟨by rfl, ?_⟩) ?_ ?_
          rotate_left
          · intro w'
            go_simp
            with_reducible rfl
          rotate_left
          · simp only [Act.put, List.setIfInBounds_toArray, List.set_cons_zero, List.set_cons_succ, i64_w, i32_w]
            rfl
          refine take_ (i := 1) (N := some 31) (v := ?_) (a' := ?_) #[true, true, true, false, true, false, true, false, false, false] rfl rfl (take_ofW HT_.out HW_.out (by kernel_rfl)) (fun _ _ _ h => h) (Or.inl ⟨by rfl, ?_⟩) hHeld ?_ ?_
          rotate_left
          · rintro w' ⟨s0, s1, s2, s3, s4, s5, s6, s7, s8, s9, s10, s11, s12, s13, s14, s15, s16⟩
            go_simp
            with_reducible rfl
          rotate_left
          · simp only [Act.put, List.setIfInBounds_toArray, List.set_cons_zero, List.set_cons_succ, i64_w, i32_w]
            rfl
          refine take_ (i := 5) (N := some 35) (v := ?_) (a' := ?_) #[true, true, true, false, true, true, true, false, false, false] rfl rfl (take_ofW HT_.out HW_.out (by kernel_rfl)) (fun _ _ _ h => h) (Or.inl ⟨by rfl, ?_⟩) hHeld ?_ ?_
          rotate_left
          · rintro w' ⟨s0, s1, s2, s3, s4, s5, s6, s7, s8, s9, s10, s11, s12, s13, s14, s15, s16⟩
            go_simp
            with_reducible rfl
          rotate_left
          · simp only [Act.put, List.setIfInBounds_toArray, List.set_cons_zero, List.set_cons_succ, i64_w, i32_w]
            rfl
          refine one_ (i := 3) (N := some 33) #[true, true, true, true, true, true, true, false, false, false] rfl rfl (one_of HT_.out (by kernel_rfl)) (by decide) (fun K hK => ?_)
          refine goes_ Try.func43 (by kernel_rfl) rfl #[.agg #[.string a0_4, .int .i64 a0_5, .int .i64 a0_6, .string a0_7], .slice A1 l1.length c1] (by rfl) rfl rfl (by (try simp only [List.map_toArray, List.map_cons, List.map_nil]); first | done | rfl | (simp only [List.length_drop, List.length_take]; rfl)) ?_
          with_reducible refine (antecedentref11_is.calls k a0_4 a0_5 a0_6 a0_7 _ _ l1 false _ ?side1 ?side2 A15.out).mono ?_
          (case side1 => repeat (first | exact (Kd.C_below HR1.out HB.out) | (with_reducible refine Kd.C_alloc ?_ _) | (with_reducible refine Kd.C_drewN ?_ _) | (with_reducible refine Kd.C_drew ?_)))
          (case side2 => exact HC1.out)
          rintro e w47 ⟨rfl, hb⟩
          refine ⟨_, rfl, ?_⟩
          have n0_ := Aside0.mk (blk_below (g := gb282) (o := .cells #[.int .i64 a0_0, .string a0_1, .slice A0_2 l0_2.length c0_2, .string a0_3, .string a0_4, .int .i64 a0_5, .int .i64 a0_6, .string a0_7, .string a0_8, .int .i64 a0_9, .int .i64 a0_10, .string a0_11, .string a0_12, .int .i64 a0_13, .int .i64 a0_14, .string a0_15, .slice A0_16 l0_16.length c0_16] 43 (0, 0)) (by (with_reducible repeat (first | refine blk_drewN ?_ _ | refine blk_drew ?_ | refine blk_alloc ?_ _)); exact BK282.out) hb)
          have n1_ := Aside0.mk (below_step (by repeat (first | (with_reducible first | exact HB.out | apply below_alloc | apply pw_below_drewN | apply below_drew1 | refine below_set ?_ GE282.out) | exact HB.out)) hb)
          clear BK282
          clear HB
          have BK282 := n0_
          have HB := n1_
          clear n0_ n1_
          (try clear hb)
          (try clear hb2)
          (try clear hk)
          (try clear hi)
          refine hK.out _ _ ⟨(blk_cell BK282.out 0).trans rfl, (blk_cell BK282.out 1).trans rfl, (blk_cell BK282.out 2).trans rfl, (blk_cell BK282.out 3).trans rfl, (blk_cell BK282.out 4).trans rfl, (blk_cell BK282.out 5).trans rfl, (blk_cell BK282.out 6).trans rfl, (blk_cell BK282.out 7).trans rfl, (blk_cell BK282.out 8).trans rfl, (blk_cell BK282.out 9).trans rfl, (blk_cell BK282.out 10).trans rfl, (blk_cell BK282.out 11).trans rfl, (blk_cell BK282.out 12).trans rfl, (blk_cell BK282.out 13).trans rfl, (blk_cell BK282.out 14).trans rfl, (blk_cell BK282.out 15).trans rfl, (blk_cell BK282.out 16).trans rfl⟩ (fun hHeld => ?_)
          clear hK K
          refine norm_ (a' := ?_) ?_ ?_
          rotate_left
          · show Act.put _ (some 33) _ = _
            simp only [Act.put, List.setIfInBounds_toArray, List.set_cons_zero, List.set_cons_succ, i64_w, i32_w]
            rfl
          refine one_ (i := 7) (N := some 37) #[true, true, true, true, true, true, true, true, false, false] rfl rfl (one_of HT_.out (by kernel_rfl)) (by decide) (fun K hK => ?_)
          refine goes_ Try.func43 (by kernel_rfl) rfl #[.agg #[.string a0_8, .int .i64 a0_9, .int .i64 a0_10, .string a0_11], .slice A1 l1.length c1] (by rfl) rfl rfl (by (try simp only [List.map_toArray, List.map_cons, List.map_nil]); first | done | rfl | (simp only [List.length_drop, List.length_take]; rfl)) ?_
          with_reducible refine (antecedentref11_is.calls k a0_8 a0_9 a0_10 a0_11 _ _ l1 t289 _ ?side1 ?side2 A16.out).mono ?_
          (case side1 => repeat (first | exact (Kd.C_below HR1.out HB.out) | (with_reducible refine Kd.C_alloc ?_ _) | (with_reducible refine Kd.C_drewN ?_ _) | (with_reducible refine Kd.C_drew ?_)))
          (case side2 => exact HC1.out)
          rintro e w48 ⟨rfl, hb⟩
          refine ⟨_, rfl, ?_⟩
          have n0_ := Aside0.mk (blk_below (g := gb282) (o := .cells #[.int .i64 a0_0, .string a0_1, .slice A0_2 l0_2.length c0_2, .string a0_3, .string a0_4, .int .i64 a0_5, .int .i64 a0_6, .string a0_7, .string a0_8, .int .i64 a0_9, .int .i64 a0_10, .string a0_11, .string a0_12, .int .i64 a0_13, .int .i64 a0_14, .string a0_15, .slice A0_16 l0_16.length c0_16] 43 (0, 0)) (by (with_reducible repeat (first | refine blk_drewN ?_ _ | refine blk_drew ?_ | refine blk_alloc ?_ _)); exact BK282.out) hb)
          have n1_ := Aside0.mk (below_step (by repeat (first | (with_reducible first | exact HB.out | apply below_alloc | apply pw_below_drewN | apply below_drew1 | refine below_set ?_ GE282.out) | exact HB.out)) hb)
          clear BK282
          clear HB
          have BK282 := n0_
          have HB := n1_
          clear n0_ n1_
          (try clear hb)
          (try clear hb2)
          (try clear hk)
          (try clear hi)
          refine hK.out _ _ ⟨(blk_cell BK282.out 0).trans rfl, (blk_cell BK282.out 1).trans rfl, (blk_cell BK282.out 2).trans rfl, (blk_cell BK282.out 3).trans rfl, (blk_cell BK282.out 4).trans rfl, (blk_cell BK282.out 5).trans rfl, (blk_cell BK282.out 6).trans rfl, (blk_cell BK282.out 7).trans rfl, (blk_cell BK282.out 8).trans rfl, (blk_cell BK282.out 9).trans rfl, (blk_cell BK282.out 10).trans rfl, (blk_cell BK282.out 11).trans rfl, (blk_cell BK282.out 12).trans rfl, (blk_cell BK282.out 13).trans rfl, (blk_cell BK282.out 14).trans rfl, (blk_cell BK282.out 15).trans rfl, (blk_cell BK282.out 16).trans rfl⟩ (fun hHeld => ?_)
          clear hK K
          refine norm_ (a' := ?_) ?_ ?_
          rotate_left
          · show Act.put _ (some 37) _ = _
            simp only [Act.put, List.setIfInBounds_toArray, List.set_cons_zero, List.set_cons_succ, i64_w, i32_w]
            rfl
          refine pure_ (i := 8) (N := some 7) (v := ?_) (a' := ?_) #[true, true, true, true, true, true, true, true, true, false] rfl rfl (any_of HT_.out (by kernel_rfl)) (fun _ _ _ h => h) (Or.inl ⟨by rfl, ?_⟩) ?_ ?_
          rotate_left
          · intro w'
            go_simp
            with_reducible rfl
          rotate_left
          · simp only [Act.put, List.setIfInBounds_toArray, List.set_cons_zero, List.set_cons_succ, i64_w, i32_w]
            rfl
          refine pure_ (i := 9) (N := some 8) (v := ?_) (a' := ?_) #[true, true, true, true, true, true, true, true, true, true] rfl rfl (any_of HT_.out (by kernel_rfl)) (fun _ _ _ h => h) (Or.inl ⟨by rfl, ?_⟩) ?_ ?_
          rotate_left
          · intro w'
            go_simp
            with_reducible rfl
          rotate_left
          · simp only [Act.put, List.setIfInBounds_toArray, List.set_cons_zero, List.set_cons_succ, i64_w, i32_w]
            rfl
          refine done_ (done_of HT_.out (by kernel_rfl)) ?_
          have hcz49_0 : w48.cell? ⟨gb282, 0, none⟩ = some (.int .i64 a0_0) := (blk_cell BK282.out 0).trans rfl
          have hcz49_1 : w48.cell? ⟨gb282, 1, none⟩ = some (.string a0_1) := (blk_cell BK282.out 1).trans rfl
          have hcz49_2 : w48.cell? ⟨gb282, 2, none⟩ = some (.slice A0_2 l0_2.length c0_2) := (blk_cell BK282.out 2).trans rfl
          have hcz49_3 : w48.cell? ⟨gb282, 3, none⟩ = some (.string a0_3) := (blk_cell BK282.out 3).trans rfl
          have hcz49_4 : w48.cell? ⟨gb282, 4, none⟩ = some (.string a0_4) := (blk_cell BK282.out 4).trans rfl
          have hcz49_5 : w48.cell? ⟨gb282, 5, none⟩ = some (.int .i64 a0_5) := (blk_cell BK282.out 5).trans rfl
          have hcz49_6 : w48.cell? ⟨gb282, 6, none⟩ = some (.int .i64 a0_6) := (blk_cell BK282.out 6).trans rfl
          have hcz49_7 : w48.cell? ⟨gb282, 7, none⟩ = some (.string a0_7) := (blk_cell BK282.out 7).trans rfl
          have hcz49_8 : w48.cell? ⟨gb282, 8, none⟩ = some (.string a0_8) := (blk_cell BK282.out 8).trans rfl
          have hcz49_9 : w48.cell? ⟨gb282, 9, none⟩ = some (.int .i64 a0_9) := (blk_cell BK282.out 9).trans rfl
          have hcz49_10 : w48.cell? ⟨gb282, 10, none⟩ = some (.int .i64 a0_10) := (blk_cell BK282.out 10).trans rfl
          have hcz49_11 : w48.cell? ⟨gb282, 11, none⟩ = some (.string a0_11) := (blk_cell BK282.out 11).trans rfl
          have hcz49_12 : w48.cell? ⟨gb282, 12, none⟩ = some (.string a0_12) := (blk_cell BK282.out 12).trans rfl
          have hcz49_13 : w48.cell? ⟨gb282, 13, none⟩ = some (.int .i64 a0_13) := (blk_cell BK282.out 13).trans rfl
          have hcz49_14 : w48.cell? ⟨gb282, 14, none⟩ = some (.int .i64 a0_14) := (blk_cell BK282.out 14).trans rfl
          have hcz49_15 : w48.cell? ⟨gb282, 15, none⟩ = some (.string a0_15) := (blk_cell BK282.out 15).trans rfl
          have hcz49_16 : w48.cell? ⟨gb282, 16, none⟩ = some (.slice A0_16 l0_16.length c0_16) := (blk_cell BK282.out 16).trans rfl
          have hfz49_0 := blk_frozen BK282.out 0
          have hfz49_1 := blk_frozen BK282.out 1
          have hfz49_2 := blk_frozen BK282.out 2
          have hfz49_3 := blk_frozen BK282.out 3
          have hfz49_4 := blk_frozen BK282.out 4
          have hfz49_5 := blk_frozen BK282.out 5
          have hfz49_6 := blk_frozen BK282.out 6
          have hfz49_7 := blk_frozen BK282.out 7
          have hfz49_8 := blk_frozen BK282.out 8
          have hfz49_9 := blk_frozen BK282.out 9
          have hfz49_10 := blk_frozen BK282.out 10
          have hfz49_11 := blk_frozen BK282.out 11
          have hfz49_12 := blk_frozen BK282.out 12
          have hfz49_13 := blk_frozen BK282.out 13
          have hfz49_14 := blk_frozen BK282.out 14
          have hfz49_15 := blk_frozen BK282.out 15
          have hfz49_16 := blk_frozen BK282.out 16
          try go_wp2
          go_ret
          exact ⟨by first | rfl | (simp [errW_none, errW_some] <;> rfl) | (simp [*, errW_none, errW_some] <;> rfl), by repeat (first | (with_reducible first | exact HB.out | apply below_alloc | apply pw_below_drewN | apply below_drew1 | refine below_set ?_ GE282.out) | exact HB.out)⟩
    · rw [if_neg c14] at H
      have c14b0 : (a0_0 == 3) = false := beq_eq_false_iff_ne.mpr c14
      have c14b1 : (a0_0 != 3) = true := bne_iff_ne.mpr c14
      by_cases c50 : a0_0 = 4
      · rw [if_pos c50] at H
        have c50b0 : (a0_0 == 4) = true := beq_iff_eq.mpr c50
        have c50b1 : (a0_0 != 4) = false := bne_eq_false_iff_eq.mpr c50
        clear c50
        replace H := Option.bind_eq_some_iff.mp H
        obtain ⟨t290, A510, H⟩ := H
        replace H : (if t290 = true then ((antecedentref11_is.f k a0_12 a0_13 a0_14 a0_15 l1).bind fun t291 => (some t291)) else (some false)) = some r := H
        have A51 := Aside0.mk A510
        clear A510
        by_cases c52 : t290 = true
        · subst c52
          have H1 : ((antecedentref11_is.f k a0_12 a0_13 a0_14 a0_15 l1).bind fun t291 => (some t291)) = some r := by rw [if_pos rfl] at H; exact H
          clear H
          have H := H1
          clear H1
          replace H := Option.bind_eq_some_iff.mp H
          obtain ⟨t291, A530, H⟩ := H
          replace H : (some t291) = some r := H
          have A53 := Aside0.mk A530
          clear A530
          obtain rfl := Option.some.inj H
          go_enter Try.func29, Try.ntmps29
          go_wp2_with (first | ((with_reducible refine gate_dst (N := 2) rfl ?_); refine box_event ?hg (N := 2) ?hd (cs := #[.int .i64 a0_0, .string a0_1, .slice A0_2 l0_2.length c0_2, .string a0_3, .string a0_4, .int .i64 a0_5, .int .i64 a0_6, .string a0_7, .string a0_8, .int .i64 a0_9, .int .i64 a0_10, .string a0_11, .string a0_12, .int .i64 a0_13, .int .i64 a0_14, .string a0_15, .slice A0_16 l0_16.length c0_16]) (t := 43) ?hr ?_; (case hd => rfl); (case hg => rfl); (case hr => first | (go_simp; done) | (go_simp; rfl)); intro gb282 hg w54 hbox hb; have n0_ := Aside0.mk (below_step (by repeat (first | (with_reducible first | exact HB.out | apply below_alloc | apply pw_below_drewN | apply below_drew1) | exact HB.out)) hb); have n1_ := Aside0.mk (hbox); have n2_ := Aside0.mk ((by rw [hg]; exact (below_size (by repeat (first | (with_reducible first | exact HB.out | apply below_alloc | apply pw_below_drewN | apply below_drew1) | exact HB.out))) : w.heap.size ≤ gb282)); have n3_ := Aside0.mk ((by rw [hg]; exact (below_size (by repeat (first | (with_reducible first | exact HB.out | apply below_alloc | apply pw_below_drewN | apply below_drew1) | exact HB.out))) : w.heap.size ≤ gb282)); clear HB; have HB := n0_; have BK282 := n1_; have GW282 := n2_; have GE282 := n3_; clear n0_ n1_ n2_ n3_; clear hb hbox hg; have hcz55_0 : w54.cell? ⟨gb282, 0, none⟩ = some (.int .i64 a0_0) := (blk_cell BK282.out 0).trans rfl; have hcz55_1 : w54.cell? ⟨gb282, 1, none⟩ = some (.string a0_1) := (blk_cell BK282.out 1).trans rfl; have hcz55_2 : w54.cell? ⟨gb282, 2, none⟩ = some (.slice A0_2 l0_2.length c0_2) := (blk_cell BK282.out 2).trans rfl; have hcz55_3 : w54.cell? ⟨gb282, 3, none⟩ = some (.string a0_3) := (blk_cell BK282.out 3).trans rfl; have hcz55_4 : w54.cell? ⟨gb282, 4, none⟩ = some (.string a0_4) := (blk_cell BK282.out 4).trans rfl; have hcz55_5 : w54.cell? ⟨gb282, 5, none⟩ = some (.int .i64 a0_5) := (blk_cell BK282.out 5).trans rfl; have hcz55_6 : w54.cell? ⟨gb282, 6, none⟩ = some (.int .i64 a0_6) := (blk_cell BK282.out 6).trans rfl; have hcz55_7 : w54.cell? ⟨gb282, 7, none⟩ = some (.string a0_7) := (blk_cell BK282.out 7).trans rfl; have hcz55_8 : w54.cell? ⟨gb282, 8, none⟩ = some (.string a0_8) := (blk_cell BK282.out 8).trans rfl; have hcz55_9 : w54.cell? ⟨gb282, 9, none⟩ = some (.int .i64 a0_9) := (blk_cell BK282.out 9).trans rfl; have hcz55_10 : w54.cell? ⟨gb282, 10, none⟩ = some (.int .i64 a0_10) := (blk_cell BK282.out 10).trans rfl; have hcz55_11 : w54.cell? ⟨gb282, 11, none⟩ = some (.string a0_11) := (blk_cell BK282.out 11).trans rfl; have hcz55_12 : w54.cell? ⟨gb282, 12, none⟩ = some (.string a0_12) := (blk_cell BK282.out 12).trans rfl; have hcz55_13 : w54.cell? ⟨gb282, 13, none⟩ = some (.int .i64 a0_13) := (blk_cell BK282.out 13).trans rfl; have hcz55_14 : w54.cell? ⟨gb282, 14, none⟩ = some (.int .i64 a0_14) := (blk_cell BK282.out 14).trans rfl; have hcz55_15 : w54.cell? ⟨gb282, 15, none⟩ = some (.string a0_15) := (blk_cell BK282.out 15).trans rfl; have hcz55_16 : w54.cell? ⟨gb282, 16, none⟩ = some (.slice A0_16 l0_16.length c0_16) := (blk_cell BK282.out 16).trans rfl; have hfz55_0 := blk_frozen BK282.out 0; have hfz55_1 := blk_frozen BK282.out 1; have hfz55_2 := blk_frozen BK282.out 2; have hfz55_3 := blk_frozen BK282.out 3; have hfz55_4 := blk_frozen BK282.out 4; have hfz55_5 := blk_frozen BK282.out 5; have hfz55_6 := blk_frozen BK282.out 6; have hfz55_7 := blk_frozen BK282.out 7; have hfz55_8 := blk_frozen BK282.out 8; have hfz55_9 := blk_frozen BK282.out 9; have hfz55_10 := blk_frozen BK282.out 10; have hfz55_11 := blk_frozen BK282.out 11; have hfz55_12 := blk_frozen BK282.out 12; have hfz55_13 := blk_frozen BK282.out 13; have hfz55_14 := blk_frozen BK282.out 14; have hfz55_15 := blk_frozen BK282.out 15; have hfz55_16 := blk_frozen BK282.out 16) | ((with_reducible refine gate_callee (f := 43) rfl ?_); refine goesL_ (some 58) rfl rfl Try.func43 (by kernel_rfl) rfl #[.agg #[.string a0_8, .int .i64 a0_9, .int .i64 a0_10, .string a0_11], .slice A1 l1.length c1] rfl (by (try simp only [List.map_toArray, List.map_cons, List.map_nil]); first | done | rfl | (simp only [List.length_drop, List.length_take]; rfl)) ?_; (with_reducible refine (antecedentref11_is.calls k a0_8 a0_9 a0_10 a0_11 _ _ l1 true _ ?side1 ?side2 A51.out).mono ?_); (case side1 => repeat (first | exact (Kd.C_below HR1.out HB.out) | (with_reducible refine Kd.C_alloc ?_ _) | (with_reducible refine Kd.C_drewN ?_ _) | (with_reducible refine Kd.C_drew ?_))); (case side2 => exact HC1.out); rintro e w56 ⟨rfl, hb⟩; refine ⟨_, rfl, ?_⟩; have n0_ := Aside0.mk (blk_below (g := gb282) (o := .cells #[.int .i64 a0_0, .string a0_1, .slice A0_2 l0_2.length c0_2, .string a0_3, .string a0_4, .int .i64 a0_5, .int .i64 a0_6, .string a0_7, .string a0_8, .int .i64 a0_9, .int .i64 a0_10, .string a0_11, .string a0_12, .int .i64 a0_13, .int .i64 a0_14, .string a0_15, .slice A0_16 l0_16.length c0_16] 43 (0, 0)) (by (with_reducible repeat (first | refine blk_drewN ?_ _ | refine blk_drew ?_ | refine blk_alloc ?_ _)); exact BK282.out) hb); have n1_ := Aside0.mk (below_step (by repeat (first | (with_reducible first | exact HB.out | apply below_alloc | apply pw_below_drewN | apply below_drew1 | refine below_set ?_ GE282.out) | exact HB.out)) hb); clear BK282; clear HB; have BK282 := n0_; have HB := n1_; clear n0_ n1_; (try clear hb); (try clear hb2); (try clear hk); (try clear hi); have hcz57_0 : w56.cell? ⟨gb282, 0, none⟩ = some (.int .i64 a0_0) := (blk_cell BK282.out 0).trans rfl; have hcz57_1 : w56.cell? ⟨gb282, 1, none⟩ = some (.string a0_1) := (blk_cell BK282.out 1).trans rfl; have hcz57_2 : w56.cell? ⟨gb282, 2, none⟩ = some (.slice A0_2 l0_2.length c0_2) := (blk_cell BK282.out 2).trans rfl; have hcz57_3 : w56.cell? ⟨gb282, 3, none⟩ = some (.string a0_3) := (blk_cell BK282.out 3).trans rfl; have hcz57_4 : w56.cell? ⟨gb282, 4, none⟩ = some (.string a0_4) := (blk_cell BK282.out 4).trans rfl; have hcz57_5 : w56.cell? ⟨gb282, 5, none⟩ = some (.int .i64 a0_5) := (blk_cell BK282.out 5).trans rfl; have hcz57_6 : w56.cell? ⟨gb282, 6, none⟩ = some (.int .i64 a0_6) := (blk_cell BK282.out 6).trans rfl; have hcz57_7 : w56.cell? ⟨gb282, 7, none⟩ = some (.string a0_7) := (blk_cell BK282.out 7).trans rfl; have hcz57_8 : w56.cell? ⟨gb282, 8, none⟩ = some (.string a0_8) := (blk_cell BK282.out 8).trans rfl; have hcz57_9 : w56.cell? ⟨gb282, 9, none⟩ = some (.int .i64 a0_9) := (blk_cell BK282.out 9).trans rfl; have hcz57_10 : w56.cell? ⟨gb282, 10, none⟩ = some (.int .i64 a0_10) := (blk_cell BK282.out 10).trans rfl; have hcz57_11 : w56.cell? ⟨gb282, 11, none⟩ = some (.string a0_11) := (blk_cell BK282.out 11).trans rfl; have hcz57_12 : w56.cell? ⟨gb282, 12, none⟩ = some (.string a0_12) := (blk_cell BK282.out 12).trans rfl; have hcz57_13 : w56.cell? ⟨gb282, 13, none⟩ = some (.int .i64 a0_13) := (blk_cell BK282.out 13).trans rfl; have hcz57_14 : w56.cell? ⟨gb282, 14, none⟩ = some (.int .i64 a0_14) := (blk_cell BK282.out 14).trans rfl; have hcz57_15 : w56.cell? ⟨gb282, 15, none⟩ = some (.string a0_15) := (blk_cell BK282.out 15).trans rfl; have hcz57_16 : w56.cell? ⟨gb282, 16, none⟩ = some (.slice A0_16 l0_16.length c0_16) := (blk_cell BK282.out 16).trans rfl; have hfz57_0 := blk_frozen BK282.out 0; have hfz57_1 := blk_frozen BK282.out 1; have hfz57_2 := blk_frozen BK282.out 2; have hfz57_3 := blk_frozen BK282.out 3; have hfz57_4 := blk_frozen BK282.out 4; have hfz57_5 := blk_frozen BK282.out 5; have hfz57_6 := blk_frozen BK282.out 6; have hfz57_7 := blk_frozen BK282.out 7; have hfz57_8 := blk_frozen BK282.out 8; have hfz57_9 := blk_frozen BK282.out 9; have hfz57_10 := blk_frozen BK282.out 10; have hfz57_11 := blk_frozen BK282.out 11; have hfz57_12 := blk_frozen BK282.out 12; have hfz57_13 := blk_frozen BK282.out 13; have hfz57_14 := blk_frozen BK282.out 14; have hfz57_15 := blk_frozen BK282.out 15; have hfz57_16 := blk_frozen BK282.out 16) | (go_at_call 43; (with_reducible refine (antecedentref11_is.calls k a0_12 a0_13 a0_14 a0_15 _ _ l1 t291 _ ?side1 ?side2 A53.out).mono ?_); (case side1 => repeat (first | exact (Kd.C_below HR1.out HB.out) | (with_reducible refine Kd.C_alloc ?_ _) | (with_reducible refine Kd.C_drewN ?_ _) | (with_reducible refine Kd.C_drew ?_))); (case side2 => exact HC1.out); rintro e w58 ⟨rfl, hb⟩; have n0_ := Aside0.mk (blk_below (g := gb282) (o := .cells #[.int .i64 a0_0, .string a0_1, .slice A0_2 l0_2.length c0_2, .string a0_3, .string a0_4, .int .i64 a0_5, .int .i64 a0_6, .string a0_7, .string a0_8, .int .i64 a0_9, .int .i64 a0_10, .string a0_11, .string a0_12, .int .i64 a0_13, .int .i64 a0_14, .string a0_15, .slice A0_16 l0_16.length c0_16] 43 (0, 0)) (by (with_reducible repeat (first | refine blk_drewN ?_ _ | refine blk_drew ?_ | refine blk_alloc ?_ _)); exact BK282.out) hb); have n1_ := Aside0.mk (below_step (by repeat (first | (with_reducible first | exact HB.out | apply below_alloc | apply pw_below_drewN | apply below_drew1 | refine below_set ?_ GE282.out) | exact HB.out)) hb); clear BK282; clear HB; have BK282 := n0_; have HB := n1_; clear n0_ n1_; (try clear hb); (try clear hb2); (try clear hk); (try clear hi)))
          go_ret
          exact ⟨by first | rfl | (simp [errW_none, errW_some] <;> rfl) | (simp [*, errW_none, errW_some] <;> rfl), by repeat (first | (with_reducible first | exact HB.out | apply below_alloc | apply pw_below_drewN | apply below_drew1 | refine below_set ?_ GE282.out) | exact HB.out)⟩
        · replace c52 := Bool.eq_false_iff.mpr c52
          subst c52
          have H1 : (some false) = some r := by rw [if_neg (show ¬ (false = true) by decide)] at H; exact H
          clear H
          have H := H1
          clear H1
          obtain rfl := Option.some.inj H
          go_enter Try.func29, Try.ntmps29
          go_wp2_with (first | ((with_reducible refine gate_dst (N := 2) rfl ?_); refine box_event ?hg (N := 2) ?hd (cs := #[.int .i64 a0_0, .string a0_1, .slice A0_2 l0_2.length c0_2, .string a0_3, .string a0_4, .int .i64 a0_5, .int .i64 a0_6, .string a0_7, .string a0_8, .int .i64 a0_9, .int .i64 a0_10, .string a0_11, .string a0_12, .int .i64 a0_13, .int .i64 a0_14, .string a0_15, .slice A0_16 l0_16.length c0_16]) (t := 43) ?hr ?_; (case hd => rfl); (case hg => rfl); (case hr => first | (go_simp; done) | (go_simp; rfl)); intro gb282 hg w59 hbox hb; have n0_ := Aside0.mk (below_step (by repeat (first | (with_reducible first | exact HB.out | apply below_alloc | apply pw_below_drewN | apply below_drew1) | exact HB.out)) hb); have n1_ := Aside0.mk (hbox); have n2_ := Aside0.mk ((by rw [hg]; exact (below_size (by repeat (first | (with_reducible first | exact HB.out | apply below_alloc | apply pw_below_drewN | apply below_drew1) | exact HB.out))) : w.heap.size ≤ gb282)); have n3_ := Aside0.mk ((by rw [hg]; exact (below_size (by repeat (first | (with_reducible first | exact HB.out | apply below_alloc | apply pw_below_drewN | apply below_drew1) | exact HB.out))) : w.heap.size ≤ gb282)); clear HB; have HB := n0_; have BK282 := n1_; have GW282 := n2_; have GE282 := n3_; clear n0_ n1_ n2_ n3_; clear hb hbox hg; have hcz60_0 : w59.cell? ⟨gb282, 0, none⟩ = some (.int .i64 a0_0) := (blk_cell BK282.out 0).trans rfl; have hcz60_1 : w59.cell? ⟨gb282, 1, none⟩ = some (.string a0_1) := (blk_cell BK282.out 1).trans rfl; have hcz60_2 : w59.cell? ⟨gb282, 2, none⟩ = some (.slice A0_2 l0_2.length c0_2) := (blk_cell BK282.out 2).trans rfl; have hcz60_3 : w59.cell? ⟨gb282, 3, none⟩ = some (.string a0_3) := (blk_cell BK282.out 3).trans rfl; have hcz60_4 : w59.cell? ⟨gb282, 4, none⟩ = some (.string a0_4) := (blk_cell BK282.out 4).trans rfl; have hcz60_5 : w59.cell? ⟨gb282, 5, none⟩ = some (.int .i64 a0_5) := (blk_cell BK282.out 5).trans rfl; have hcz60_6 : w59.cell? ⟨gb282, 6, none⟩ = some (.int .i64 a0_6) := (blk_cell BK282.out 6).trans rfl; have hcz60_7 : w59.cell? ⟨gb282, 7, none⟩ = some (.string a0_7) := (blk_cell BK282.out 7).trans rfl; have hcz60_8 : w59.cell? ⟨gb282, 8, none⟩ = some (.string a0_8) := (blk_cell BK282.out 8).trans rfl; have hcz60_9 : w59.cell? ⟨gb282, 9, none⟩ = some (.int .i64 a0_9) := (blk_cell BK282.out 9).trans rfl; have hcz60_10 : w59.cell? ⟨gb282, 10, none⟩ = some (.int .i64 a0_10) := (blk_cell BK282.out 10).trans rfl; have hcz60_11 : w59.cell? ⟨gb282, 11, none⟩ = some (.string a0_11) := (blk_cell BK282.out 11).trans rfl; have hcz60_12 : w59.cell? ⟨gb282, 12, none⟩ = some (.string a0_12) := (blk_cell BK282.out 12).trans rfl; have hcz60_13 : w59.cell? ⟨gb282, 13, none⟩ = some (.int .i64 a0_13) := (blk_cell BK282.out 13).trans rfl; have hcz60_14 : w59.cell? ⟨gb282, 14, none⟩ = some (.int .i64 a0_14) := (blk_cell BK282.out 14).trans rfl; have hcz60_15 : w59.cell? ⟨gb282, 15, none⟩ = some (.string a0_15) := (blk_cell BK282.out 15).trans rfl; have hcz60_16 : w59.cell? ⟨gb282, 16, none⟩ = some (.slice A0_16 l0_16.length c0_16) := (blk_cell BK282.out 16).trans rfl; have hfz60_0 := blk_frozen BK282.out 0; have hfz60_1 := blk_frozen BK282.out 1; have hfz60_2 := blk_frozen BK282.out 2; have hfz60_3 := blk_frozen BK282.out 3; have hfz60_4 := blk_frozen BK282.out 4; have hfz60_5 := blk_frozen BK282.out 5; have hfz60_6 := blk_frozen BK282.out 6; have hfz60_7 := blk_frozen BK282.out 7; have hfz60_8 := blk_frozen BK282.out 8; have hfz60_9 := blk_frozen BK282.out 9; have hfz60_10 := blk_frozen BK282.out 10; have hfz60_11 := blk_frozen BK282.out 11; have hfz60_12 := blk_frozen BK282.out 12; have hfz60_13 := blk_frozen BK282.out 13; have hfz60_14 := blk_frozen BK282.out 14; have hfz60_15 := blk_frozen BK282.out 15; have hfz60_16 := blk_frozen BK282.out 16) | ((with_reducible refine gate_callee (f := 43) rfl ?_); refine goesL_ (some 58) rfl rfl Try.func43 (by kernel_rfl) rfl #[.agg #[.string a0_8, .int .i64 a0_9, .int .i64 a0_10, .string a0_11], .slice A1 l1.length c1] rfl (by (try simp only [List.map_toArray, List.map_cons, List.map_nil]); first | done | rfl | (simp only [List.length_drop, List.length_take]; rfl)) ?_; (with_reducible refine (antecedentref11_is.calls k a0_8 a0_9 a0_10 a0_11 _ _ l1 false _ ?side1 ?side2 A51.out).mono ?_); (case side1 => repeat (first | exact (Kd.C_below HR1.out HB.out) | (with_reducible refine Kd.C_alloc ?_ _) | (with_reducible refine Kd.C_drewN ?_ _) | (with_reducible refine Kd.C_drew ?_))); (case side2 => exact HC1.out); rintro e w61 ⟨rfl, hb⟩; refine ⟨_, rfl, ?_⟩; have n0_ := Aside0.mk (blk_below (g := gb282) (o := .cells #[.int .i64 a0_0, .string a0_1, .slice A0_2 l0_2.length c0_2, .string a0_3, .string a0_4, .int .i64 a0_5, .int .i64 a0_6, .string a0_7, .string a0_8, .int .i64 a0_9, .int .i64 a0_10, .string a0_11, .string a0_12, .int .i64 a0_13, .int .i64 a0_14, .string a0_15, .slice A0_16 l0_16.length c0_16] 43 (0, 0)) (by (with_reducible repeat (first | refine blk_drewN ?_ _ | refine blk_drew ?_ | refine blk_alloc ?_ _)); exact BK282.out) hb); have n1_ := Aside0.mk (below_step (by repeat (first | (with_reducible first | exact HB.out | apply below_alloc | apply pw_below_drewN | apply below_drew1 | refine below_set ?_ GE282.out) | exact HB.out)) hb); clear BK282; clear HB; have BK282 := n0_; have HB := n1_; clear n0_ n1_; (try clear hb); (try clear hb2); (try clear hk); (try clear hi)))
          go_ret
          exact ⟨by first | rfl | (simp [errW_none, errW_some] <;> rfl) | (simp [*, errW_none, errW_some] <;> rfl), by repeat (first | (with_reducible first | exact HB.out | apply below_alloc | apply pw_below_drewN | apply below_drew1 | refine below_set ?_ GE282.out) | exact HB.out)⟩
      · rw [if_neg c50] at H
        have c50b0 : (a0_0 == 4) = false := beq_eq_false_iff_ne.mpr c50
        have c50b1 : (a0_0 != 4) = true := bne_iff_ne.mpr c50
        obtain rfl := Option.some.inj H
        go_enter Try.func29, Try.ntmps29
        go_wp2_with (first | ((with_reducible refine gate_dst (N := 2) rfl ?_); refine box_event ?hg (N := 2) ?hd (cs := #[.int .i64 a0_0, .string a0_1, .slice A0_2 l0_2.length c0_2, .string a0_3, .string a0_4, .int .i64 a0_5, .int .i64 a0_6, .string a0_7, .string a0_8, .int .i64 a0_9, .int .i64 a0_10, .string a0_11, .string a0_12, .int .i64 a0_13, .int .i64 a0_14, .string a0_15, .slice A0_16 l0_16.length c0_16]) (t := 43) ?hr ?_; (case hd => rfl); (case hg => rfl); (case hr => first | (go_simp; done) | (go_simp; rfl)); intro gb282 hg w62 hbox hb; have n0_ := Aside0.mk (below_step (by repeat (first | (with_reducible first | exact HB.out | apply below_alloc | apply pw_below_drewN | apply below_drew1) | exact HB.out)) hb); have n1_ := Aside0.mk (hbox); have n2_ := Aside0.mk ((by rw [hg]; exact (below_size (by repeat (first | (with_reducible first | exact HB.out | apply below_alloc | apply pw_below_drewN | apply below_drew1) | exact HB.out))) : w.heap.size ≤ gb282)); have n3_ := Aside0.mk ((by rw [hg]; exact (below_size (by repeat (first | (with_reducible first | exact HB.out | apply below_alloc | apply pw_below_drewN | apply below_drew1) | exact HB.out))) : w.heap.size ≤ gb282)); clear HB; have HB := n0_; have BK282 := n1_; have GW282 := n2_; have GE282 := n3_; clear n0_ n1_ n2_ n3_; clear hb hbox hg; have hcz63_0 : w62.cell? ⟨gb282, 0, none⟩ = some (.int .i64 a0_0) := (blk_cell BK282.out 0).trans rfl; have hcz63_1 : w62.cell? ⟨gb282, 1, none⟩ = some (.string a0_1) := (blk_cell BK282.out 1).trans rfl; have hcz63_2 : w62.cell? ⟨gb282, 2, none⟩ = some (.slice A0_2 l0_2.length c0_2) := (blk_cell BK282.out 2).trans rfl; have hcz63_3 : w62.cell? ⟨gb282, 3, none⟩ = some (.string a0_3) := (blk_cell BK282.out 3).trans rfl; have hcz63_4 : w62.cell? ⟨gb282, 4, none⟩ = some (.string a0_4) := (blk_cell BK282.out 4).trans rfl; have hcz63_5 : w62.cell? ⟨gb282, 5, none⟩ = some (.int .i64 a0_5) := (blk_cell BK282.out 5).trans rfl; have hcz63_6 : w62.cell? ⟨gb282, 6, none⟩ = some (.int .i64 a0_6) := (blk_cell BK282.out 6).trans rfl; have hcz63_7 : w62.cell? ⟨gb282, 7, none⟩ = some (.string a0_7) := (blk_cell BK282.out 7).trans rfl; have hcz63_8 : w62.cell? ⟨gb282, 8, none⟩ = some (.string a0_8) := (blk_cell BK282.out 8).trans rfl; have hcz63_9 : w62.cell? ⟨gb282, 9, none⟩ = some (.int .i64 a0_9) := (blk_cell BK282.out 9).trans rfl; have hcz63_10 : w62.cell? ⟨gb282, 10, none⟩ = some (.int .i64 a0_10) := (blk_cell BK282.out 10).trans rfl; have hcz63_11 : w62.cell? ⟨gb282, 11, none⟩ = some (.string a0_11) := (blk_cell BK282.out 11).trans rfl; have hcz63_12 : w62.cell? ⟨gb282, 12, none⟩ = some (.string a0_12) := (blk_cell BK282.out 12).trans rfl; have hcz63_13 : w62.cell? ⟨gb282, 13, none⟩ = some (.int .i64 a0_13) := (blk_cell BK282.out 13).trans rfl; have hcz63_14 : w62.cell? ⟨gb282, 14, none⟩ = some (.int .i64 a0_14) := (blk_cell BK282.out 14).trans rfl; have hcz63_15 : w62.cell? ⟨gb282, 15, none⟩ = some (.string a0_15) := (blk_cell BK282.out 15).trans rfl; have hcz63_16 : w62.cell? ⟨gb282, 16, none⟩ = some (.slice A0_16 l0_16.length c0_16) := (blk_cell BK282.out 16).trans rfl; have hfz63_0 := blk_frozen BK282.out 0; have hfz63_1 := blk_frozen BK282.out 1; have hfz63_2 := blk_frozen BK282.out 2; have hfz63_3 := blk_frozen BK282.out 3; have hfz63_4 := blk_frozen BK282.out 4; have hfz63_5 := blk_frozen BK282.out 5; have hfz63_6 := blk_frozen BK282.out 6; have hfz63_7 := blk_frozen BK282.out 7; have hfz63_8 := blk_frozen BK282.out 8; have hfz63_9 := blk_frozen BK282.out 9; have hfz63_10 := blk_frozen BK282.out 10; have hfz63_11 := blk_frozen BK282.out 11; have hfz63_12 := blk_frozen BK282.out 12; have hfz63_13 := blk_frozen BK282.out 13; have hfz63_14 := blk_frozen BK282.out 14; have hfz63_15 := blk_frozen BK282.out 15; have hfz63_16 := blk_frozen BK282.out 16))
        go_ret
        exact ⟨by first | rfl | (simp [errW_none, errW_some] <;> rfl) | (simp [*, errW_none, errW_some] <;> rfl), by repeat (first | (with_reducible first | exact HB.out | apply below_alloc | apply pw_below_drewN | apply below_drew1 | refine below_set ?_ GE282.out) | exact HB.out)⟩

end Go.Proofs.Ytmgbfgloegcloaa.Ps
