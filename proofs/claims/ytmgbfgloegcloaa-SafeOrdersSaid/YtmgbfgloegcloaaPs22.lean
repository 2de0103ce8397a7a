-- printed by a program of this session out of the translation
import Derived.Test.YtmgbfgloegcloaaGle
import Derived.Test.YtmgbfgloegcloaaPsD
import Derived.Test.YtmgbfgloegcloaaPs5
import Derived.Test.YtmgbfgloegcloaaPs6
import Derived.Test.YtmgbfgloegcloaaPs8
import Derived.Test.YtmgbfgloegcloaaPs10
import Derived.Test.YtmgbfgloegcloaaPs12
import Derived.Test.YtmgbfgloegcloaaPs16
import Derived.Test.YtmgbfgloegcloaaPs17
import Derived.Test.YtmgbfgloegcloaaPs21
namespace Go.Proofs.Ytmgbfgloegcloaa.Ps
open Go.RowKit Go.Proofs.YtmgbfgloegcloaaW.PrintWords Go.Proofs.YtmgbfgloegcloaaW.PrintLast Go.Proofs.YtmgbfgloegcloaaW.PrintMore
attribute [local go_sem] max2_int min2_int max_two min_two max_three min_three max_four min_four   -- for this text's walks alone
set_option linter.unusedVariables false
set_option linter.unusedSimpArgs false

def antecedentlaw11_SafeOrders.T10 : Bool × List (List Nat × List Nat) := (true, [([], []), ([], []), ([0, 1], [0, 1]), ([2], [2]), ([], []), ([], []), ([4, 5], [4, 5]), ([6], [6]), ([3, 7], [3, 7]), ([8], [8]), ([9], [9]), ([9], [9]), ([10, 11, 9], [9, 10, 11]), ([12, 9], [9, 12]), ([13, 9, 9], [9, 13]), ([9], [9]), ([9], [9]), ([15, 16, 9], [9, 15, 16]), ([17, 9], [9, 17]), ([18, 14, 9], [9, 18]), ([14, 19, 19, 9], [9, 14, 19]), ([20, 9], [9, 20]), ([9, 21], [9, 21]), ([22, 20], [22]), ([23], [23]), ([23], [23]), ([24, 25, 23], [23, 24, 25]), ([26, 23], [23, 26]), ([23], [23]), ([27, 28, 23, 23], [23, 27, 28]), ([23], [23]), ([23], [23]), ([30, 31, 23], [23, 30, 31]), ([32, 23], [23, 32]), ([23], [23]), ([33, 34, 29, 23], [23, 33, 34]), ([29, 35, 35, 23], [23, 29, 35]), ([36, 23], [23, 36]), ([23, 37], [23, 37])])
def antecedentlaw11_SafeOrders.B10 : List Nat := [0, 0, 3, 7, 0, 0, 48, 112, 255, 511, 1023, 1023, 4095, 8191, 16383, 1023, 1023, 99327, 230399, 524287, 1048575, 2097151, 4194303, 8388607, 16777215, 16777215, 67108863, 134217727, 16777215, 536870911, 16777215, 16777215, 3238002687, 7532969983, 16777215, 34359738367, 68719476735, 137438953471, 274877906943]
theorem antecedentlaw11_SafeOrders.tab10 : rtab .any (opsOf Try.f3 10) = antecedentlaw11_SafeOrders.T10 := by kernel_rfl
theorem antecedentlaw11_SafeOrders.bits10 : waitsOk antecedentlaw11_SafeOrders.T10.2 antecedentlaw11_SafeOrders.B10 = true := by kernel_rfl
set_option maxHeartbeats 8000000 in
set_option maxRecDepth 100000 in
theorem antecedentlaw11_SafeOrders.calls (k : Nat) (A0 : Option Addr) (c0 : Nat) (l0 : List (S43)) (A1 : Option Addr) (c1 : Nat) (l1 : List ByteArray) (r : Bool) (w : World) (hr0 : Kd.C k43 w A0 l0.length l0) (hc0 : l0.length ≤ c0) (hr1 : Kd.C Kd.string w A1 l1.length l1) (hc1 : l1.length ≤ c1) (h : antecedentlaw11_SafeOrders.f k l0 l1 = some r) :
    Calls Try.prog 3 #[.slice A0 l0.length c0, .slice A1 l1.length c1] w fun e w' => e = .returned (.bool r) ∧ Below w.heap.size w w' := by
  have hu43 := Try.underlying43
  have HR0 := Aside0.mk hr0
  have HC0 := Aside0.mk hc0
  clear hr0 hc0
  have HR1 := Aside0.mk hr1
  have HC1 := Aside0.mk hc1
  clear hr1 hc1
  have HB := Aside0.mk (Below.refl w.heap.size w)
  have H : ((antecedentlaw11_awake.f k).bind fun t309 => (if t309 = true then ((antecedentlaw11_few.f k l0 l1).bind fun t310 => (if t310 = true then ((safe_Order.f k l0 l1).bind fun bt312 => ((antecedentref11_Order.f k l0 l1).bind fun bt319 => (if (bt312.1.length : Int) = (bt319.1.length : Int) then (if bt312.2.2 = bt319.2.2 then ((antecedentref11_Same.f k bt312.2.1 bt319.2.1).bind fun t326 => (antecedentlaw11_SafeOrders.j0 k l0 l1 bt312.1 bt319.1 (!t326))) else (antecedentlaw11_SafeOrders.j0 k l0 l1 bt312.1 bt319.1 true)) else (antecedentlaw11_SafeOrders.j0 k l0 l1 bt312.1 bt319.1 true)))) else ((antecedentlaw11_awake.f k).bind fun t311 => (if t311 = true then (some t311) else (none))))) else (none))) = some r := h
  clear h
  replace H := Option.bind_eq_some_iff.mp H
  obtain ⟨t309, A30, H⟩ := H
  replace H : (if t309 = true then ((antecedentlaw11_few.f k l0 l1).bind fun t310 => (if t310 = true then ((safe_Order.f k l0 l1).bind fun bt312 => ((antecedentref11_Order.f k l0 l1).bind fun bt319 => (if (bt312.1.length : Int) = (bt319.1.length : Int) then (if bt312.2.2 = bt319.2.2 then ((antecedentref11_Same.f k bt312.2.1 bt319.2.1).bind fun t326 => (antecedentlaw11_SafeOrders.j0 k l0 l1 bt312.1 bt319.1 (!t326))) else (antecedentlaw11_SafeOrders.j0 k l0 l1 bt312.1 bt319.1 true)) else (antecedentlaw11_SafeOrders.j0 k l0 l1 bt312.1 bt319.1 true)))) else ((antecedentlaw11_awake.f k).bind fun t311 => (if t311 = true then (some t311) else (none))))) else (none)) = some r := H
  have A3 := Aside0.mk A30
  clear A30
  by_cases c4 : t309 = true
  · subst c4
    have H1 : ((antecedentlaw11_few.f k l0 l1).bind fun t310 => (if t310 = true then ((safe_Order.f k l0 l1).bind fun bt312 => ((antecedentref11_Order.f k l0 l1).bind fun bt319 => (if (bt312.1.length : Int) = (bt319.1.length : Int) then (if bt312.2.2 = bt319.2.2 then ((antecedentref11_Same.f k bt312.2.1 bt319.2.1).bind fun t326 => (antecedentlaw11_SafeOrders.j0 k l0 l1 bt312.1 bt319.1 (!t326))) else (antecedentlaw11_SafeOrders.j0 k l0 l1 bt312.1 bt319.1 true)) else (antecedentlaw11_SafeOrders.j0 k l0 l1 bt312.1 bt319.1 true)))) else ((antecedentlaw11_awake.f k).bind fun t311 => (if t311 = true then (some t311) else (none))))) = some r := by rw [if_pos rfl] at H; exact H
    clear H
    have H := H1
    clear H1
    replace H := Option.bind_eq_some_iff.mp H
    obtain ⟨t310, A50, H⟩ := H
    replace H : (if t310 = true then ((safe_Order.f k l0 l1).bind fun bt312 => ((antecedentref11_Order.f k l0 l1).bind fun bt319 => (if (bt312.1.length : Int) = (bt319.1.length : Int) then (if bt312.2.2 = bt319.2.2 then ((antecedentref11_Same.f k bt312.2.1 bt319.2.1).bind fun t326 => (antecedentlaw11_SafeOrders.j0 k l0 l1 bt312.1 bt319.1 (!t326))) else (antecedentlaw11_SafeOrders.j0 k l0 l1 bt312.1 bt319.1 true)) else (antecedentlaw11_SafeOrders.j0 k l0 l1 bt312.1 bt319.1 true)))) else ((antecedentlaw11_awake.f k).bind fun t311 => (if t311 = true then (some t311) else (none)))) = some r := H
    have A5 := Aside0.mk A50
    clear A50
    by_cases c6 : t310 = true
    · subst c6
      have H1 : ((safe_Order.f k l0 l1).bind fun bt312 => ((antecedentref11_Order.f k l0 l1).bind fun bt319 => (if (bt312.1.length : Int) = (bt319.1.length : Int) then (if bt312.2.2 = bt319.2.2 then ((antecedentref11_Same.f k bt312.2.1 bt319.2.1).bind fun t326 => (antecedentlaw11_SafeOrders.j0 k l0 l1 bt312.1 bt319.1 (!t326))) else (antecedentlaw11_SafeOrders.j0 k l0 l1 bt312.1 bt319.1 true)) else (antecedentlaw11_SafeOrders.j0 k l0 l1 bt312.1 bt319.1 true)))) = some r := by rw [if_pos rfl] at H; exact H
      clear H
      have H := H1
      clear H1
      replace H := Option.bind_eq_some_iff.mp H
      obtain ⟨⟨t312, t313, t314⟩, A70, H⟩ := H
      replace H : ((antecedentref11_Order.f k l0 l1).bind fun bt319 => (if (t312.length : Int) = (bt319.1.length : Int) then (if t314 = bt319.2.2 then ((antecedentref11_Same.f k t313 bt319.2.1).bind fun t326 => (antecedentlaw11_SafeOrders.j0 k l0 l1 t312 bt319.1 (!t326))) else (antecedentlaw11_SafeOrders.j0 k l0 l1 t312 bt319.1 true)) else (antecedentlaw11_SafeOrders.j0 k l0 l1 t312 bt319.1 true))) = some r := H
      have A7 := Aside0.mk A70
      clear A70
      replace H := Option.bind_eq_some_iff.mp H
      obtain ⟨⟨t319, t320, t321⟩, A80, H⟩ := H
      replace H : (if (t312.length : Int) = (t319.length : Int) then (if t314 = t321 then ((antecedentref11_Same.f k t313 t320).bind fun t326 => (antecedentlaw11_SafeOrders.j0 k l0 l1 t312 t319 (!t326))) else (antecedentlaw11_SafeOrders.j0 k l0 l1 t312 t319 true)) else (antecedentlaw11_SafeOrders.j0 k l0 l1 t312 t319 true)) = some r := H
      have A8 := Aside0.mk A80
      clear A80
      have HC9 := Aside0.mk H
      clear H
      go_enter Try.func3, Try.ntmps3
      go_upto_region 5 with (first | ((with_reducible refine gate_callee (f := 9) rfl ?_); refine goesL_ (some 12) rfl rfl Try.func9 (by kernel_rfl) rfl #[] rfl (by (try simp only [List.map_toArray, List.map_cons, List.map_nil]); first | done | rfl | (simp only [List.length_drop, List.length_take]; rfl)) ?_; (with_reducible refine (antecedentlaw11_awake.calls k  true _ A3.out).mono ?_); rintro e w10 ⟨rfl, hb⟩; refine ⟨_, rfl, ?_⟩; have n0_ := Aside0.mk (below_step (by repeat (first | (with_reducible first | exact HB.out | apply below_alloc | apply pw_below_drewN | apply below_drew1) | exact HB.out)) hb); clear HB; have HB := n0_; clear n0_; (try clear hb); (try clear hb2); (try clear hk); (try clear hi)) | (go_at_call 10; (with_reducible refine (antecedentlaw11_few.calls k (fun k_ => k_ < w.heap.size) _ _ l0 _ _ l1 true _ ?side1 ?side2 ?side3 A5.out).mono ?_); (case side1 => exact Kd.V_mk HC0.out (Kd.F_below (Kd.C_F k43_heap HR0.out) (by repeat (first | (with_reducible first | exact HB.out | apply below_alloc | apply pw_below_drewN | apply below_drew1) | exact HB.out)))); (case side2 => repeat (first | exact (Kd.C_below HR1.out HB.out) | (with_reducible refine Kd.C_alloc ?_ _) | (with_reducible refine Kd.C_drewN ?_ _) | (with_reducible refine Kd.C_drew ?_))); (case side3 => exact HC1.out); rintro e w11 ⟨rfl, hb⟩; have n0_ := Aside0.mk (below_step (by repeat (first | (with_reducible first | exact HB.out | apply below_alloc | apply pw_below_drewN | apply below_drew1) | exact HB.out)) hb); clear HB; have HB := n0_; clear n0_; (try clear hb); (try clear hb2); (try clear hk); (try clear hi)) | ((with_reducible refine gate_callee (f := 11) rfl ?_); refine goesL_ (some 24) rfl rfl Try.func11 (by kernel_rfl) rfl #[.slice A0 l0.length c0, .slice A1 l1.length c1] rfl (by (try simp only [List.map_toArray, List.map_cons, List.map_nil]); first | done | rfl | (simp only [List.length_drop, List.length_take]; rfl)) ?_; (with_reducible refine (safe_Order.calls k _ _ l0 _ _ l1 t312 t313 t314 _ ?side1 ?side2 ?side3 ?side4 A7.out).mono ?_); (case side1 => repeat (first | exact (Kd.C_below HR0.out HB.out) | (with_reducible refine Kd.C_alloc ?_ _) | (with_reducible refine Kd.C_drewN ?_ _) | (with_reducible refine Kd.C_drew ?_))); (case side2 => exact HC0.out); (case side3 => repeat (first | exact (Kd.C_below HR1.out HB.out) | (with_reducible refine Kd.C_alloc ?_ _) | (with_reducible refine Kd.C_drewN ?_ _) | (with_reducible refine Kd.C_drew ?_))); (case side4 => exact HC1.out); rintro e w12 ⟨v315, v317, rfl, ho0, ho1, hb⟩; refine ⟨_, rfl, ?_⟩; have n0_ := Aside0.mk (Kd.R_lower ho0 (below_size (by repeat (first | (with_reducible first | exact HB.out | apply below_alloc | apply pw_below_drewN | apply below_drew1) | exact HB.out)))); have n1_ := Aside0.mk (Kd.R_lower ho1 (below_size (by repeat (first | (with_reducible first | exact HB.out | apply below_alloc | apply pw_below_drewN | apply below_drew1) | exact HB.out)))); have n2_ := Aside0.mk (below_step (by repeat (first | (with_reducible first | exact HB.out | apply below_alloc | apply pw_below_drewN | apply below_drew1) | exact HB.out)) hb); clear HB; have HO316 := n0_; have HO318 := n1_; have HB := n2_; clear n0_ n1_ n2_; (try clear hb); (try clear hb2); (try clear hk); (try clear hi); (try clear ho0); (try clear ho1)) | ((with_reducible refine gate_callee (f := 12) rfl ?_); refine goesL_ (some 31) rfl rfl Try.func12 (by kernel_rfl) rfl #[.slice A0 l0.length c0, .slice A1 l1.length c1] rfl (by (try simp only [List.map_toArray, List.map_cons, List.map_nil]); first | done | rfl | (simp only [List.length_drop, List.length_take]; rfl)) ?_; (with_reducible refine (antecedentref11_Order.calls k _ _ l0 _ _ l1 t319 t320 t321 _ ?side1 ?side2 ?side3 ?side4 A8.out).mono ?_); (case side1 => repeat (first | exact (Kd.C_below HR0.out HB.out) | (with_reducible refine Kd.C_alloc ?_ _) | (with_reducible refine Kd.C_drewN ?_ _) | (with_reducible refine Kd.C_drew ?_))); (case side2 => exact HC0.out); (case side3 => repeat (first | exact (Kd.C_below HR1.out HB.out) | (with_reducible refine Kd.C_alloc ?_ _) | (with_reducible refine Kd.C_drewN ?_ _) | (with_reducible refine Kd.C_drew ?_))); (case side4 => exact HC1.out); rintro e w13 ⟨v322, v324, rfl, ho0, ho1, hb⟩; refine ⟨_, rfl, ?_⟩; have n0_ := Aside0.mk (Kd.R_elder' (by (with_reducible repeat (first | apply Kd.R_alloc | apply Kd.R_drewN | apply Kd.R_drew)); exact HO316.out) (Kd.R_base ho0) hb); have n1_ := Aside0.mk (Kd.R_elder' (by (with_reducible repeat (first | apply Kd.R_alloc | apply Kd.R_drewN | apply Kd.R_drew)); exact HO318.out) (Kd.R_base ho1) hb); have n2_ := Aside0.mk (Kd.R_lower (Kd.R_new' ho0 (Kd.R_lt (by (with_reducible repeat (first | apply Kd.R_alloc | apply Kd.R_drewN | apply Kd.R_drew)); exact HO316.out))) (below_size (by repeat (first | (with_reducible first | exact HB.out | apply below_alloc | apply pw_below_drewN | apply below_drew1) | exact HB.out)))); have n3_ := Aside0.mk (Kd.R_lower (Kd.R_new' ho1 (Kd.R_lt (by (with_reducible repeat (first | apply Kd.R_alloc | apply Kd.R_drewN | apply Kd.R_drew)); exact HO318.out))) (below_size (by repeat (first | (with_reducible first | exact HB.out | apply below_alloc | apply pw_below_drewN | apply below_drew1) | exact HB.out)))); have n4_ := Aside0.mk (below_step (by repeat (first | (with_reducible first | exact HB.out | apply below_alloc | apply pw_below_drewN | apply below_drew1) | exact HB.out)) hb); clear HO316; clear HO318; clear HB; have HO316 := n0_; have HO318 := n1_; have HO323 := n2_; have HO325 := n3_; have HB := n4_; clear n0_ n1_ n2_ n3_ n4_; (try clear hb); (try clear hb2); (try clear hk); (try clear hi); (try clear ho0); (try clear ho1)))
      (try simp only [Act.put, List.setIfInBounds_toArray, List.set_cons_zero, List.set_cons_succ])
      go_cut [50] (fun v50 wc => ∃ (kq : Nat) (x50_8 : Bool), v50 = .bool x50_8 ∧ Aside0 (antecedentlaw11_SafeOrders.j0 kq l0 l1 t312 t319 x50_8 = some r) ∧ Aside0 (kq ≤ k) ∧ Aside0 (Kd.R (Kd.int .i64) 3 wc w.heap.size (fun k_ => some k_ ≠ (v322 : Value).ownBlock) v315 t312) ∧ Aside0 (Kd.R (Kd.int .i64) 3 wc w.heap.size (fun k_ => some k_ ≠ (v315 : Value).ownBlock) v322 t319) ∧ Aside0 (Below w.heap.size w wc))
      case first =>
        have H := HC9.out
        clear HC9
        by_cases c14 : (t312.length : Int) = (t319.length : Int)
        · rw [if_pos c14] at H
          have c14b0 : ((t312.length : Int) == (t319.length : Int)) = true := beq_iff_eq.mpr c14
          have c14b1 : ((t312.length : Int) != (t319.length : Int)) = false := bne_eq_false_iff_eq.mpr c14
          have c14b2 : (t312.length == t319.length) = true := by first | simpa using c14 | (simp at c14 ⊢; omega)
          clear c14
          (first | rw [c14b0] | (simp only [i64_w, i32_w]; rw [c14b0]) | skip)
          by_cases c15 : t314 = t321
          · rw [if_pos c15] at H
            have c15b0 : (t314 == t321) = true := beq_iff_eq.mpr c15
            have c15b1 : (t314 != t321) = false := bne_eq_false_iff_eq.mpr c15
            clear c15
            replace H := Option.bind_eq_some_iff.mp H
            obtain ⟨t326, A160, H⟩ := H
            replace H : (antecedentlaw11_SafeOrders.j0 k l0 l1 t312 t319 (!t326)) = some r := H
            have A16 := Aside0.mk A160
            clear A160
            have H' := Aside0.mk H
            clear H
            obtain ⟨Ao17, co17, eo17⟩ := Kd.R_slice HO316.out
            subst eo17
            obtain ⟨Ao18, co18, eo18⟩ := Kd.R_slice HO323.out
            subst eo18
            obtain ⟨Ao19, co19, eo19⟩ := Kd.R_slice HO318.out
            subst eo19
            obtain ⟨Ao20, co20, eo20⟩ := Kd.R_slice HO325.out
            subst eo20
            go_wp2_with (first | (go_at_call 13; (with_reducible refine (antecedentref11_Same.calls k _ _ t313 _ _ t320 t326 _ ?side1 ?side2 ?side3 ?side4 A16.out).mono ?_); (case side1 => repeat (first | exact (Kd.R_reads' HO318.out).2.2 | (with_reducible refine Kd.C_alloc ?_ _) | (with_reducible refine Kd.C_drewN ?_ _) | (with_reducible refine Kd.C_drew ?_))); (case side2 => exact (Kd.R_reads' HO318.out).2.1); (case side3 => repeat (first | exact (Kd.R_reads' HO325.out).2.2 | (with_reducible refine Kd.C_alloc ?_ _) | (with_reducible refine Kd.C_drewN ?_ _) | (with_reducible refine Kd.C_drew ?_))); (case side4 => exact (Kd.R_reads' HO325.out).2.1); rintro e w' ⟨rfl, ⟨nd, rfl⟩⟩))
            go_meet
            case rel => exact ⟨_, (!t326), (by first | rfl | (simp; done) | (simp [*]; done)), H', ⟨by first | omega | exact Nat.le_refl _⟩, ⟨by (with_reducible repeat (first | apply Kd.R_alloc | apply Kd.R_drewN | apply Kd.R_drew)); exact Kd.R_mono HO316.out (fun _ hk => hk.2)⟩, ⟨by (with_reducible repeat (first | apply Kd.R_alloc | apply Kd.R_drewN | apply Kd.R_drew)); exact Kd.R_mono HO323.out (fun _ hk => hk.2)⟩, ⟨by repeat (first | (with_reducible first | exact HB.out | apply below_alloc | apply pw_below_drewN | apply below_drew1) | exact HB.out)⟩⟩
          · rw [if_neg c15] at H
            have c15b0 : (t314 == t321) = false := beq_eq_false_iff_ne.mpr c15
            have c15b1 : (t314 != t321) = true := bne_iff_ne.mpr c15
            have H' := Aside0.mk H
            clear H
            obtain ⟨Ao21, co21, eo21⟩ := Kd.R_slice HO316.out
            subst eo21
            obtain ⟨Ao22, co22, eo22⟩ := Kd.R_slice HO323.out
            subst eo22
            go_wp2
            go_meet
            case rel => exact ⟨_, (true), (by first | rfl | (simp; done) | (simp [*]; done)), H', ⟨by first | omega | exact Nat.le_refl _⟩, ⟨by (with_reducible repeat (first | apply Kd.R_alloc | apply Kd.R_drewN | apply Kd.R_drew)); exact Kd.R_mono HO316.out (fun _ hk => hk.2)⟩, ⟨by (with_reducible repeat (first | apply Kd.R_alloc | apply Kd.R_drewN | apply Kd.R_drew)); exact Kd.R_mono HO323.out (fun _ hk => hk.2)⟩, ⟨by repeat (first | (with_reducible first | exact HB.out | apply below_alloc | apply pw_below_drewN | apply below_drew1) | exact HB.out)⟩⟩
        · rw [if_neg c14] at H
          have c14b0 : ((t312.length : Int) == (t319.length : Int)) = false := beq_eq_false_iff_ne.mpr c14
          have c14b1 : ((t312.length : Int) != (t319.length : Int)) = true := bne_iff_ne.mpr c14
          have c14b2 : (t312.length == t319.length) = false := by first | simpa using c14 | (simp at c14 ⊢; omega)
          (first | rw [c14b0] | (simp only [i64_w, i32_w]; rw [c14b0]) | skip)
          have H' := Aside0.mk H
          clear H
          obtain ⟨Ao23, co23, eo23⟩ := Kd.R_slice HO316.out
          subst eo23
          obtain ⟨Ao24, co24, eo24⟩ := Kd.R_slice HO323.out
          subst eo24
          go_wp2
          go_meet
          case rel => exact ⟨_, (true), (by first | rfl | (simp; done) | (simp [*]; done)), H', ⟨by first | omega | exact Nat.le_refl _⟩, ⟨by (with_reducible repeat (first | apply Kd.R_alloc | apply Kd.R_drewN | apply Kd.R_drew)); exact Kd.R_mono HO316.out (fun _ hk => hk.2)⟩, ⟨by (with_reducible repeat (first | apply Kd.R_alloc | apply Kd.R_drewN | apply Kd.R_drew)); exact Kd.R_mono HO323.out (fun _ hk => hk.2)⟩, ⟨by repeat (first | (with_reducible first | exact HB.out | apply below_alloc | apply pw_below_drewN | apply below_drew1) | exact HB.out)⟩⟩
      case rest =>
        clear HC9
        try clear c1
        try clear p2
        try clear c3
        try clear c4
        try clear c6
        try clear c9
        try clear c11
        try clear c12
        try clear c14
        try clear c14b0
        try clear c14b1
        try clear c14b2
        try clear c15
        try clear c15b0
        try clear c15b1
        obtain ⟨kq, x50_8, rfl, HA, HJ8, HO_5, HO_8, HB⟩ := hcut
        cases kq with
        | zero => exact absurd HA.out (by simp [antecedentlaw11_SafeOrders.j0])
        | succ kj8 =>
          have H := HA.out
          clear HA
          simp only [antecedentlaw11_SafeOrders.j0] at H
          by_cases c25 : x50_8 = true
          · subst c25
            have H1 : (none) = some r := by rw [if_pos rfl] at H; exact H
            clear H
            have H := H1
            clear H1
            exact absurd H (by simp)
          · replace c25 := Bool.eq_false_iff.mpr c25
            subst c25
            have H1 : (antecedentlaw11_SafeOrders.l0 kj8 l0 l1 t312 t319 (t312.length : Int) 0) = some r := by rw [if_neg (show ¬ (false = true) by decide)] at H; exact H
            clear H
            have H := H1
            clear H1
            have H' := Aside0.mk H
            clear H
            obtain ⟨Ao26, co26, eo26⟩ := Kd.R_slice HO_5.out
            subst eo26
            go_wp2
            go_loopg [53] kj8 (fun kq v53 w' => ∃ (x53_2 : Int), v53 = .int .i64 x53_2 ∧ Aside0 (antecedentlaw11_SafeOrders.l0 kq l0 l1 t312 t319 (t312.length : Int) x53_2 = some r) ∧ Aside0 (kq ≤ kj8) ∧ Aside0 (Kd.R (Kd.int .i64) 3 w' w.heap.size (fun k_ => some k_ ≠ (v322 : Value).ownBlock) (.slice Ao26 t312.length co26) t312) ∧ Aside0 (Kd.R (Kd.int .i64) 3 w' w.heap.size (fun k_ => some k_ ≠ ((.slice Ao26 t312.length co26) : Value).ownBlock) v322 t319) ∧ Aside0 (Below w.heap.size w w'))
            case atStart => exact ⟨(0), (by first | rfl | (simp; done) | (simp [*]; done)), H', ⟨Nat.le_refl _⟩, ⟨by (with_reducible repeat (first | apply Kd.R_alloc | apply Kd.R_drewN | apply Kd.R_drew)); exact HO_5.out⟩, ⟨by (with_reducible repeat (first | apply Kd.R_alloc | apply Kd.R_drewN | apply Kd.R_drew)); exact HO_8.out⟩, ⟨by repeat (first | (with_reducible first | exact HB.out | apply below_alloc | apply pw_below_drewN | apply below_drew1) | exact HB.out)⟩⟩
            case round =>
              clear H'
              try clear c1
              try clear c2
              try clear p2
              try clear c3
              try clear c4
              try clear c6
              try clear c9
              try clear c11
              try clear c12
              try clear c14
              try clear c14b0
              try clear c14b1
              try clear c14b2
              try clear c15
              try clear c15b0
              try clear c15b1
              try clear c25
              try clear p2
              obtain ⟨x53_2, rfl, HA, HK2, HO_5, HO_8, HB⟩ := hrel
              cases gk with
              | zero => exact absurd HA.out (by simp [antecedentlaw11_SafeOrders.l0])
              | succ k2 =>
                have H := HA.out
                clear HA
                simp only [antecedentlaw11_SafeOrders.l0] at H
                by_cases c27 : x53_2 < (t312.length : Int)
                · rw [if_pos c27] at H
                  have c27b0 : decide (x53_2 < (t312.length : Int)) = true := decide_eq_true c27
                  clear c27
                  by_cases c28 : 0 ≤ x53_2
                  · rw [if_pos c28] at H
                    have c28b0 : decide (0 ≤ x53_2) = true := decide_eq_true c28
                    clear c28
                    by_cases c29 : x53_2 < (t312.length : Int)
                    · rw [if_pos c29] at H
                      have c29b0 : decide (x53_2 < (t312.length : Int)) = true := decide_eq_true c29
                      clear c29
                      by_cases c30 : x53_2 < (t319.length : Int)
                      · rw [if_pos c30] at H
                        have c30b0 : decide (x53_2 < (t319.length : Int)) = true := decide_eq_true c30
                        clear c30
                        by_cases c31 : (rd t312 x53_2) = (rd t319 x53_2)
                        · rw [if_pos c31] at H
                          have c31b0 : ((rd t312 x53_2) == (rd t319 x53_2)) = true := beq_iff_eq.mpr c31
                          have c31b1 : ((rd t312 x53_2) != (rd t319 x53_2)) = false := bne_eq_false_iff_eq.mpr c31
                          clear c31
                          by_cases c32 : x53_2 < (l0.length : Int)
                          · rw [if_pos c32] at H
                            have c32b0 : decide (x53_2 < (l0.length : Int)) = true := decide_eq_true c32
                            clear c32
                            replace H := Option.bind_eq_some_iff.mp H
                            obtain ⟨t330, A330, H⟩ := H
                            replace H : ((antecedentref11_Vars.f k2 ((rd_T43 l0 x53_2).f0) ((rd_T43 l0 x53_2).f1.f0) ((rd_T43 l0 x53_2).f1.f1) ((rd_T43 l0 x53_2).f2) ((rd_T43 l0 x53_2).f3.f0) ((rd_T43 l0 x53_2).f3.f1.f0) ((rd_T43 l0 x53_2).f3.f1.f1) ((rd_T43 l0 x53_2).f3.f1.f2) ((rd_T43 l0 x53_2).f4.f0) ((rd_T43 l0 x53_2).f4.f1.f0) ((rd_T43 l0 x53_2).f4.f1.f1) ((rd_T43 l0 x53_2).f4.f1.f2) ((rd_T43 l0 x53_2).f5.f0) ((rd_T43 l0 x53_2).f5.f1.f0) ((rd_T43 l0 x53_2).f5.f1.f1) ((rd_T43 l0 x53_2).f5.f1.f2) ((rd_T43 l0 x53_2).f6)).bind fun t334 => ((antecedentref11_Same.f k2 t330 t334).bind fun t337 => (if t337 = true then ((safe_Binds.f k2 ((rd_T43 l0 x53_2).f0) ((rd_T43 l0 x53_2).f1.f0) ((rd_T43 l0 x53_2).f1.f1) ((rd_T43 l0 x53_2).f2) ((rd_T43 l0 x53_2).f3.f0) ((rd_T43 l0 x53_2).f3.f1.f0) ((rd_T43 l0 x53_2).f3.f1.f1) ((rd_T43 l0 x53_2).f3.f1.f2) ((rd_T43 l0 x53_2).f4.f0) ((rd_T43 l0 x53_2).f4.f1.f0) ((rd_T43 l0 x53_2).f4.f1.f1) ((rd_T43 l0 x53_2).f4.f1.f2) ((rd_T43 l0 x53_2).f5.f0) ((rd_T43 l0 x53_2).f5.f1.f0) ((rd_T43 l0 x53_2).f5.f1.f1) ((rd_T43 l0 x53_2).f5.f1.f2) ((rd_T43 l0 x53_2).f6) l1).bind fun t339 => ((antecedentref11_Binds.f k2 ((rd_T43 l0 x53_2).f0) ((rd_T43 l0 x53_2).f1.f0) ((rd_T43 l0 x53_2).f1.f1) ((rd_T43 l0 x53_2).f2) ((rd_T43 l0 x53_2).f3.f0) ((rd_T43 l0 x53_2).f3.f1.f0) ((rd_T43 l0 x53_2).f3.f1.f1) ((rd_T43 l0 x53_2).f3.f1.f2) ((rd_T43 l0 x53_2).f4.f0) ((rd_T43 l0 x53_2).f4.f1.f0) ((rd_T43 l0 x53_2).f4.f1.f1) ((rd_T43 l0 x53_2).f4.f1.f2) ((rd_T43 l0 x53_2).f5.f0) ((rd_T43 l0 x53_2).f5.f1.f0) ((rd_T43 l0 x53_2).f5.f1.f1) ((rd_T43 l0 x53_2).f5.f1.f2) ((rd_T43 l0 x53_2).f6) l1).bind fun t343 => ((antecedentref11_Same.f k2 t339 t343).bind fun t346 => (if t346 = true then (antecedentlaw11_SafeOrders.l0 k2 l0 l1 t312 t319 (t312.length : Int) (wrap64 (x53_2 + 1))) else (none))))) else (none)))) = some r := H
                            have A33 := Aside0.mk A330
                            clear A330
                            replace H := Option.bind_eq_some_iff.mp H
                            obtain ⟨t334, A340, H⟩ := H
                            replace H : ((antecedentref11_Same.f k2 t330 t334).bind fun t337 => (if t337 = true then ((safe_Binds.f k2 ((rd_T43 l0 x53_2).f0) ((rd_T43 l0 x53_2).f1.f0) ((rd_T43 l0 x53_2).f1.f1) ((rd_T43 l0 x53_2).f2) ((rd_T43 l0 x53_2).f3.f0) ((rd_T43 l0 x53_2).f3.f1.f0) ((rd_T43 l0 x53_2).f3.f1.f1) ((rd_T43 l0 x53_2).f3.f1.f2) ((rd_T43 l0 x53_2).f4.f0) ((rd_T43 l0 x53_2).f4.f1.f0) ((rd_T43 l0 x53_2).f4.f1.f1) ((rd_T43 l0 x53_2).f4.f1.f2) ((rd_T43 l0 x53_2).f5.f0) ((rd_T43 l0 x53_2).f5.f1.f0) ((rd_T43 l0 x53_2).f5.f1.f1) ((rd_T43 l0 x53_2).f5.f1.f2) ((rd_T43 l0 x53_2).f6) l1).bind fun t339 => ((antecedentref11_Binds.f k2 ((rd_T43 l0 x53_2).f0) ((rd_T43 l0 x53_2).f1.f0) ((rd_T43 l0 x53_2).f1.f1) ((rd_T43 l0 x53_2).f2) ((rd_T43 l0 x53_2).f3.f0) ((rd_T43 l0 x53_2).f3.f1.f0) ((rd_T43 l0 x53_2).f3.f1.f1) ((rd_T43 l0 x53_2).f3.f1.f2) ((rd_T43 l0 x53_2).f4.f0) ((rd_T43 l0 x53_2).f4.f1.f0) ((rd_T43 l0 x53_2).f4.f1.f1) ((rd_T43 l0 x53_2).f4.f1.f2) ((rd_T43 l0 x53_2).f5.f0) ((rd_T43 l0 x53_2).f5.f1.f0) ((rd_T43 l0 x53_2).f5.f1.f1) ((rd_T43 l0 x53_2).f5.f1.f2) ((rd_T43 l0 x53_2).f6) l1).bind fun t343 => ((antecedentref11_Same.f k2 t339 t343).bind fun t346 => (if t346 = true then (antecedentlaw11_SafeOrders.l0 k2 l0 l1 t312 t319 (t312.length : Int) (wrap64 (x53_2 + 1))) else (none))))) else (none))) = some r := H
                            have A34 := Aside0.mk A340
                            clear A340
                            replace H := Option.bind_eq_some_iff.mp H
                            obtain ⟨t337, A350, H⟩ := H
                            replace H : (if t337 = true then ((safe_Binds.f k2 ((rd_T43 l0 x53_2).f0) ((rd_T43 l0 x53_2).f1.f0) ((rd_T43 l0 x53_2).f1.f1) ((rd_T43 l0 x53_2).f2) ((rd_T43 l0 x53_2).f3.f0) ((rd_T43 l0 x53_2).f3.f1.f0) ((rd_T43 l0 x53_2).f3.f1.f1) ((rd_T43 l0 x53_2).f3.f1.f2) ((rd_T43 l0 x53_2).f4.f0) ((rd_T43 l0 x53_2).f4.f1.f0) ((rd_T43 l0 x53_2).f4.f1.f1) ((rd_T43 l0 x53_2).f4.f1.f2) ((rd_T43 l0 x53_2).f5.f0) ((rd_T43 l0 x53_2).f5.f1.f0) ((rd_T43 l0 x53_2).f5.f1.f1) ((rd_T43 l0 x53_2).f5.f1.f2) ((rd_T43 l0 x53_2).f6) l1).bind fun t339 => ((antecedentref11_Binds.f k2 ((rd_T43 l0 x53_2).f0) ((rd_T43 l0 x53_2).f1.f0) ((rd_T43 l0 x53_2).f1.f1) ((rd_T43 l0 x53_2).f2) ((rd_T43 l0 x53_2).f3.f0) ((rd_T43 l0 x53_2).f3.f1.f0) ((rd_T43 l0 x53_2).f3.f1.f1) ((rd_T43 l0 x53_2).f3.f1.f2) ((rd_T43 l0 x53_2).f4.f0) ((rd_T43 l0 x53_2).f4.f1.f0) ((rd_T43 l0 x53_2).f4.f1.f1) ((rd_T43 l0 x53_2).f4.f1.f2) ((rd_T43 l0 x53_2).f5.f0) ((rd_T43 l0 x53_2).f5.f1.f0) ((rd_T43 l0 x53_2).f5.f1.f1) ((rd_T43 l0 x53_2).f5.f1.f2) ((rd_T43 l0 x53_2).f6) l1).bind fun t343 => ((antecedentref11_Same.f k2 t339 t343).bind fun t346 => (if t346 = true then (antecedentlaw11_SafeOrders.l0 k2 l0 l1 t312 t319 (t312.length : Int) (wrap64 (x53_2 + 1))) else (none))))) else (none)) = some r := H
                            have A35 := Aside0.mk A350
                            clear A350
                            by_cases c36 : t337 = true
                            · subst c36
                              have H1 : ((safe_Binds.f k2 ((rd_T43 l0 x53_2).f0) ((rd_T43 l0 x53_2).f1.f0) ((rd_T43 l0 x53_2).f1.f1) ((rd_T43 l0 x53_2).f2) ((rd_T43 l0 x53_2).f3.f0) ((rd_T43 l0 x53_2).f3.f1.f0) ((rd_T43 l0 x53_2).f3.f1.f1) ((rd_T43 l0 x53_2).f3.f1.f2) ((rd_T43 l0 x53_2).f4.f0) ((rd_T43 l0 x53_2).f4.f1.f0) ((rd_T43 l0 x53_2).f4.f1.f1) ((rd_T43 l0 x53_2).f4.f1.f2) ((rd_T43 l0 x53_2).f5.f0) ((rd_T43 l0 x53_2).f5.f1.f0) ((rd_T43 l0 x53_2).f5.f1.f1) ((rd_T43 l0 x53_2).f5.f1.f2) ((rd_T43 l0 x53_2).f6) l1).bind fun t339 => ((antecedentref11_Binds.f k2 ((rd_T43 l0 x53_2).f0) ((rd_T43 l0 x53_2).f1.f0) ((rd_T43 l0 x53_2).f1.f1) ((rd_T43 l0 x53_2).f2) ((rd_T43 l0 x53_2).f3.f0) ((rd_T43 l0 x53_2).f3.f1.f0) ((rd_T43 l0 x53_2).f3.f1.f1) ((rd_T43 l0 x53_2).f3.f1.f2) ((rd_T43 l0 x53_2).f4.f0) ((rd_T43 l0 x53_2).f4.f1.f0) ((rd_T43 l0 x53_2).f4.f1.f1) ((rd_T43 l0 x53_2).f4.f1.f2) ((rd_T43 l0 x53_2).f5.f0) ((rd_T43 l0 x53_2).f5.f1.f0) ((rd_T43 l0 x53_2).f5.f1.f1) ((rd_T43 l0 x53_2).f5.f1.f2) ((rd_T43 l0 x53_2).f6) l1).bind fun t343 => ((antecedentref11_Same.f k2 t339 t343).bind fun t346 => (if t346 = true then (antecedentlaw11_SafeOrders.l0 k2 l0 l1 t312 t319 (t312.length : Int) (wrap64 (x53_2 + 1))) else (none))))) = some r := by rw [if_pos rfl] at H; exact H
                              clear H
                              have H := H1
                              clear H1
                              replace H := Option.bind_eq_some_iff.mp H
                              obtain ⟨t339, A370, H⟩ := H
                              replace H : ((antecedentref11_Binds.f k2 ((rd_T43 l0 x53_2).f0) ((rd_T43 l0 x53_2).f1.f0) ((rd_T43 l0 x53_2).f1.f1) ((rd_T43 l0 x53_2).f2) ((rd_T43 l0 x53_2).f3.f0) ((rd_T43 l0 x53_2).f3.f1.f0) ((rd_T43 l0 x53_2).f3.f1.f1) ((rd_T43 l0 x53_2).f3.f1.f2) ((rd_T43 l0 x53_2).f4.f0) ((rd_T43 l0 x53_2).f4.f1.f0) ((rd_T43 l0 x53_2).f4.f1.f1) ((rd_T43 l0 x53_2).f4.f1.f2) ((rd_T43 l0 x53_2).f5.f0) ((rd_T43 l0 x53_2).f5.f1.f0) ((rd_T43 l0 x53_2).f5.f1.f1) ((rd_T43 l0 x53_2).f5.f1.f2) ((rd_T43 l0 x53_2).f6) l1).bind fun t343 => ((antecedentref11_Same.f k2 t339 t343).bind fun t346 => (if t346 = true then (antecedentlaw11_SafeOrders.l0 k2 l0 l1 t312 t319 (t312.length : Int) (wrap64 (x53_2 + 1))) else (none)))) = some r := H
                              have A37 := Aside0.mk A370
                              clear A370
                              replace H := Option.bind_eq_some_iff.mp H
                              obtain ⟨t343, A380, H⟩ := H
                              replace H : ((antecedentref11_Same.f k2 t339 t343).bind fun t346 => (if t346 = true then (antecedentlaw11_SafeOrders.l0 k2 l0 l1 t312 t319 (t312.length : Int) (wrap64 (x53_2 + 1))) else (none))) = some r := H
                              have A38 := Aside0.mk A380
                              clear A380
                              replace H := Option.bind_eq_some_iff.mp H
                              obtain ⟨t346, A390, H⟩ := H
                              replace H : (if t346 = true then (antecedentlaw11_SafeOrders.l0 k2 l0 l1 t312 t319 (t312.length : Int) (wrap64 (x53_2 + 1))) else (none)) = some r := H
                              have A39 := Aside0.mk A390
                              clear A390
                              by_cases c40 : t346 = true
                              · subst c40
                                have H1 : (antecedentlaw11_SafeOrders.l0 k2 l0 l1 t312 t319 (t312.length : Int) (wrap64 (x53_2 + 1))) = some r := by rw [if_pos rfl] at H; exact H
                                clear H
                                have H := H1
                                clear H1
                                have H' := Aside0.mk H
                                clear H
                                try go_wp2
                                have n0_ := Aside0.mk (Kd.R_drew HO_5.out)
                                have n1_ := Aside0.mk (Kd.R_drew HO_8.out)
                                have n2_ := Aside0.mk (below_drew1 HB.out)
                                clear HO_5
                                clear HO_8
                                clear HB
                                have HO_5 := n0_
                                have HO_8 := n1_
                                have HB := n2_
                                clear n0_ n1_ n2_
                                have p327 : 0 ≤ (x53_2 : Int) := of_decide_eq_true (by first | (with_reducible assumption) | assumption)
                                have q327 : x53_2 < (t312.length : Int) := of_decide_eq_true (by first | (with_reducible assumption) | assumption)
                                obtain ⟨ad327, e327, hx327_0⟩ := Kd.at_int (Kd.R_reads' HO_5.out).2.2 x53_2 p327 q327
                                cases e327
                                replace p327 := eq_true p327
                                replace q327 := eq_true q327
                                obtain ⟨Ao42, co42, eo42⟩ := Kd.R_slice HO_8.out
                                (first | subst eo42 | (injection eo42 with f1_ f2_ f3_; have f4_ := f1_.symm; have f5_ := f3_.symm; clear f1_ f2_ f3_; subst f4_; subst f5_))
                                have p328 : 0 ≤ (x53_2 : Int) := of_decide_eq_true (by first | (with_reducible assumption) | assumption)
                                have q328 : x53_2 < (t319.length : Int) := of_decide_eq_true (by first | (with_reducible assumption) | assumption)
                                obtain ⟨ad328, e328, hx328_0⟩ := Kd.at_int (Kd.R_reads' HO_8.out).2.2 x53_2 p328 q328
                                cases e328
                                replace p328 := eq_true p328
                                replace q328 := eq_true q328
                                have p329 : 0 ≤ (x53_2 : Int) := of_decide_eq_true (by first | (with_reducible assumption) | assumption)
                                have q329 : x53_2 < (l0.length : Int) := of_decide_eq_true (by first | (with_reducible assumption) | assumption)
                                obtain ⟨ad329, A329_2, c329_2, A329_16, c329_16, e329, hx329_0, hx329_1, hx329_2, hx329_3, hx329_4, hx329_5, hx329_6, hx329_7, hx329_8, hx329_9, hx329_10, hx329_11, hx329_12, hx329_13, hx329_14, hx329_15, hx329_16, hl329_2, hi329_2, hl329_16, hi329_16⟩ := at_T43 HR0.out x53_2 p329 q329
                                have hw329_16 := hx329_16
                                have hw329_15 := hx329_15
                                have hw329_14 := hx329_14
                                have hw329_13 := hx329_13
                                have hw329_12 := hx329_12
                                have hw329_11 := hx329_11
                                have hw329_10 := hx329_10
                                have hw329_9 := hx329_9
                                have hw329_8 := hx329_8
                                have hw329_7 := hx329_7
                                have hw329_6 := hx329_6
                                have hw329_5 := hx329_5
                                have hw329_4 := hx329_4
                                have hw329_3 := hx329_3
                                have hw329_2 := hx329_2
                                have hw329_1 := hx329_1
                                have hw329_0 := hx329_0
                                cases e329
                                replace hx329_0 := (HB.out.cell (World.block_lt_of_cell? w _ hx329_0)).trans hx329_0
                                replace hx329_1 := (HB.out.cell (World.block_lt_of_cell? w _ hx329_1)).trans hx329_1
                                replace hx329_2 := (HB.out.cell (World.block_lt_of_cell? w _ hx329_2)).trans hx329_2
                                replace hx329_3 := (HB.out.cell (World.block_lt_of_cell? w _ hx329_3)).trans hx329_3
                                replace hx329_4 := (HB.out.cell (World.block_lt_of_cell? w _ hx329_4)).trans hx329_4
                                replace hx329_5 := (HB.out.cell (World.block_lt_of_cell? w _ hx329_5)).trans hx329_5
                                replace hx329_6 := (HB.out.cell (World.block_lt_of_cell? w _ hx329_6)).trans hx329_6
                                replace hx329_7 := (HB.out.cell (World.block_lt_of_cell? w _ hx329_7)).trans hx329_7
                                replace hx329_8 := (HB.out.cell (World.block_lt_of_cell? w _ hx329_8)).trans hx329_8
                                replace hx329_9 := (HB.out.cell (World.block_lt_of_cell? w _ hx329_9)).trans hx329_9
                                replace hx329_10 := (HB.out.cell (World.block_lt_of_cell? w _ hx329_10)).trans hx329_10
                                replace hx329_11 := (HB.out.cell (World.block_lt_of_cell? w _ hx329_11)).trans hx329_11
                                replace hx329_12 := (HB.out.cell (World.block_lt_of_cell? w _ hx329_12)).trans hx329_12
                                replace hx329_13 := (HB.out.cell (World.block_lt_of_cell? w _ hx329_13)).trans hx329_13
                                replace hx329_14 := (HB.out.cell (World.block_lt_of_cell? w _ hx329_14)).trans hx329_14
                                replace hx329_15 := (HB.out.cell (World.block_lt_of_cell? w _ hx329_15)).trans hx329_15
                                replace hx329_16 := (HB.out.cell (World.block_lt_of_cell? w _ hx329_16)).trans hx329_16
                                have HR329_2 := Aside0.mk hi329_2
                                have HC329_2 := Aside0.mk hl329_2
                                clear hi329_2 hl329_2
                                have HR329_16 := Aside0.mk hi329_16
                                have HC329_16 := Aside0.mk hl329_16
                                clear hi329_16 hl329_16
                                replace p329 := eq_true p329
                                replace q329 := eq_true q329
                                refine start_ (n := 39) (S := fun w' => w'.cell? (ad327.add (x53_2).toNat) = some (.int .i64 (rd t312 x53_2)) ∧ w'.cell? (ad328.add (x53_2).toNat) = some (.int .i64 (rd t319 x53_2)) ∧ w'.cell? (ad329.add ((x53_2).toNat * 17)) = some (.int .i64 ((rd_T43 l0 x53_2).f0)) ∧ w'.cell? ⟨(ad329.add ((x53_2).toNat * 17)).block, (ad329.add ((x53_2).toNat * 17)).off + 1, none⟩ = some (.string ((rd_T43 l0 x53_2).f1.f0)) ∧ w'.cell? ⟨(ad329.add ((x53_2).toNat * 17)).block, (ad329.add ((x53_2).toNat * 17)).off + 2, none⟩ = some (.slice A329_2 ((rd_T43 l0 x53_2).f1.f1).length c329_2) ∧ w'.cell? ⟨(ad329.add ((x53_2).toNat * 17)).block, (ad329.add ((x53_2).toNat * 17)).off + 3, none⟩ = some (.string ((rd_T43 l0 x53_2).f2)) ∧ w'.cell? ⟨(ad329.add ((x53_2).toNat * 17)).block, (ad329.add ((x53_2).toNat * 17)).off + 4, none⟩ = some (.string ((rd_T43 l0 x53_2).f3.f0)) ∧ w'.cell? ⟨(ad329.add ((x53_2).toNat * 17)).block, (ad329.add ((x53_2).toNat * 17)).off + 5, none⟩ = some (.int .i64 ((rd_T43 l0 x53_2).f3.f1.f0)) ∧ w'.cell? ⟨(ad329.add ((x53_2).toNat * 17)).block, (ad329.add ((x53_2).toNat * 17)).off + 6, none⟩ = some (.int .i64 ((rd_T43 l0 x53_2).f3.f1.f1)) ∧ w'.cell? ⟨(ad329.add ((x53_2).toNat * 17)).block, (ad329.add ((x53_2).toNat * 17)).off + 7, none⟩ = some (.string ((rd_T43 l0 x53_2).f3.f1.f2)) ∧ w'.cell? ⟨(ad329.add ((x53_2).toNat * 17)).block, (ad329.add ((x53_2).toNat * 17)).off + 8, none⟩ = some (.string ((rd_T43 l0 x53_2).f4.f0)) ∧ w'.cell? ⟨(ad329.add ((x53_2).toNat * 17)).block, (ad329.add ((x53_2).toNat * 17)).off + 9, none⟩ = some (.int .i64 ((rd_T43 l0 x53_2).f4.f1.f0)) ∧ w'.cell? ⟨(ad329.add ((x53_2).toNat * 17)).block, (ad329.add ((x53_2).toNat * 17)).off + 10, none⟩ = some (.int .i64 ((rd_T43 l0 x53_2).f4.f1.f1)) ∧ w'.cell? ⟨(ad329.add ((x53_2).toNat * 17)).block, (ad329.add ((x53_2).toNat * 17)).off + 11, none⟩ = some (.string ((rd_T43 l0 x53_2).f4.f1.f2)) ∧ w'.cell? ⟨(ad329.add ((x53_2).toNat * 17)).block, (ad329.add ((x53_2).toNat * 17)).off + 12, none⟩ = some (.string ((rd_T43 l0 x53_2).f5.f0)) ∧ w'.cell? ⟨(ad329.add ((x53_2).toNat * 17)).block, (ad329.add ((x53_2).toNat * 17)).off + 13, none⟩ = some (.int .i64 ((rd_T43 l0 x53_2).f5.f1.f0)) ∧ w'.cell? ⟨(ad329.add ((x53_2).toNat * 17)).block, (ad329.add ((x53_2).toNat * 17)).off + 14, none⟩ = some (.int .i64 ((rd_T43 l0 x53_2).f5.f1.f1)) ∧ w'.cell? ⟨(ad329.add ((x53_2).toNat * 17)).block, (ad329.add ((x53_2).toNat * 17)).off + 15, none⟩ = some (.string ((rd_T43 l0 x53_2).f5.f1.f2)) ∧ w'.cell? ⟨(ad329.add ((x53_2).toNat * 17)).block, (ad329.add ((x53_2).toNat * 17)).off + 16, none⟩ = some (.slice A329_16 ((rd_T43 l0 x53_2).f6).length c329_16)) (ds := []) #[false, false, false, false, false, false, false, false, false, false, false, false, false, false, false, false, false, false, false, false, false, false, false, false, false, false, false, false, false, false, false, false, false, false, false, false, false, false, false] (by kernel_rfl) rfl rfl ⟨hx327_0, hx328_0, ((HB.out.cell (World.block_lt_of_cell? w _ hw329_0)).trans hw329_0), ((HB.out.cell (World.block_lt_of_cell? w _ hw329_1)).trans hw329_1), ((HB.out.cell (World.block_lt_of_cell? w _ hw329_2)).trans hw329_2), ((HB.out.cell (World.block_lt_of_cell? w _ hw329_3)).trans hw329_3), ((HB.out.cell (World.block_lt_of_cell? w _ hw329_4)).trans hw329_4), ((HB.out.cell (World.block_lt_of_cell? w _ hw329_5)).trans hw329_5), ((HB.out.cell (World.block_lt_of_cell? w _ hw329_6)).trans hw329_6), ((HB.out.cell (World.block_lt_of_cell? w _ hw329_7)).trans hw329_7), ((HB.out.cell (World.block_lt_of_cell? w _ hw329_8)).trans hw329_8), ((HB.out.cell (World.block_lt_of_cell? w _ hw329_9)).trans hw329_9), ((HB.out.cell (World.block_lt_of_cell? w _ hw329_10)).trans hw329_10), ((HB.out.cell (World.block_lt_of_cell? w _ hw329_11)).trans hw329_11), ((HB.out.cell (World.block_lt_of_cell? w _ hw329_12)).trans hw329_12), ((HB.out.cell (World.block_lt_of_cell? w _ hw329_13)).trans hw329_13), ((HB.out.cell (World.block_lt_of_cell? w _ hw329_14)).trans hw329_14), ((HB.out.cell (World.block_lt_of_cell? w _ hw329_15)).trans hw329_15), ((HB.out.cell (World.block_lt_of_cell? w _ hw329_16)).trans hw329_16)⟩ (fun hHeld => ?_); refine with_tabW antecedentlaw11_SafeOrders.tab10 antecedentlaw11_SafeOrders.bits10 (fun HT_ HW_ => ?_)
                                generalize wr.drew = w41 at HO_5 HO_8 HB HR329_16 HR329_2 hx327_0 hx328_0 hx329_0 hx329_1 hx329_10 hx329_11 hx329_12 hx329_13 hx329_14 hx329_15 hx329_16 hx329_2 hx329_3 hx329_4 hx329_5 hx329_6 hx329_7 hx329_8 hx329_9 hHeld ⊢
                                have HW329 := Aside0.mk (And.intro hw329_0 (And.intro hw329_1 (And.intro hw329_2 (And.intro hw329_3 (And.intro hw329_4 (And.intro hw329_5 (And.intro hw329_6 (And.intro hw329_7 (And.intro hw329_8 (And.intro hw329_9 (And.intro hw329_10 (And.intro hw329_11 (And.intro hw329_12 (And.intro hw329_13 (And.intro hw329_14 (And.intro hw329_15 (And.intro hw329_16 trivial)))))))))))))))))
                                clear hw329_0 hw329_1 hw329_2 hw329_3 hw329_4 hw329_5 hw329_6 hw329_7 hw329_8 hw329_9 hw329_10 hw329_11 hw329_12 hw329_13 hw329_14 hw329_15 hw329_16
                                try clear hx329_0 hx329_1 hx329_2 hx329_3 hx329_4 hx329_5 hx329_6 hx329_7 hx329_8 hx329_9 hx329_10 hx329_11 hx329_12 hx329_13 hx329_14 hx329_15 hx329_16
                                refine pure_ (i := 0) (N := some 56) (v := ?_) (a' := ?_) #[true, false, false, false, false, false, false, false, false, false, false, false, false, false, false, false, false, false, false, false, false, false, false, false, false, false, false, false, false, false, false, false, false, false, false, false, false, false, false] rfl rfl (any_of HT_.out (by kernel_rfl)) (fun _ _ _ h => h) (Or.inl ⟨by rfl, ?_⟩) ?_ ?_
                                rotate_left
                                · intro w'
                                  go_simp
                                  with_reducible rfl
                                rotate_left
                                · simp only [Act.put, List.setIfInBounds_toArray, List.set_cons_zero, List.set_cons_succ, i64_w, i32_w]
                                  rfl
                                refine pure_ (i := 1) (N := some 57) (v := ?_) (a' := ?_) #[true, true, false, false, false, false, false, false, false, false, false, false, false, false, false, false, false, false, false, false, false, false, false, false, false, false, false, false, false, false, false, false, false, false, false, false, false, false, false] rfl rfl (any_of HT_.out (by kernel_rfl)) (fun _ _ _ h => h) (Or.inl ⟨by rfl, ?_⟩) ?_ ?_
                                rotate_left
                                · intro w'
                                  go_simp
                                  with_reducible rfl
                                rotate_left
                                · simp only [Act.put, List.setIfInBounds_toArray, List.set_cons_zero, List.set_cons_succ, i64_w, i32_w]
                                  rfl
                                refine pure_ (i := 2) (N := some 58) (v := ?_) (a' := ?_) #[true, true, true, false, false, false, false, false, false, false, false, false, false, false, false, false, false, false, false, false, false, false, false, false, false, false, false, false, false, false, false, false, false, false, false, false, false, false, false] rfl rfl (any_of HT_.out (by kernel_rfl)) (fun _ _ _ h => h) (Or.inl ⟨by rfl, ?_⟩) ?_ ?_
                                rotate_left
                                · intro w'
                                  go_simp
                                  with_reducible rfl
                                rotate_left
                                · simp only [Act.put, List.setIfInBounds_toArray, List.set_cons_zero, List.set_cons_succ, i64_w, i32_w]
                                  rfl
                                refine pure_ (i := 4) (N := some 60) (v := ?_) (a' := ?_) #[true, true, true, false, true, false, false, false, false, false, false, false, false, false, false, false, false, false, false, false, false, false, false, false, false, false, false, false, false, false, false, false, false, false, false, false, false, false, false] rfl rfl (any_of HT_.out (by kernel_rfl)) (fun _ _ _ h => h) (Or.inl ⟨by rfl, ?_⟩) ?_ ?_
                                rotate_left
                                · intro w'
                                  go_simp
                                  with_reducible rfl
                                rotate_left
                                · simp only [Act.put, List.setIfInBounds_toArray, List.set_cons_zero, List.set_cons_succ, i64_w, i32_w]
                                  rfl
                                refine pure_ (i := 5) (N := some 61) (v := ?_) (a' := ?_) #[true, true, true, false, true, true, false, false, false, false, false, false, false, false, false, false, false, false, false, false, false, false, false, false, false, false, false, false, false, false, false, false, false, false, false, false, false, false, false] rfl rfl (any_of HT_.out (by kernel_rfl)) (fun _ _ _ h => h) (Or.inl ⟨by rfl, ?_⟩) ?_ ?_
                                rotate_left
                                · intro w'
                                  go_simp
                                  with_reducible rfl
                                rotate_left
                                · simp only [Act.put, List.setIfInBounds_toArray, List.set_cons_zero, List.set_cons_succ, i64_w, i32_w]
                                  rfl
                                refine pure_ (i := 6) (N := some 62) (v := ?_) (a' := ?_) #[true, true, true, false, true, true, true, false, false, false, false, false, false, false, false, false, false, false, false, false, false, false, false, false, false, false, false, false, false, false, false, false, false, false, false, false, false, false, false] rfl rfl (any_of HT_.out (by kernel_rfl)) (fun _ _ _ h => h) (Or.inl ⟨by rfl, ?_⟩) ?_ ?_
                                rotate_left
                                · intro w'
                                  go_simp
                                  with_reducible rfl
                                rotate_left
                                · simp only [Act.put, List.setIfInBounds_toArray, List.set_cons_zero, List.set_cons_succ, i64_w, i32_w]
                                  rfl
                                refine take_ (i := 3) (N := some 59) (v := ?_) (a' := ?_) #[true, true, true, true, true, true, true, false, false, false, false, false, false, false, false, false, false, false, false, false, false, false, false, false, false, false, false, false, false, false, false, false, false, false, false, false, false, false, false] rfl rfl (take_ofW HT_.out HW_.out (by kernel_rfl)) (fun _ _ _ h => h) (Or.inl ⟨by rfl, ?_⟩) hHeld ?_ ?_
                                rotate_left
                                · rintro w' ⟨s0, s1, s2, s3, s4, s5, s6, s7, s8, s9, s10, s11, s12, s13, s14, s15, s16, s17, s18⟩
                                  go_simp
                                  with_reducible rfl
                                rotate_left
                                · simp only [Act.put, List.setIfInBounds_toArray, List.set_cons_zero, List.set_cons_succ, i64_w, i32_w]
                                  rfl
                                refine take_ (i := 7) (N := some 63) (v := ?_) (a' := ?_) #[true, true, true, true, true, true, true, true, false, false, false, false, false, false, false, false, false, false, false, false, false, false, false, false, false, false, false, false, false, false, false, false, false, false, false, false, false, false, false] rfl rfl (take_ofW HT_.out HW_.out (by kernel_rfl)) (fun _ _ _ h => h) (Or.inl ⟨by rfl, ?_⟩) hHeld ?_ ?_
                                rotate_left
                                · rintro w' ⟨s0, s1, s2, s3, s4, s5, s6, s7, s8, s9, s10, s11, s12, s13, s14, s15, s16, s17, s18⟩
                                  go_simp
                                  with_reducible rfl
                                rotate_left
                                · simp only [Act.put, List.setIfInBounds_toArray, List.set_cons_zero, List.set_cons_succ, i64_w, i32_w]
                                  rfl
                                refine pure_ (i := 8) (N := some 64) (v := ?_) (a' := ?_) #[true, true, true, true, true, true, true, true, true, false, false, false, false, false, false, false, false, false, false, false, false, false, false, false, false, false, false, false, false, false, false, false, false, false, false, false, false, false, false] rfl rfl (any_of HT_.out (by kernel_rfl)) (fun _ _ _ h => h) (Or.inl ⟨by rfl, ?_⟩) ?_ ?_
                                rotate_left
                                · intro w'
                                  go_simp
                                  with_reducible rfl
                                rotate_left
                                · simp only [Act.put, List.setIfInBounds_toArray, List.set_cons_zero, List.set_cons_succ, i64_w, i32_w]
                                  rfl
                                refine pure_ (i := 9) (N := some 65) (v := ?_) (a' := ?_) #[true, true, true, true, true, true, true, true, true, true, false, false, false, false, false, false, false, false, false, false, false, false, false, false, false, false, false, false, false, false, false, false, false, false, false, false, false, false, false] rfl rfl (any_of HT_.out (by kernel_rfl)) (fun _ _ _ h => h) (Or.inl ⟨by rfl, ?_⟩) ?_ ?_
                                rotate_left
                                · intro w'
                                  go_simp
                                  with_reducible rfl
                                rotate_left
                                · simp only [Act.put, List.setIfInBounds_toArray, List.set_cons_zero, List.set_cons_succ, i64_w, i32_w]
                                  rfl
                                refine pure_ (i := 10) (N := some 66) (v := ?_) (a' := ?_) #[true, true, true, true, true, true, true, true, true, true, true, false, false, false, false, false, false, false, false, false, false, false, false, false, false, false, false, false, false, false, false, false, false, false, false, false, false, false, false] rfl rfl (any_of HT_.out (by kernel_rfl)) (fun _ _ _ h => h) (Or.inl ⟨by rfl, ?_⟩) ?_ ?_
                                rotate_left
                                · intro w'
                                  go_simp
                                  with_reducible rfl
                                rotate_left
                                · simp only [Act.put, List.setIfInBounds_toArray, List.set_cons_zero, List.set_cons_succ, i64_w, i32_w]
                                  rfl
                                refine pure_ (i := 11) (N := some 67) (v := ?_) (a' := ?_) #[true, true, true, true, true, true, true, true, true, true, true, true, false, false, false, false, false, false, false, false, false, false, false, false, false, false, false, false, false, false, false, false, false, false, false, false, false, false, false] rfl rfl (any_of HT_.out (by kernel_rfl)) (fun _ _ _ h => h) (Or.inl ⟨by rfl, ?_⟩) ?_ ?_
                                rotate_left
                                · intro w'
                                  go_simp
                                  with_reducible rfl
                                rotate_left
                                · simp only [Act.put, List.setIfInBounds_toArray, List.set_cons_zero, List.set_cons_succ, i64_w, i32_w]
                                  rfl
                                refine pure_ (i := 12) (N := some 68) (v := ?_) (a' := ?_) #[true, true, true, true, true, true, true, true, true, true, true, true, true, false, false, false, false, false, false, false, false, false, false, false, false, false, false, false, false, false, false, false, false, false, false, false, false, false, false] rfl rfl (any_of HT_.out (by kernel_rfl)) (fun _ _ _ h => h) (Or.inl ⟨by rfl, ?_⟩) ?_ ?_
                                rotate_left
                                · intro w'
                                  go_simp
                                  with_reducible rfl
                                rotate_left
                                · simp only [Act.put, List.setIfInBounds_toArray, List.set_cons_zero, List.set_cons_succ, i64_w, i32_w]
                                  rfl
                                refine pure_ (i := 15) (N := some 71) (v := ?_) (a' := ?_) #[true, true, true, true, true, true, true, true, true, true, true, true, true, false, false, true, false, false, false, false, false, false, false, false, false, false, false, false, false, false, false, false, false, false, false, false, false, false, false] rfl rfl (any_of HT_.out (by kernel_rfl)) (fun _ _ _ h => h) (Or.inl ⟨by rfl, ?_⟩) ?_ ?_
                                rotate_left
                                · intro w'
                                  go_simp
                                  with_reducible rfl
                                rotate_left
                                · simp only [Act.put, List.setIfInBounds_toArray, List.set_cons_zero, List.set_cons_succ, i64_w, i32_w]
                                  rfl
                                refine pure_ (i := 16) (N := some 72) (v := ?_) (a' := ?_) #[true, true, true, true, true, true, true, true, true, true, true, true, true, false, false, true, true, false, false, false, false, false, false, false, false, false, false, false, false, false, false, false, false, false, false, false, false, false, false] rfl rfl (any_of HT_.out (by kernel_rfl)) (fun _ _ _ h => h) (Or.inl ⟨by rfl, ?_⟩) ?_ ?_
                                rotate_left
                                · intro w'
                                  go_simp
                                  with_reducible rfl
                                rotate_left
                                · simp only [Act.put, List.setIfInBounds_toArray, List.set_cons_zero, List.set_cons_succ, i64_w, i32_w]
                                  rfl
                                refine pure_ (i := 17) (N := some 73) (v := ?_) (a' := ?_) #[true, true, true, true, true, true, true, true, true, true, true, true, true, false, false, true, true, true, false, false, false, false, false, false, false, false, false, false, false, false, false, false, false, false, false, false, false, false, false] rfl rfl (any_of HT_.out (by kernel_rfl)) (fun _ _ _ h => h) (Or.inl ⟨by rfl, ?_⟩) ?_ ?_
                                rotate_left
                                · intro w'
                                  go_simp
                                  with_reducible rfl
                                rotate_left
                                · simp only [Act.put, List.setIfInBounds_toArray, List.set_cons_zero, List.set_cons_succ, i64_w, i32_w]
                                  rfl
                                refine take_ (i := 13) (N := some 69) (v := ?_) (a' := ?_) #[true, true, true, true, true, true, true, true, true, true, true, true, true, true, false, true, true, true, false, false, false, false, false, false, false, false, false, false, false, false, false, false, false, false, false, false, false, false, false] rfl rfl (take_ofW HT_.out HW_.out (by kernel_rfl)) (fun _ _ _ h => h) (Or.inl ⟨by rfl, ?_⟩) hHeld ?_ ?_
                                rotate_left
                                · rintro w' ⟨s0, s1, s2, s3, s4, s5, s6, s7, s8, s9, s10, s11, s12, s13, s14, s15, s16, s17, s18⟩
                                  (refine exec_load_cells (ty := 43) (x := .tmp 68) (p := (ad329.add ((x53_2).toNat * 17))) (cs := [.int .i64 ((rd_T43 l0 x53_2).f0), .string ((rd_T43 l0 x53_2).f1.f0), .slice A329_2 ((rd_T43 l0 x53_2).f1.f1).length c329_2, .string ((rd_T43 l0 x53_2).f2), .string ((rd_T43 l0 x53_2).f3.f0), .int .i64 ((rd_T43 l0 x53_2).f3.f1.f0), .int .i64 ((rd_T43 l0 x53_2).f3.f1.f1), .string ((rd_T43 l0 x53_2).f3.f1.f2), .string ((rd_T43 l0 x53_2).f4.f0), .int .i64 ((rd_T43 l0 x53_2).f4.f1.f0), .int .i64 ((rd_T43 l0 x53_2).f4.f1.f1), .string ((rd_T43 l0 x53_2).f4.f1.f2), .string ((rd_T43 l0 x53_2).f5.f0), .int .i64 ((rd_T43 l0 x53_2).f5.f1.f0), .int .i64 ((rd_T43 l0 x53_2).f5.f1.f1), .string ((rd_T43 l0 x53_2).f5.f1.f2), .slice A329_16 ((rd_T43 l0 x53_2).f6).length c329_16]) ?_ ?_ ?_ hu43 ?_ ?_; exact rfl; (first | with_reducible rfl | rfl); exact ⟨s2, ⟨s3, ⟨s4, ⟨s5, ⟨s6, ⟨s7, ⟨s8, ⟨s9, ⟨s10, ⟨s11, ⟨s12, ⟨s13, ⟨s14, ⟨s15, ⟨s16, ⟨s17, ⟨s18, trivial⟩⟩⟩⟩⟩⟩⟩⟩⟩⟩⟩⟩⟩⟩⟩⟩⟩; exact rfl; (as_aux_lemma => kernel_rfl))
                                rotate_left
                                · simp only [Act.put, List.setIfInBounds_toArray, List.set_cons_zero, List.set_cons_succ, i64_w, i32_w]
                                  rfl
                                refine take_ (i := 18) (N := some 74) (v := ?_) (a' := ?_) #[true, true, true, true, true, true, true, true, true, true, true, true, true, true, false, true, true, true, true, false, false, false, false, false, false, false, false, false, false, false, false, false, false, false, false, false, false, false, false] rfl rfl (take_ofW HT_.out HW_.out (by kernel_rfl)) (fun _ _ _ h => h) (Or.inl ⟨by rfl, ?_⟩) hHeld ?_ ?_
                                rotate_left
                                · rintro w' ⟨s0, s1, s2, s3, s4, s5, s6, s7, s8, s9, s10, s11, s12, s13, s14, s15, s16, s17, s18⟩
                                  (refine exec_load_cells (ty := 43) (x := .tmp 73) (p := (ad329.add ((x53_2).toNat * 17))) (cs := [.int .i64 ((rd_T43 l0 x53_2).f0), .string ((rd_T43 l0 x53_2).f1.f0), .slice A329_2 ((rd_T43 l0 x53_2).f1.f1).length c329_2, .string ((rd_T43 l0 x53_2).f2), .string ((rd_T43 l0 x53_2).f3.f0), .int .i64 ((rd_T43 l0 x53_2).f3.f1.f0), .int .i64 ((rd_T43 l0 x53_2).f3.f1.f1), .string ((rd_T43 l0 x53_2).f3.f1.f2), .string ((rd_T43 l0 x53_2).f4.f0), .int .i64 ((rd_T43 l0 x53_2).f4.f1.f0), .int .i64 ((rd_T43 l0 x53_2).f4.f1.f1), .string ((rd_T43 l0 x53_2).f4.f1.f2), .string ((rd_T43 l0 x53_2).f5.f0), .int .i64 ((rd_T43 l0 x53_2).f5.f1.f0), .int .i64 ((rd_T43 l0 x53_2).f5.f1.f1), .string ((rd_T43 l0 x53_2).f5.f1.f2), .slice A329_16 ((rd_T43 l0 x53_2).f6).length c329_16]) ?_ ?_ ?_ hu43 ?_ ?_; exact rfl; (first | with_reducible rfl | rfl); exact ⟨s2, ⟨s3, ⟨s4, ⟨s5, ⟨s6, ⟨s7, ⟨s8, ⟨s9, ⟨s10, ⟨s11, ⟨s12, ⟨s13, ⟨s14, ⟨s15, ⟨s16, ⟨s17, ⟨s18, trivial⟩⟩⟩⟩⟩⟩⟩⟩⟩⟩⟩⟩⟩⟩⟩⟩⟩; exact rfl; (as_aux_lemma => kernel_rfl))
                                rotate_left
                                · simp only [Act.put, List.setIfInBounds_toArray, List.set_cons_zero, List.set_cons_succ, i64_w, i32_w]
                                  rfl
                                refine one_ (i := 14) (N := some 70) #[true, true, true, true, true, true, true, true, true, true, true, true, true, true, true, true, true, true, true, false, false, false, false, false, false, false, false, false, false, false, false, false, false, false, false, false, false, false, false] rfl rfl (one_of HT_.out (by kernel_rfl)) (by decide) (fun K hK => ?_)
                                refine goes_ Try.func14 (by kernel_rfl) rfl #[.agg #[.int .i64 ((rd_T43 l0 x53_2).f0), .string ((rd_T43 l0 x53_2).f1.f0), .slice A329_2 ((rd_T43 l0 x53_2).f1.f1).length c329_2, .string ((rd_T43 l0 x53_2).f2), .string ((rd_T43 l0 x53_2).f3.f0), .int .i64 ((rd_T43 l0 x53_2).f3.f1.f0), .int .i64 ((rd_T43 l0 x53_2).f3.f1.f1), .string ((rd_T43 l0 x53_2).f3.f1.f2), .string ((rd_T43 l0 x53_2).f4.f0), .int .i64 ((rd_T43 l0 x53_2).f4.f1.f0), .int .i64 ((rd_T43 l0 x53_2).f4.f1.f1), .string ((rd_T43 l0 x53_2).f4.f1.f2), .string ((rd_T43 l0 x53_2).f5.f0), .int .i64 ((rd_T43 l0 x53_2).f5.f1.f0), .int .i64 ((rd_T43 l0 x53_2).f5.f1.f1), .string ((rd_T43 l0 x53_2).f5.f1.f2), .slice A329_16 ((rd_T43 l0 x53_2).f6).length c329_16]] (by rfl) rfl rfl (by (try simp only [List.map_toArray, List.map_cons, List.map_nil]); first | done | rfl | (simp only [List.length_drop, List.length_take]; rfl)) ?_
                                with_reducible refine (safe_Vars.calls k2 ((rd_T43 l0 x53_2).f0) ((rd_T43 l0 x53_2).f1.f0) _ _ ((rd_T43 l0 x53_2).f1.f1) ((rd_T43 l0 x53_2).f2) ((rd_T43 l0 x53_2).f3.f0) ((rd_T43 l0 x53_2).f3.f1.f0) ((rd_T43 l0 x53_2).f3.f1.f1) ((rd_T43 l0 x53_2).f3.f1.f2) ((rd_T43 l0 x53_2).f4.f0) ((rd_T43 l0 x53_2).f4.f1.f0) ((rd_T43 l0 x53_2).f4.f1.f1) ((rd_T43 l0 x53_2).f4.f1.f2) ((rd_T43 l0 x53_2).f5.f0) ((rd_T43 l0 x53_2).f5.f1.f0) ((rd_T43 l0 x53_2).f5.f1.f1) ((rd_T43 l0 x53_2).f5.f1.f2) _ _ ((rd_T43 l0 x53_2).f6) t330 _ ?side1 ?side2 ?side3 ?side4 A33.out).mono ?_
                                (case side1 => repeat (first | exact (Kd.C_below HR329_2.out HB.out) | (with_reducible refine Kd.C_alloc ?_ _) | (with_reducible refine Kd.C_drewN ?_ _) | (with_reducible refine Kd.C_drew ?_)))
                                (case side2 => exact HC329_2.out)
                                (case side3 => repeat (first | exact (Kd.C_below HR329_16.out HB.out) | (with_reducible refine Kd.C_alloc ?_ _) | (with_reducible refine Kd.C_drewN ?_ _) | (with_reducible refine Kd.C_drew ?_)))
                                (case side4 => exact HC329_16.out)
                                rintro e w43 ⟨v331, rfl, ho0, hb⟩
                                have HS0_ := (hb.cell (World.block_lt_of_cell? _ _ (hHeld.1))).trans (hHeld.1)
                                have HS1_ := (hb.cell (World.block_lt_of_cell? _ _ (hHeld.2.1))).trans (hHeld.2.1)
                                refine ⟨_, rfl, ?_⟩
                                have n0_ := Aside0.mk (Kd.R_below (by (with_reducible repeat (first | apply Kd.R_alloc | apply Kd.R_drewN | apply Kd.R_drew)); exact HO_5.out) hb)
                                have n1_ := Aside0.mk (Kd.R_below (by (with_reducible repeat (first | apply Kd.R_alloc | apply Kd.R_drewN | apply Kd.R_drew)); exact HO_8.out) hb)
                                have n2_ := Aside0.mk (Kd.R_lower ho0 (below_size (by repeat (first | (with_reducible first | exact HB.out | apply below_alloc | apply pw_below_drewN | apply below_drew1) | exact HB.out))))
                                have n3_ := Aside0.mk (below_step (by repeat (first | (with_reducible first | exact HB.out | apply below_alloc | apply pw_below_drewN | apply below_drew1) | exact HB.out)) hb)
                                clear HO_5
                                clear HO_8
                                clear HB
                                have HO_5 := n0_
                                have HO_8 := n1_
                                have HO332 := n2_
                                have HB := n3_
                                clear n0_ n1_ n2_ n3_
                                (try clear hb)
                                (try clear hb2)
                                (try clear hk)
                                (try clear hi)
                                (try clear ho0)
                                refine hK.out _ _ ⟨HS0_, HS1_, ((HB.out.cell (World.block_lt_of_cell? w _ HW329.out.1)).trans HW329.out.1), ((HB.out.cell (World.block_lt_of_cell? w _ HW329.out.2.1)).trans HW329.out.2.1), ((HB.out.cell (World.block_lt_of_cell? w _ HW329.out.2.2.1)).trans HW329.out.2.2.1), ((HB.out.cell (World.block_lt_of_cell? w _ HW329.out.2.2.2.1)).trans HW329.out.2.2.2.1), ((HB.out.cell (World.block_lt_of_cell? w _ HW329.out.2.2.2.2.1)).trans HW329.out.2.2.2.2.1), ((HB.out.cell (World.block_lt_of_cell? w _ HW329.out.2.2.2.2.2.1)).trans HW329.out.2.2.2.2.2.1), ((HB.out.cell (World.block_lt_of_cell? w _ HW329.out.2.2.2.2.2.2.1)).trans HW329.out.2.2.2.2.2.2.1), ((HB.out.cell (World.block_lt_of_cell? w _ HW329.out.2.2.2.2.2.2.2.1)).trans HW329.out.2.2.2.2.2.2.2.1), ((HB.out.cell (World.block_lt_of_cell? w _ HW329.out.2.2.2.2.2.2.2.2.1)).trans HW329.out.2.2.2.2.2.2.2.2.1), ((HB.out.cell (World.block_lt_of_cell? w _ HW329.out.2.2.2.2.2.2.2.2.2.1)).trans HW329.out.2.2.2.2.2.2.2.2.2.1), ((HB.out.cell (World.block_lt_of_cell? w _ HW329.out.2.2.2.2.2.2.2.2.2.2.1)).trans HW329.out.2.2.2.2.2.2.2.2.2.2.1), ((HB.out.cell (World.block_lt_of_cell? w _ HW329.out.2.2.2.2.2.2.2.2.2.2.2.1)).trans HW329.out.2.2.2.2.2.2.2.2.2.2.2.1), ((HB.out.cell (World.block_lt_of_cell? w _ HW329.out.2.2.2.2.2.2.2.2.2.2.2.2.1)).trans HW329.out.2.2.2.2.2.2.2.2.2.2.2.2.1), ((HB.out.cell (World.block_lt_of_cell? w _ HW329.out.2.2.2.2.2.2.2.2.2.2.2.2.2.1)).trans HW329.out.2.2.2.2.2.2.2.2.2.2.2.2.2.1), ((HB.out.cell (World.block_lt_of_cell? w _ HW329.out.2.2.2.2.2.2.2.2.2.2.2.2.2.2.1)).trans HW329.out.2.2.2.2.2.2.2.2.2.2.2.2.2.2.1), ((HB.out.cell (World.block_lt_of_cell? w _ HW329.out.2.2.2.2.2.2.2.2.2.2.2.2.2.2.2.1)).trans HW329.out.2.2.2.2.2.2.2.2.2.2.2.2.2.2.2.1), ((HB.out.cell (World.block_lt_of_cell? w _ HW329.out.2.2.2.2.2.2.2.2.2.2.2.2.2.2.2.2.1)).trans HW329.out.2.2.2.2.2.2.2.2.2.2.2.2.2.2.2.2.1)⟩ (fun hHeld => ?_)
                                clear hK K
                                refine norm_ (a' := ?_) ?_ ?_
                                rotate_left
                                · show Act.put _ (some 70) _ = _
                                  simp only [Act.put, List.setIfInBounds_toArray, List.set_cons_zero, List.set_cons_succ, i64_w, i32_w]
                                  rfl
                                refine one_ (i := 19) (N := some 75) #[true, true, true, true, true, true, true, true, true, true, true, true, true, true, true, true, true, true, true, true, false, false, false, false, false, false, false, false, false, false, false, false, false, false, false, false, false, false, false] rfl rfl (one_of HT_.out (by kernel_rfl)) (by decide) (fun K hK => ?_)
                                refine goes_ Try.func15 (by kernel_rfl) rfl #[.agg #[.int .i64 ((rd_T43 l0 x53_2).f0), .string ((rd_T43 l0 x53_2).f1.f0), .slice A329_2 ((rd_T43 l0 x53_2).f1.f1).length c329_2, .string ((rd_T43 l0 x53_2).f2), .string ((rd_T43 l0 x53_2).f3.f0), .int .i64 ((rd_T43 l0 x53_2).f3.f1.f0), .int .i64 ((rd_T43 l0 x53_2).f3.f1.f1), .string ((rd_T43 l0 x53_2).f3.f1.f2), .string ((rd_T43 l0 x53_2).f4.f0), .int .i64 ((rd_T43 l0 x53_2).f4.f1.f0), .int .i64 ((rd_T43 l0 x53_2).f4.f1.f1), .string ((rd_T43 l0 x53_2).f4.f1.f2), .string ((rd_T43 l0 x53_2).f5.f0), .int .i64 ((rd_T43 l0 x53_2).f5.f1.f0), .int .i64 ((rd_T43 l0 x53_2).f5.f1.f1), .string ((rd_T43 l0 x53_2).f5.f1.f2), .slice A329_16 ((rd_T43 l0 x53_2).f6).length c329_16]] (by rfl) rfl rfl (by (try simp only [List.map_toArray, List.map_cons, List.map_nil]); first | done | rfl | (simp only [List.length_drop, List.length_take]; rfl)) ?_
                                with_reducible refine (antecedentref11_Vars.calls k2 ((rd_T43 l0 x53_2).f0) ((rd_T43 l0 x53_2).f1.f0) _ _ ((rd_T43 l0 x53_2).f1.f1) ((rd_T43 l0 x53_2).f2) ((rd_T43 l0 x53_2).f3.f0) ((rd_T43 l0 x53_2).f3.f1.f0) ((rd_T43 l0 x53_2).f3.f1.f1) ((rd_T43 l0 x53_2).f3.f1.f2) ((rd_T43 l0 x53_2).f4.f0) ((rd_T43 l0 x53_2).f4.f1.f0) ((rd_T43 l0 x53_2).f4.f1.f1) ((rd_T43 l0 x53_2).f4.f1.f2) ((rd_T43 l0 x53_2).f5.f0) ((rd_T43 l0 x53_2).f5.f1.f0) ((rd_T43 l0 x53_2).f5.f1.f1) ((rd_T43 l0 x53_2).f5.f1.f2) _ _ ((rd_T43 l0 x53_2).f6) t334 _ ?side1 ?side2 ?side3 ?side4 A34.out).mono ?_
                                (case side1 => repeat (first | exact (Kd.C_below HR329_2.out HB.out) | (with_reducible refine Kd.C_alloc ?_ _) | (with_reducible refine Kd.C_drewN ?_ _) | (with_reducible refine Kd.C_drew ?_)))
                                (case side2 => exact HC329_2.out)
                                (case side3 => repeat (first | exact (Kd.C_below HR329_16.out HB.out) | (with_reducible refine Kd.C_alloc ?_ _) | (with_reducible refine Kd.C_drewN ?_ _) | (with_reducible refine Kd.C_drew ?_)))
                                (case side4 => exact HC329_16.out)
                                rintro e w44 ⟨v335, rfl, ho0, hb⟩
                                have HS0_ := (hb.cell (World.block_lt_of_cell? _ _ (hHeld.1))).trans (hHeld.1)
                                have HS1_ := (hb.cell (World.block_lt_of_cell? _ _ (hHeld.2.1))).trans (hHeld.2.1)
                                refine ⟨_, rfl, ?_⟩
                                have n0_ := Aside0.mk (Kd.R_below (by (with_reducible repeat (first | apply Kd.R_alloc | apply Kd.R_drewN | apply Kd.R_drew)); exact HO_5.out) hb)
                                have n1_ := Aside0.mk (Kd.R_below (by (with_reducible repeat (first | apply Kd.R_alloc | apply Kd.R_drewN | apply Kd.R_drew)); exact HO_8.out) hb)
                                have n2_ := Aside0.mk (Kd.R_elder' (by (with_reducible repeat (first | apply Kd.R_alloc | apply Kd.R_drewN | apply Kd.R_drew)); exact HO332.out) (Kd.R_base ho0) hb)
                                have n3_ := Aside0.mk (Kd.R_lower (Kd.R_new' ho0 (Kd.R_lt (by (with_reducible repeat (first | apply Kd.R_alloc | apply Kd.R_drewN | apply Kd.R_drew)); exact HO332.out))) (below_size (by repeat (first | (with_reducible first | exact HB.out | apply below_alloc | apply pw_below_drewN | apply below_drew1) | exact HB.out))))
                                have n4_ := Aside0.mk (below_step (by repeat (first | (with_reducible first | exact HB.out | apply below_alloc | apply pw_below_drewN | apply below_drew1) | exact HB.out)) hb)
                                clear HO_5
                                clear HO_8
                                clear HO332
                                clear HB
                                have HO_5 := n0_
                                have HO_8 := n1_
                                have HO332 := n2_
                                have HO336 := n3_
                                have HB := n4_
                                clear n0_ n1_ n2_ n3_ n4_
                                (try clear hb)
                                (try clear hb2)
                                (try clear hk)
                                (try clear hi)
                                (try clear ho0)
                                obtain ⟨Ao45, co45, eo45⟩ := Kd.R_slice HO332.out
                                (first | subst eo45 | (injection eo45 with f1_ f2_ f3_; have f4_ := f1_.symm; have f5_ := f3_.symm; clear f1_ f2_ f3_; subst f4_; subst f5_))
                                obtain ⟨Ao46, co46, eo46⟩ := Kd.R_slice HO336.out
                                (first | subst eo46 | (injection eo46 with f1_ f2_ f3_; have f4_ := f1_.symm; have f5_ := f3_.symm; clear f1_ f2_ f3_; subst f4_; subst f5_))
                                refine hK.out _ _ ⟨HS0_, HS1_, ((HB.out.cell (World.block_lt_of_cell? w _ HW329.out.1)).trans HW329.out.1), ((HB.out.cell (World.block_lt_of_cell? w _ HW329.out.2.1)).trans HW329.out.2.1), ((HB.out.cell (World.block_lt_of_cell? w _ HW329.out.2.2.1)).trans HW329.out.2.2.1), ((HB.out.cell (World.block_lt_of_cell? w _ HW329.out.2.2.2.1)).trans HW329.out.2.2.2.1), ((HB.out.cell (World.block_lt_of_cell? w _ HW329.out.2.2.2.2.1)).trans HW329.out.2.2.2.2.1), ((HB.out.cell (World.block_lt_of_cell? w _ HW329.out.2.2.2.2.2.1)).trans HW329.out.2.2.2.2.2.1), ((HB.out.cell (World.block_lt_of_cell? w _ HW329.out.2.2.2.2.2.2.1)).trans HW329.out.2.2.2.2.2.2.1), ((HB.out.cell (World.block_lt_of_cell? w _ HW329.out.2.2.2.2.2.2.2.1)).trans HW329.out.2.2.2.2.2.2.2.1), ((HB.out.cell (World.block_lt_of_cell? w _ HW329.out.2.2.2.2.2.2.2.2.1)).trans HW329.out.2.2.2.2.2.2.2.2.1), ((HB.out.cell (World.block_lt_of_cell? w _ HW329.out.2.2.2.2.2.2.2.2.2.1)).trans HW329.out.2.2.2.2.2.2.2.2.2.1), ((HB.out.cell (World.block_lt_of_cell? w _ HW329.out.2.2.2.2.2.2.2.2.2.2.1)).trans HW329.out.2.2.2.2.2.2.2.2.2.2.1), ((HB.out.cell (World.block_lt_of_cell? w _ HW329.out.2.2.2.2.2.2.2.2.2.2.2.1)).trans HW329.out.2.2.2.2.2.2.2.2.2.2.2.1), ((HB.out.cell (World.block_lt_of_cell? w _ HW329.out.2.2.2.2.2.2.2.2.2.2.2.2.1)).trans HW329.out.2.2.2.2.2.2.2.2.2.2.2.2.1), ((HB.out.cell (World.block_lt_of_cell? w _ HW329.out.2.2.2.2.2.2.2.2.2.2.2.2.2.1)).trans HW329.out.2.2.2.2.2.2.2.2.2.2.2.2.2.1), ((HB.out.cell (World.block_lt_of_cell? w _ HW329.out.2.2.2.2.2.2.2.2.2.2.2.2.2.2.1)).trans HW329.out.2.2.2.2.2.2.2.2.2.2.2.2.2.2.1), ((HB.out.cell (World.block_lt_of_cell? w _ HW329.out.2.2.2.2.2.2.2.2.2.2.2.2.2.2.2.1)).trans HW329.out.2.2.2.2.2.2.2.2.2.2.2.2.2.2.2.1), ((HB.out.cell (World.block_lt_of_cell? w _ HW329.out.2.2.2.2.2.2.2.2.2.2.2.2.2.2.2.2.1)).trans HW329.out.2.2.2.2.2.2.2.2.2.2.2.2.2.2.2.2.1)⟩ (fun hHeld => ?_)
                                clear hK K
                                refine norm_ (a' := ?_) ?_ ?_
                                rotate_left
                                · show Act.put _ (some 75) _ = _
                                  simp only [Act.put, List.setIfInBounds_toArray, List.set_cons_zero, List.set_cons_succ, i64_w, i32_w]
                                  rfl
                                refine one_ (i := 20) (N := some 76) #[true, true, true, true, true, true, true, true, true, true, true, true, true, true, true, true, true, true, true, true, true, false, false, false, false, false, false, false, false, false, false, false, false, false, false, false, false, false, false] rfl rfl (one_of HT_.out (by kernel_rfl)) (by decide) (fun K hK => ?_)
                                refine goes_ Try.func13 (by kernel_rfl) rfl #[.slice Ao45 t330.length co45, .slice Ao46 t334.length co46] (by rfl) rfl rfl (by (try simp only [List.map_toArray, List.map_cons, List.map_nil]); first | done | rfl | (simp only [List.length_drop, List.length_take]; rfl)) ?_
                                with_reducible refine (antecedentref11_Same.calls k2 _ _ t330 _ _ t334 true _ ?side1 ?side2 ?side3 ?side4 A35.out).mono ?_
                                (case side1 => repeat (first | exact (Kd.R_reads' HO332.out).2.2 | (with_reducible refine Kd.C_alloc ?_ _) | (with_reducible refine Kd.C_drewN ?_ _) | (with_reducible refine Kd.C_drew ?_)))
                                (case side2 => exact (Kd.R_reads' HO332.out).2.1)
                                (case side3 => repeat (first | exact (Kd.R_reads' HO336.out).2.2 | (with_reducible refine Kd.C_alloc ?_ _) | (with_reducible refine Kd.C_drewN ?_ _) | (with_reducible refine Kd.C_drew ?_)))
                                (case side4 => exact (Kd.R_reads' HO336.out).2.1)
                                rintro e w' ⟨rfl, ⟨nd, rfl⟩⟩
                                refine ⟨_, rfl, ?_⟩
                                refine hK.out _ _ ⟨hHeld.1, hHeld.2.1, ((HB.out.cell (World.block_lt_of_cell? w _ HW329.out.1)).trans HW329.out.1), ((HB.out.cell (World.block_lt_of_cell? w _ HW329.out.2.1)).trans HW329.out.2.1), ((HB.out.cell (World.block_lt_of_cell? w _ HW329.out.2.2.1)).trans HW329.out.2.2.1), ((HB.out.cell (World.block_lt_of_cell? w _ HW329.out.2.2.2.1)).trans HW329.out.2.2.2.1), ((HB.out.cell (World.block_lt_of_cell? w _ HW329.out.2.2.2.2.1)).trans HW329.out.2.2.2.2.1), ((HB.out.cell (World.block_lt_of_cell? w _ HW329.out.2.2.2.2.2.1)).trans HW329.out.2.2.2.2.2.1), ((HB.out.cell (World.block_lt_of_cell? w _ HW329.out.2.2.2.2.2.2.1)).trans HW329.out.2.2.2.2.2.2.1), ((HB.out.cell (World.block_lt_of_cell? w _ HW329.out.2.2.2.2.2.2.2.1)).trans HW329.out.2.2.2.2.2.2.2.1), ((HB.out.cell (World.block_lt_of_cell? w _ HW329.out.2.2.2.2.2.2.2.2.1)).trans HW329.out.2.2.2.2.2.2.2.2.1), ((HB.out.cell (World.block_lt_of_cell? w _ HW329.out.2.2.2.2.2.2.2.2.2.1)).trans HW329.out.2.2.2.2.2.2.2.2.2.1), ((HB.out.cell (World.block_lt_of_cell? w _ HW329.out.2.2.2.2.2.2.2.2.2.2.1)).trans HW329.out.2.2.2.2.2.2.2.2.2.2.1), ((HB.out.cell (World.block_lt_of_cell? w _ HW329.out.2.2.2.2.2.2.2.2.2.2.2.1)).trans HW329.out.2.2.2.2.2.2.2.2.2.2.2.1), ((HB.out.cell (World.block_lt_of_cell? w _ HW329.out.2.2.2.2.2.2.2.2.2.2.2.2.1)).trans HW329.out.2.2.2.2.2.2.2.2.2.2.2.2.1), ((HB.out.cell (World.block_lt_of_cell? w _ HW329.out.2.2.2.2.2.2.2.2.2.2.2.2.2.1)).trans HW329.out.2.2.2.2.2.2.2.2.2.2.2.2.2.1), ((HB.out.cell (World.block_lt_of_cell? w _ HW329.out.2.2.2.2.2.2.2.2.2.2.2.2.2.2.1)).trans HW329.out.2.2.2.2.2.2.2.2.2.2.2.2.2.2.1), ((HB.out.cell (World.block_lt_of_cell? w _ HW329.out.2.2.2.2.2.2.2.2.2.2.2.2.2.2.2.1)).trans HW329.out.2.2.2.2.2.2.2.2.2.2.2.2.2.2.2.1), ((HB.out.cell (World.block_lt_of_cell? w _ HW329.out.2.2.2.2.2.2.2.2.2.2.2.2.2.2.2.2.1)).trans HW329.out.2.2.2.2.2.2.2.2.2.2.2.2.2.2.2.2.1)⟩ (fun hHeld => ?_)
                                clear hK K
                                refine norm_ (a' := ?_) ?_ ?_
                                rotate_left
                                · show Act.put _ (some 76) _ = _
                                  simp only [Act.put, List.setIfInBounds_toArray, List.set_cons_zero, List.set_cons_succ, i64_w, i32_w]
                                  rfl
                                refine pure_ (i := 21) (N := some 77) (v := ?_) (a' := ?_) #[true, true, true, true, true, true, true, true, true, true, true, true, true, true, true, true, true, true, true, true, true, true, false, false, false, false, false, false, false, false, false, false, false, false, false, false, false, false, false] rfl rfl (any_of HT_.out (by kernel_rfl)) (fun _ _ _ h => h) (Or.inl ⟨by rfl, ?_⟩) ?_ ?_
                                rotate_left
                                · intro w'
                                  go_simp
                                  with_reducible rfl
                                rotate_left
                                · simp only [Act.put, List.setIfInBounds_toArray, List.set_cons_zero, List.set_cons_succ, i64_w, i32_w]
                                  rfl
                                refine pure_ (i := 22) (N := some 78) (v := ?_) (a' := ?_) #[true, true, true, true, true, true, true, true, true, true, true, true, true, true, true, true, true, true, true, true, true, true, true, false, false, false, false, false, false, false, false, false, false, false, false, false, false, false, false] rfl rfl (any_of HT_.out (by kernel_rfl)) (fun _ _ _ h => h) (Or.inl ⟨by rfl, ?_⟩) ?_ ?_
                                rotate_left
                                · intro w'
                                  go_simp
                                  with_reducible rfl
                                rotate_left
                                · simp only [Act.put, List.setIfInBounds_toArray, List.set_cons_zero, List.set_cons_succ, i64_w, i32_w]
                                  rfl
                                refine pure_ (i := 23) (N := some 79) (v := ?_) (a' := ?_) #[true, true, true, true, true, true, true, true, true, true, true, true, true, true, true, true, true, true, true, true, true, true, true, true, false, false, false, false, false, false, false, false, false, false, false, false, false, false, false] rfl rfl (any_of HT_.out (by kernel_rfl)) (fun _ _ _ h => h) (Or.inl ⟨by rfl, ?_⟩) ?_ ?_
                                rotate_left
                                · intro w'
                                  go_simp
                                  with_reducible rfl
                                rotate_left
                                · simp only [Act.put, List.setIfInBounds_toArray, List.set_cons_zero, List.set_cons_succ, i64_w, i32_w]
                                  rfl
                                refine pure_ (i := 24) (N := some 80) (v := ?_) (a' := ?_) #[true, true, true, true, true, true, true, true, true, true, true, true, true, true, true, true, true, true, true, true, true, true, true, true, true, false, false, false, false, false, false, false, false, false, false, false, false, false, false] rfl rfl (any_of HT_.out (by kernel_rfl)) (fun _ _ _ h => h) (Or.inl ⟨by rfl, ?_⟩) ?_ ?_
                                rotate_left
                                · intro w'
                                  go_simp
                                  with_reducible rfl
                                rotate_left
                                · simp only [Act.put, List.setIfInBounds_toArray, List.set_cons_zero, List.set_cons_succ, i64_w, i32_w]
                                  rfl
                                refine pure_ (i := 25) (N := some 81) (v := ?_) (a' := ?_) #[true, true, true, true, true, true, true, true, true, true, true, true, true, true, true, true, true, true, true, true, true, true, true, true, true, true, false, false, false, false, false, false, false, false, false, false, false, false, false] rfl rfl (any_of HT_.out (by kernel_rfl)) (fun _ _ _ h => h) (Or.inl ⟨by rfl, ?_⟩) ?_ ?_
                                rotate_left
                                · intro w'
                                  go_simp
                                  with_reducible rfl
                                rotate_left
                                · simp only [Act.put, List.setIfInBounds_toArray, List.set_cons_zero, List.set_cons_succ, i64_w, i32_w]
                                  rfl
                                refine pure_ (i := 26) (N := some 82) (v := ?_) (a' := ?_) #[true, true, true, true, true, true, true, true, true, true, true, true, true, true, true, true, true, true, true, true, true, true, true, true, true, true, true, false, false, false, false, false, false, false, false, false, false, false, false] rfl rfl (any_of HT_.out (by kernel_rfl)) (fun _ _ _ h => h) (Or.inl ⟨by rfl, ?_⟩) ?_ ?_
                                rotate_left
                                · intro w'
                                  go_simp
                                  with_reducible rfl
                                rotate_left
                                · simp only [Act.put, List.setIfInBounds_toArray, List.set_cons_zero, List.set_cons_succ, i64_w, i32_w]
                                  rfl
                                refine pure_ (i := 28) (N := some 84) (v := ?_) (a' := ?_) #[true, true, true, true, true, true, true, true, true, true, true, true, true, true, true, true, true, true, true, true, true, true, true, true, true, true, true, false, true, false, false, false, false, false, false, false, false, false, false] rfl rfl (any_of HT_.out (by kernel_rfl)) (fun _ _ _ h => h) (Or.inl ⟨by rfl, ?_⟩) ?_ ?_
                                rotate_left
                                · intro w'
                                  go_simp
                                  with_reducible rfl
                                rotate_left
                                · simp only [Act.put, List.setIfInBounds_toArray, List.set_cons_zero, List.set_cons_succ, i64_w, i32_w]
                                  rfl
                                refine pure_ (i := 30) (N := some 86) (v := ?_) (a' := ?_) #[true, true, true, true, true, true, true, true, true, true, true, true, true, true, true, true, true, true, true, true, true, true, true, true, true, true, true, false, true, false, true, false, false, false, false, false, false, false, false] rfl rfl (any_of HT_.out (by kernel_rfl)) (fun _ _ _ h => h) (Or.inl ⟨by rfl, ?_⟩) ?_ ?_
                                rotate_left
                                · intro w'
                                  go_simp
                                  with_reducible rfl
                                rotate_left
                                · simp only [Act.put, List.setIfInBounds_toArray, List.set_cons_zero, List.set_cons_succ, i64_w, i32_w]
                                  rfl
                                refine pure_ (i := 31) (N := some 87) (v := ?_) (a' := ?_) #[true, true, true, true, true, true, true, true, true, true, true, true, true, true, true, true, true, true, true, true, true, true, true, true, true, true, true, false, true, false, true, true, false, false, false, false, false, false, false] rfl rfl (any_of HT_.out (by kernel_rfl)) (fun _ _ _ h => h) (Or.inl ⟨by rfl, ?_⟩) ?_ ?_
                                rotate_left
                                · intro w'
                                  go_simp
                                  with_reducible rfl
                                rotate_left
                                · simp only [Act.put, List.setIfInBounds_toArray, List.set_cons_zero, List.set_cons_succ, i64_w, i32_w]
                                  rfl
                                refine pure_ (i := 32) (N := some 88) (v := ?_) (a' := ?_) #[true, true, true, true, true, true, true, true, true, true, true, true, true, true, true, true, true, true, true, true, true, true, true, true, true, true, true, false, true, false, true, true, true, false, false, false, false, false, false] rfl rfl (any_of HT_.out (by kernel_rfl)) (fun _ _ _ h => h) (Or.inl ⟨by rfl, ?_⟩) ?_ ?_
                                rotate_left
                                · intro w'
                                  go_simp
                                  with_reducible rfl
                                rotate_left
                                · simp only [Act.put, List.setIfInBounds_toArray, List.set_cons_zero, List.set_cons_succ, i64_w, i32_w]
                                  rfl
                                refine pure_ (i := 34) (N := some 90) (v := ?_) (a' := ?_) #[true, true, true, true, true, true, true, true, true, true, true, true, true, true, true, true, true, true, true, true, true, true, true, true, true, true, true, false, true, false, true, true, true, false, true, false, false, false, false] rfl rfl (any_of HT_.out (by kernel_rfl)) (fun _ _ _ h => h) (Or.inl ⟨by rfl, ?_⟩) ?_ ?_
                                rotate_left
                                · intro w'
                                  go_simp
                                  with_reducible rfl
                                rotate_left
                                · simp only [Act.put, List.setIfInBounds_toArray, List.set_cons_zero, List.set_cons_succ, i64_w, i32_w]
                                  rfl
                                refine take_ (i := 27) (N := some 83) (v := ?_) (a' := ?_) #[true, true, true, true, true, true, true, true, true, true, true, true, true, true, true, true, true, true, true, true, true, true, true, true, true, true, true, true, true, false, true, true, true, false, true, false, false, false, false] rfl rfl (take_ofW HT_.out HW_.out (by kernel_rfl)) (fun _ _ _ h => h) (Or.inl ⟨by rfl, ?_⟩) hHeld ?_ ?_
                                rotate_left
                                · rintro w' ⟨s0, s1, s2, s3, s4, s5, s6, s7, s8, s9, s10, s11, s12, s13, s14, s15, s16, s17, s18⟩
                                  (refine exec_load_cells (ty := 43) (x := .tmp 82) (p := (ad329.add ((x53_2).toNat * 17))) (cs := [.int .i64 ((rd_T43 l0 x53_2).f0), .string ((rd_T43 l0 x53_2).f1.f0), .slice A329_2 ((rd_T43 l0 x53_2).f1.f1).length c329_2, .string ((rd_T43 l0 x53_2).f2), .string ((rd_T43 l0 x53_2).f3.f0), .int .i64 ((rd_T43 l0 x53_2).f3.f1.f0), .int .i64 ((rd_T43 l0 x53_2).f3.f1.f1), .string ((rd_T43 l0 x53_2).f3.f1.f2), .string ((rd_T43 l0 x53_2).f4.f0), .int .i64 ((rd_T43 l0 x53_2).f4.f1.f0), .int .i64 ((rd_T43 l0 x53_2).f4.f1.f1), .string ((rd_T43 l0 x53_2).f4.f1.f2), .string ((rd_T43 l0 x53_2).f5.f0), .int .i64 ((rd_T43 l0 x53_2).f5.f1.f0), .int .i64 ((rd_T43 l0 x53_2).f5.f1.f1), .string ((rd_T43 l0 x53_2).f5.f1.f2), .slice A329_16 ((rd_T43 l0 x53_2).f6).length c329_16]) ?_ ?_ ?_ hu43 ?_ ?_; exact rfl; (first | with_reducible rfl | rfl); exact ⟨s2, ⟨s3, ⟨s4, ⟨s5, ⟨s6, ⟨s7, ⟨s8, ⟨s9, ⟨s10, ⟨s11, ⟨s12, ⟨s13, ⟨s14, ⟨s15, ⟨s16, ⟨s17, ⟨s18, trivial⟩⟩⟩⟩⟩⟩⟩⟩⟩⟩⟩⟩⟩⟩⟩⟩⟩; exact rfl; (as_aux_lemma => kernel_rfl))
                                rotate_left
                                · simp only [Act.put, List.setIfInBounds_toArray, List.set_cons_zero, List.set_cons_succ, i64_w, i32_w]
                                  rfl
                                refine take_ (i := 33) (N := some 89) (v := ?_) (a' := ?_) #[true, true, true, true, true, true, true, true, true, true, true, true, true, true, true, true, true, true, true, true, true, true, true, true, true, true, true, true, true, false, true, true, true, true, true, false, false, false, false] rfl rfl (take_ofW HT_.out HW_.out (by kernel_rfl)) (fun _ _ _ h => h) (Or.inl ⟨by rfl, ?_⟩) hHeld ?_ ?_
                                rotate_left
                                · rintro w' ⟨s0, s1, s2, s3, s4, s5, s6, s7, s8, s9, s10, s11, s12, s13, s14, s15, s16, s17, s18⟩
                                  (refine exec_load_cells (ty := 43) (x := .tmp 88) (p := (ad329.add ((x53_2).toNat * 17))) (cs := [.int .i64 ((rd_T43 l0 x53_2).f0), .string ((rd_T43 l0 x53_2).f1.f0), .slice A329_2 ((rd_T43 l0 x53_2).f1.f1).length c329_2, .string ((rd_T43 l0 x53_2).f2), .string ((rd_T43 l0 x53_2).f3.f0), .int .i64 ((rd_T43 l0 x53_2).f3.f1.f0), .int .i64 ((rd_T43 l0 x53_2).f3.f1.f1), .string ((rd_T43 l0 x53_2).f3.f1.f2), .string ((rd_T43 l0 x53_2).f4.f0), .int .i64 ((rd_T43 l0 x53_2).f4.f1.f0), .int .i64 ((rd_T43 l0 x53_2).f4.f1.f1), .string ((rd_T43 l0 x53_2).f4.f1.f2), .string ((rd_T43 l0 x53_2).f5.f0), .int .i64 ((rd_T43 l0 x53_2).f5.f1.f0), .int .i64 ((rd_T43 l0 x53_2).f5.f1.f1), .string ((rd_T43 l0 x53_2).f5.f1.f2), .slice A329_16 ((rd_T43 l0 x53_2).f6).length c329_16]) ?_ ?_ ?_ hu43 ?_ ?_; exact rfl; (first | with_reducible rfl | rfl); exact ⟨s2, ⟨s3, ⟨s4, ⟨s5, ⟨s6, ⟨s7, ⟨s8, ⟨s9, ⟨s10, ⟨s11, ⟨s12, ⟨s13, ⟨s14, ⟨s15, ⟨s16, ⟨s17, ⟨s18, trivial⟩⟩⟩⟩⟩⟩⟩⟩⟩⟩⟩⟩⟩⟩⟩⟩⟩; exact rfl; (as_aux_lemma => kernel_rfl))
                                rotate_left
                                · simp only [Act.put, List.setIfInBounds_toArray, List.set_cons_zero, List.set_cons_succ, i64_w, i32_w]
                                  rfl
                                refine one_ (i := 29) (N := some 85) #[true, true, true, true, true, true, true, true, true, true, true, true, true, true, true, true, true, true, true, true, true, true, true, true, true, true, true, true, true, true, true, true, true, true, true, false, false, false, false] rfl rfl (one_of HT_.out (by kernel_rfl)) (by decide) (fun K hK => ?_)
                                refine goes_ Try.func16 (by kernel_rfl) rfl #[.agg #[.int .i64 ((rd_T43 l0 x53_2).f0), .string ((rd_T43 l0 x53_2).f1.f0), .slice A329_2 ((rd_T43 l0 x53_2).f1.f1).length c329_2, .string ((rd_T43 l0 x53_2).f2), .string ((rd_T43 l0 x53_2).f3.f0), .int .i64 ((rd_T43 l0 x53_2).f3.f1.f0), .int .i64 ((rd_T43 l0 x53_2).f3.f1.f1), .string ((rd_T43 l0 x53_2).f3.f1.f2), .string ((rd_T43 l0 x53_2).f4.f0), .int .i64 ((rd_T43 l0 x53_2).f4.f1.f0), .int .i64 ((rd_T43 l0 x53_2).f4.f1.f1), .string ((rd_T43 l0 x53_2).f4.f1.f2), .string ((rd_T43 l0 x53_2).f5.f0), .int .i64 ((rd_T43 l0 x53_2).f5.f1.f0), .int .i64 ((rd_T43 l0 x53_2).f5.f1.f1), .string ((rd_T43 l0 x53_2).f5.f1.f2), .slice A329_16 ((rd_T43 l0 x53_2).f6).length c329_16], .slice A1 l1.length c1] (by rfl) rfl rfl (by (try simp only [List.map_toArray, List.map_cons, List.map_nil]); first | done | rfl | (simp only [List.length_drop, List.length_take]; rfl)) ?_
                                with_reducible refine (safe_Binds.calls k2 ((rd_T43 l0 x53_2).f0) ((rd_T43 l0 x53_2).f1.f0) _ _ ((rd_T43 l0 x53_2).f1.f1) ((rd_T43 l0 x53_2).f2) ((rd_T43 l0 x53_2).f3.f0) ((rd_T43 l0 x53_2).f3.f1.f0) ((rd_T43 l0 x53_2).f3.f1.f1) ((rd_T43 l0 x53_2).f3.f1.f2) ((rd_T43 l0 x53_2).f4.f0) ((rd_T43 l0 x53_2).f4.f1.f0) ((rd_T43 l0 x53_2).f4.f1.f1) ((rd_T43 l0 x53_2).f4.f1.f2) ((rd_T43 l0 x53_2).f5.f0) ((rd_T43 l0 x53_2).f5.f1.f0) ((rd_T43 l0 x53_2).f5.f1.f1) ((rd_T43 l0 x53_2).f5.f1.f2) _ _ ((rd_T43 l0 x53_2).f6) _ _ l1 t339 _ ?side1 ?side2 ?side3 ?side4 ?side5 ?side6 A37.out).mono ?_
                                (case side1 => repeat (first | exact (Kd.C_below HR329_2.out (by repeat (first | (with_reducible first | exact HB.out | apply below_alloc | apply pw_below_drewN | apply below_drew1) | exact HB.out))) | (with_reducible refine Kd.C_alloc ?_ _) | (with_reducible refine Kd.C_drewN ?_ _) | (with_reducible refine Kd.C_drew ?_)))
                                (case side2 => exact HC329_2.out)
                                (case side3 => repeat (first | exact (Kd.C_below HR329_16.out (by repeat (first | (with_reducible first | exact HB.out | apply below_alloc | apply pw_below_drewN | apply below_drew1) | exact HB.out))) | (with_reducible refine Kd.C_alloc ?_ _) | (with_reducible refine Kd.C_drewN ?_ _) | (with_reducible refine Kd.C_drew ?_)))
                                (case side4 => exact HC329_16.out)
                                (case side5 => repeat (first | exact (Kd.C_below HR1.out (by repeat (first | (with_reducible first | exact HB.out | apply below_alloc | apply pw_below_drewN | apply below_drew1) | exact HB.out))) | (with_reducible refine Kd.C_alloc ?_ _) | (with_reducible refine Kd.C_drewN ?_ _) | (with_reducible refine Kd.C_drew ?_)))
                                (case side6 => exact HC1.out)
                                rintro e w47 ⟨v340, rfl, ho0, hb⟩
                                have HS0_ := (hb.cell (World.block_lt_of_cell? _ _ (hHeld.1))).trans (hHeld.1)
                                have HS1_ := (hb.cell (World.block_lt_of_cell? _ _ (hHeld.2.1))).trans (hHeld.2.1)
                                refine ⟨_, rfl, ?_⟩
                                have n0_ := Aside0.mk (Kd.R_below (by (with_reducible repeat (first | apply Kd.R_alloc | apply Kd.R_drewN | apply Kd.R_drew)); exact HO_5.out) hb)
                                have n1_ := Aside0.mk (Kd.R_below (by (with_reducible repeat (first | apply Kd.R_alloc | apply Kd.R_drewN | apply Kd.R_drew)); exact HO_8.out) hb)
                                have n2_ := Aside0.mk (Kd.R_elder' (by (with_reducible repeat (first | apply Kd.R_alloc | apply Kd.R_drewN | apply Kd.R_drew)); exact HO332.out) (Kd.R_base ho0) hb)
                                have n3_ := Aside0.mk (Kd.R_elder' (by (with_reducible repeat (first | apply Kd.R_alloc | apply Kd.R_drewN | apply Kd.R_drew)); exact HO336.out) (Kd.R_base ho0) hb)
                                have n4_ := Aside0.mk (Kd.R_lower (Kd.R_new' (Kd.R_new' ho0 (Kd.R_lt (by (with_reducible repeat (first | apply Kd.R_alloc | apply Kd.R_drewN | apply Kd.R_drew)); exact HO332.out))) (Kd.R_lt (by (with_reducible repeat (first | apply Kd.R_alloc | apply Kd.R_drewN | apply Kd.R_drew)); exact HO336.out))) (below_size (by repeat (first | (with_reducible first | exact HB.out | apply below_alloc | apply pw_below_drewN | apply below_drew1) | exact HB.out))))
                                have n5_ := Aside0.mk (below_step (by repeat (first | (with_reducible first | exact HB.out | apply below_alloc | apply pw_below_drewN | apply below_drew1) | exact HB.out)) hb)
                                clear HO_5
                                clear HO_8
                                clear HO332
                                clear HO336
                                clear HB
                                have HO_5 := n0_
                                have HO_8 := n1_
                                have HO332 := n2_
                                have HO336 := n3_
                                have HO341 := n4_
                                have HB := n5_
                                clear n0_ n1_ n2_ n3_ n4_ n5_
                                (try clear hb)
                                (try clear hb2)
                                (try clear hk)
                                (try clear hi)
                                (try clear ho0)
                                refine hK.out _ _ ⟨HS0_, HS1_, ((HB.out.cell (World.block_lt_of_cell? w _ HW329.out.1)).trans HW329.out.1), ((HB.out.cell (World.block_lt_of_cell? w _ HW329.out.2.1)).trans HW329.out.2.1), ((HB.out.cell (World.block_lt_of_cell? w _ HW329.out.2.2.1)).trans HW329.out.2.2.1), ((HB.out.cell (World.block_lt_of_cell? w _ HW329.out.2.2.2.1)).trans HW329.out.2.2.2.1), ((HB.out.cell (World.block_lt_of_cell? w _ HW329.out.2.2.2.2.1)).trans HW329.out.2.2.2.2.1), ((HB.out.cell (World.block_lt_of_cell? w _ HW329.out.2.2.2.2.2.1)).trans HW329.out.2.2.2.2.2.1), ((HB.out.cell (World.block_lt_of_cell? w _ HW329.out.2.2.2.2.2.2.1)).trans HW329.out.2.2.2.2.2.2.1), ((HB.out.cell (World.block_lt_of_cell? w _ HW329.out.2.2.2.2.2.2.2.1)).trans HW329.out.2.2.2.2.2.2.2.1), ((HB.out.cell (World.block_lt_of_cell? w _ HW329.out.2.2.2.2.2.2.2.2.1)).trans HW329.out.2.2.2.2.2.2.2.2.1), ((HB.out.cell (World.block_lt_of_cell? w _ HW329.out.2.2.2.2.2.2.2.2.2.1)).trans HW329.out.2.2.2.2.2.2.2.2.2.1), ((HB.out.cell (World.block_lt_of_cell? w _ HW329.out.2.2.2.2.2.2.2.2.2.2.1)).trans HW329.out.2.2.2.2.2.2.2.2.2.2.1), ((HB.out.cell (World.block_lt_of_cell? w _ HW329.out.2.2.2.2.2.2.2.2.2.2.2.1)).trans HW329.out.2.2.2.2.2.2.2.2.2.2.2.1), ((HB.out.cell (World.block_lt_of_cell? w _ HW329.out.2.2.2.2.2.2.2.2.2.2.2.2.1)).trans HW329.out.2.2.2.2.2.2.2.2.2.2.2.2.1), ((HB.out.cell (World.block_lt_of_cell? w _ HW329.out.2.2.2.2.2.2.2.2.2.2.2.2.2.1)).trans HW329.out.2.2.2.2.2.2.2.2.2.2.2.2.2.1), ((HB.out.cell (World.block_lt_of_cell? w _ HW329.out.2.2.2.2.2.2.2.2.2.2.2.2.2.2.1)).trans HW329.out.2.2.2.2.2.2.2.2.2.2.2.2.2.2.1), ((HB.out.cell (World.block_lt_of_cell? w _ HW329.out.2.2.2.2.2.2.2.2.2.2.2.2.2.2.2.1)).trans HW329.out.2.2.2.2.2.2.2.2.2.2.2.2.2.2.2.1), ((HB.out.cell (World.block_lt_of_cell? w _ HW329.out.2.2.2.2.2.2.2.2.2.2.2.2.2.2.2.2.1)).trans HW329.out.2.2.2.2.2.2.2.2.2.2.2.2.2.2.2.2.1)⟩ (fun hHeld => ?_)
                                clear hK K
                                refine norm_ (a' := ?_) ?_ ?_
                                rotate_left
                                · show Act.put _ (some 85) _ = _
                                  simp only [Act.put, List.setIfInBounds_toArray, List.set_cons_zero, List.set_cons_succ, i64_w, i32_w]
                                  rfl
                                refine one_ (i := 35) (N := some 91) #[true, true, true, true, true, true, true, true, true, true, true, true, true, true, true, true, true, true, true, true, true, true, true, true, true, true, true, true, true, true, true, true, true, true, true, true, false, false, false] rfl rfl (one_of HT_.out (by kernel_rfl)) (by decide) (fun K hK => ?_)
                                refine goes_ Try.func17 (by kernel_rfl) rfl #[.agg #[.int .i64 ((rd_T43 l0 x53_2).f0), .string ((rd_T43 l0 x53_2).f1.f0), .slice A329_2 ((rd_T43 l0 x53_2).f1.f1).length c329_2, .string ((rd_T43 l0 x53_2).f2), .string ((rd_T43 l0 x53_2).f3.f0), .int .i64 ((rd_T43 l0 x53_2).f3.f1.f0), .int .i64 ((rd_T43 l0 x53_2).f3.f1.f1), .string ((rd_T43 l0 x53_2).f3.f1.f2), .string ((rd_T43 l0 x53_2).f4.f0), .int .i64 ((rd_T43 l0 x53_2).f4.f1.f0), .int .i64 ((rd_T43 l0 x53_2).f4.f1.f1), .string ((rd_T43 l0 x53_2).f4.f1.f2), .string ((rd_T43 l0 x53_2).f5.f0), .int .i64 ((rd_T43 l0 x53_2).f5.f1.f0), .int .i64 ((rd_T43 l0 x53_2).f5.f1.f1), .string ((rd_T43 l0 x53_2).f5.f1.f2), .slice A329_16 ((rd_T43 l0 x53_2).f6).length c329_16], .slice A1 l1.length c1] (by rfl) rfl rfl (by (try simp only [List.map_toArray, List.map_cons, List.map_nil]); first | done | rfl | (simp only [List.length_drop, List.length_take]; rfl)) ?_
                                with_reducible refine (antecedentref11_Binds.calls k2 ((rd_T43 l0 x53_2).f0) ((rd_T43 l0 x53_2).f1.f0) _ _ ((rd_T43 l0 x53_2).f1.f1) ((rd_T43 l0 x53_2).f2) ((rd_T43 l0 x53_2).f3.f0) ((rd_T43 l0 x53_2).f3.f1.f0) ((rd_T43 l0 x53_2).f3.f1.f1) ((rd_T43 l0 x53_2).f3.f1.f2) ((rd_T43 l0 x53_2).f4.f0) ((rd_T43 l0 x53_2).f4.f1.f0) ((rd_T43 l0 x53_2).f4.f1.f1) ((rd_T43 l0 x53_2).f4.f1.f2) ((rd_T43 l0 x53_2).f5.f0) ((rd_T43 l0 x53_2).f5.f1.f0) ((rd_T43 l0 x53_2).f5.f1.f1) ((rd_T43 l0 x53_2).f5.f1.f2) _ _ ((rd_T43 l0 x53_2).f6) _ _ l1 t343 _ ?side1 ?side2 ?side3 ?side4 ?side5 ?side6 A38.out).mono ?_
                                (case side1 => repeat (first | exact (Kd.C_below HR329_2.out HB.out) | (with_reducible refine Kd.C_alloc ?_ _) | (with_reducible refine Kd.C_drewN ?_ _) | (with_reducible refine Kd.C_drew ?_)))
                                (case side2 => exact HC329_2.out)
                                (case side3 => repeat (first | exact (Kd.C_below HR329_16.out HB.out) | (with_reducible refine Kd.C_alloc ?_ _) | (with_reducible refine Kd.C_drewN ?_ _) | (with_reducible refine Kd.C_drew ?_)))
                                (case side4 => exact HC329_16.out)
                                (case side5 => repeat (first | exact (Kd.C_below HR1.out HB.out) | (with_reducible refine Kd.C_alloc ?_ _) | (with_reducible refine Kd.C_drewN ?_ _) | (with_reducible refine Kd.C_drew ?_)))
                                (case side6 => exact HC1.out)
                                rintro e w48 ⟨v344, rfl, ho0, hb⟩
                                have HS0_ := (hb.cell (World.block_lt_of_cell? _ _ (hHeld.1))).trans (hHeld.1)
                                have HS1_ := (hb.cell (World.block_lt_of_cell? _ _ (hHeld.2.1))).trans (hHeld.2.1)
                                refine ⟨_, rfl, ?_⟩
                                have n0_ := Aside0.mk (Kd.R_below (by (with_reducible repeat (first | apply Kd.R_alloc | apply Kd.R_drewN | apply Kd.R_drew)); exact HO_5.out) hb)
                                have n1_ := Aside0.mk (Kd.R_below (by (with_reducible repeat (first | apply Kd.R_alloc | apply Kd.R_drewN | apply Kd.R_drew)); exact HO_8.out) hb)
                                have n2_ := Aside0.mk (Kd.R_elder' (by (with_reducible repeat (first | apply Kd.R_alloc | apply Kd.R_drewN | apply Kd.R_drew)); exact HO332.out) (Kd.R_base ho0) hb)
                                have n3_ := Aside0.mk (Kd.R_elder' (by (with_reducible repeat (first | apply Kd.R_alloc | apply Kd.R_drewN | apply Kd.R_drew)); exact HO336.out) (Kd.R_base ho0) hb)
                                have n4_ := Aside0.mk (Kd.R_elder' (by (with_reducible repeat (first | apply Kd.R_alloc | apply Kd.R_drewN | apply Kd.R_drew)); exact HO341.out) (Kd.R_base ho0) hb)
                                have n5_ := Aside0.mk (Kd.R_lower (Kd.R_new' (Kd.R_new' (Kd.R_new' ho0 (Kd.R_lt (by (with_reducible repeat (first | apply Kd.R_alloc | apply Kd.R_drewN | apply Kd.R_drew)); exact HO332.out))) (Kd.R_lt (by (with_reducible repeat (first | apply Kd.R_alloc | apply Kd.R_drewN | apply Kd.R_drew)); exact HO336.out))) (Kd.R_lt (by (with_reducible repeat (first | apply Kd.R_alloc | apply Kd.R_drewN | apply Kd.R_drew)); exact HO341.out))) (below_size (by repeat (first | (with_reducible first | exact HB.out | apply below_alloc | apply pw_below_drewN | apply below_drew1) | exact HB.out))))
                                have n6_ := Aside0.mk (below_step (by repeat (first | (with_reducible first | exact HB.out | apply below_alloc | apply pw_below_drewN | apply below_drew1) | exact HB.out)) hb)
                                clear HO_5
                                clear HO_8
                                clear HO332
                                clear HO336
                                clear HO341
                                clear HB
                                have HO_5 := n0_
                                have HO_8 := n1_
                                have HO332 := n2_
                                have HO336 := n3_
                                have HO341 := n4_
                                have HO345 := n5_
                                have HB := n6_
                                clear n0_ n1_ n2_ n3_ n4_ n5_ n6_
                                (try clear hb)
                                (try clear hb2)
                                (try clear hk)
                                (try clear hi)
                                (try clear ho0)
                                obtain ⟨Ao49, co49, eo49⟩ := Kd.R_slice HO341.out
                                (first | subst eo49 | (injection eo49 with f1_ f2_ f3_; have f4_ := f1_.symm; have f5_ := f3_.symm; clear f1_ f2_ f3_; subst f4_; subst f5_))
                                obtain ⟨Ao50, co50, eo50⟩ := Kd.R_slice HO345.out
                                (first | subst eo50 | (injection eo50 with f1_ f2_ f3_; have f4_ := f1_.symm; have f5_ := f3_.symm; clear f1_ f2_ f3_; subst f4_; subst f5_))
                                refine hK.out _ _ ⟨HS0_, HS1_, ((HB.out.cell (World.block_lt_of_cell? w _ HW329.out.1)).trans HW329.out.1), ((HB.out.cell (World.block_lt_of_cell? w _ HW329.out.2.1)).trans HW329.out.2.1), ((HB.out.cell (World.block_lt_of_cell? w _ HW329.out.2.2.1)).trans HW329.out.2.2.1), ((HB.out.cell (World.block_lt_of_cell? w _ HW329.out.2.2.2.1)).trans HW329.out.2.2.2.1), ((HB.out.cell (World.block_lt_of_cell? w _ HW329.out.2.2.2.2.1)).trans HW329.out.2.2.2.2.1), ((HB.out.cell (World.block_lt_of_cell? w _ HW329.out.2.2.2.2.2.1)).trans HW329.out.2.2.2.2.2.1), ((HB.out.cell (World.block_lt_of_cell? w _ HW329.out.2.2.2.2.2.2.1)).trans HW329.out.2.2.2.2.2.2.1), ((HB.out.cell (World.block_lt_of_cell? w _ HW329.out.2.2.2.2.2.2.2.1)).trans HW329.out.2.2.2.2.2.2.2.1), ((HB.out.cell (World.block_lt_of_cell? w _ HW329.out.2.2.2.2.2.2.2.2.1)).trans HW329.out.2.2.2.2.2.2.2.2.1), ((HB.out.cell (World.block_lt_of_cell? w _ HW329.out.2.2.2.2.2.2.2.2.2.1)).trans HW329.out.2.2.2.2.2.2.2.2.2.1), ((HB.out.cell (World.block_lt_of_cell? w _ HW329.out.2.2.2.2.2.2.2.2.2.2.1)).trans HW329.out.2.2.2.2.2.2.2.2.2.2.1), ((HB.out.cell (World.block_lt_of_cell? w _ HW329.out.2.2.2.2.2.2.2.2.2.2.2.1)).trans HW329.out.2.2.2.2.2.2.2.2.2.2.2.1), ((HB.out.cell (World.block_lt_of_cell? w _ HW329.out.2.2.2.2.2.2.2.2.2.2.2.2.1)).trans HW329.out.2.2.2.2.2.2.2.2.2.2.2.2.1), ((HB.out.cell (World.block_lt_of_cell? w _ HW329.out.2.2.2.2.2.2.2.2.2.2.2.2.2.1)).trans HW329.out.2.2.2.2.2.2.2.2.2.2.2.2.2.1), ((HB.out.cell (World.block_lt_of_cell? w _ HW329.out.2.2.2.2.2.2.2.2.2.2.2.2.2.2.1)).trans HW329.out.2.2.2.2.2.2.2.2.2.2.2.2.2.2.1), ((HB.out.cell (World.block_lt_of_cell? w _ HW329.out.2.2.2.2.2.2.2.2.2.2.2.2.2.2.2.1)).trans HW329.out.2.2.2.2.2.2.2.2.2.2.2.2.2.2.2.1), ((HB.out.cell (World.block_lt_of_cell? w _ HW329.out.2.2.2.2.2.2.2.2.2.2.2.2.2.2.2.2.1)).trans HW329.out.2.2.2.2.2.2.2.2.2.2.2.2.2.2.2.2.1)⟩ (fun hHeld => ?_)
                                clear hK K
                                refine norm_ (a' := ?_) ?_ ?_
                                rotate_left
                                · show Act.put _ (some 91) _ = _
                                  simp only [Act.put, List.setIfInBounds_toArray, List.set_cons_zero, List.set_cons_succ, i64_w, i32_w]
                                  rfl
                                refine one_ (i := 36) (N := some 92) #[true, true, true, true, true, true, true, true, true, true, true, true, true, true, true, true, true, true, true, true, true, true, true, true, true, true, true, true, true, true, true, true, true, true, true, true, true, false, false] rfl rfl (one_of HT_.out (by kernel_rfl)) (by decide) (fun K hK => ?_)
                                refine goes_ Try.func13 (by kernel_rfl) rfl #[.slice Ao49 t339.length co49, .slice Ao50 t343.length co50] (by rfl) rfl rfl (by (try simp only [List.map_toArray, List.map_cons, List.map_nil]); first | done | rfl | (simp only [List.length_drop, List.length_take]; rfl)) ?_
                                with_reducible refine (antecedentref11_Same.calls k2 _ _ t339 _ _ t343 true _ ?side1 ?side2 ?side3 ?side4 A39.out).mono ?_
                                (case side1 => repeat (first | exact (Kd.R_reads' HO341.out).2.2 | (with_reducible refine Kd.C_alloc ?_ _) | (with_reducible refine Kd.C_drewN ?_ _) | (with_reducible refine Kd.C_drew ?_)))
                                (case side2 => exact (Kd.R_reads' HO341.out).2.1)
                                (case side3 => repeat (first | exact (Kd.R_reads' HO345.out).2.2 | (with_reducible refine Kd.C_alloc ?_ _) | (with_reducible refine Kd.C_drewN ?_ _) | (with_reducible refine Kd.C_drew ?_)))
                                (case side4 => exact (Kd.R_reads' HO345.out).2.1)
                                rintro e w' ⟨rfl, ⟨nd, rfl⟩⟩
                                refine ⟨_, rfl, ?_⟩
                                refine hK.out _ _ ⟨hHeld.1, hHeld.2.1, ((HB.out.cell (World.block_lt_of_cell? w _ HW329.out.1)).trans HW329.out.1), ((HB.out.cell (World.block_lt_of_cell? w _ HW329.out.2.1)).trans HW329.out.2.1), ((HB.out.cell (World.block_lt_of_cell? w _ HW329.out.2.2.1)).trans HW329.out.2.2.1), ((HB.out.cell (World.block_lt_of_cell? w _ HW329.out.2.2.2.1)).trans HW329.out.2.2.2.1), ((HB.out.cell (World.block_lt_of_cell? w _ HW329.out.2.2.2.2.1)).trans HW329.out.2.2.2.2.1), ((HB.out.cell (World.block_lt_of_cell? w _ HW329.out.2.2.2.2.2.1)).trans HW329.out.2.2.2.2.2.1), ((HB.out.cell (World.block_lt_of_cell? w _ HW329.out.2.2.2.2.2.2.1)).trans HW329.out.2.2.2.2.2.2.1), ((HB.out.cell (World.block_lt_of_cell? w _ HW329.out.2.2.2.2.2.2.2.1)).trans HW329.out.2.2.2.2.2.2.2.1), ((HB.out.cell (World.block_lt_of_cell? w _ HW329.out.2.2.2.2.2.2.2.2.1)).trans HW329.out.2.2.2.2.2.2.2.2.1), ((HB.out.cell (World.block_lt_of_cell? w _ HW329.out.2.2.2.2.2.2.2.2.2.1)).trans HW329.out.2.2.2.2.2.2.2.2.2.1), ((HB.out.cell (World.block_lt_of_cell? w _ HW329.out.2.2.2.2.2.2.2.2.2.2.1)).trans HW329.out.2.2.2.2.2.2.2.2.2.2.1), ((HB.out.cell (World.block_lt_of_cell? w _ HW329.out.2.2.2.2.2.2.2.2.2.2.2.1)).trans HW329.out.2.2.2.2.2.2.2.2.2.2.2.1), ((HB.out.cell (World.block_lt_of_cell? w _ HW329.out.2.2.2.2.2.2.2.2.2.2.2.2.1)).trans HW329.out.2.2.2.2.2.2.2.2.2.2.2.2.1), ((HB.out.cell (World.block_lt_of_cell? w _ HW329.out.2.2.2.2.2.2.2.2.2.2.2.2.2.1)).trans HW329.out.2.2.2.2.2.2.2.2.2.2.2.2.2.1), ((HB.out.cell (World.block_lt_of_cell? w _ HW329.out.2.2.2.2.2.2.2.2.2.2.2.2.2.2.1)).trans HW329.out.2.2.2.2.2.2.2.2.2.2.2.2.2.2.1), ((HB.out.cell (World.block_lt_of_cell? w _ HW329.out.2.2.2.2.2.2.2.2.2.2.2.2.2.2.2.1)).trans HW329.out.2.2.2.2.2.2.2.2.2.2.2.2.2.2.2.1), ((HB.out.cell (World.block_lt_of_cell? w _ HW329.out.2.2.2.2.2.2.2.2.2.2.2.2.2.2.2.2.1)).trans HW329.out.2.2.2.2.2.2.2.2.2.2.2.2.2.2.2.2.1)⟩ (fun hHeld => ?_)
                                clear hK K
                                refine norm_ (a' := ?_) ?_ ?_
                                rotate_left
                                · show Act.put _ (some 92) _ = _
                                  simp only [Act.put, List.setIfInBounds_toArray, List.set_cons_zero, List.set_cons_succ, i64_w, i32_w]
                                  rfl
                                refine pure_ (i := 37) (N := some 93) (v := ?_) (a' := ?_) #[true, true, true, true, true, true, true, true, true, true, true, true, true, true, true, true, true, true, true, true, true, true, true, true, true, true, true, true, true, true, true, true, true, true, true, true, true, true, false] rfl rfl (any_of HT_.out (by kernel_rfl)) (fun _ _ _ h => h) (Or.inl ⟨by rfl, ?_⟩) ?_ ?_
                                rotate_left
                                · intro w'
                                  go_simp
                                  with_reducible rfl
                                rotate_left
                                · simp only [Act.put, List.setIfInBounds_toArray, List.set_cons_zero, List.set_cons_succ, i64_w, i32_w]
                                  rfl
                                refine pure_ (i := 38) (N := some 94) (v := ?_) (a' := ?_) #[true, true, true, true, true, true, true, true, true, true, true, true, true, true, true, true, true, true, true, true, true, true, true, true, true, true, true, true, true, true, true, true, true, true, true, true, true, true, true] rfl rfl (any_of HT_.out (by kernel_rfl)) (fun _ _ _ h => h) (Or.inl ⟨by rfl, ?_⟩) ?_ ?_
                                rotate_left
                                · intro w'
                                  go_simp
                                  with_reducible rfl
                                rotate_left
                                · simp only [Act.put, List.setIfInBounds_toArray, List.set_cons_zero, List.set_cons_succ, i64_w, i32_w]
                                  rfl
                                refine done_ (done_of HT_.out (by kernel_rfl)) ?_
                                try go_wp2
                                go_roundg k2
                                case measure => have := HJ8.out; have := HK2.out; omega
                                case rel => exact ⟨(wrap64 (x53_2 + 1)), (by first | rfl | (simp; done) | (simp [*]; done)), H', ⟨by have := HJ8.out; have := HK2.out; omega⟩, ⟨by (with_reducible repeat (first | apply Kd.R_alloc | apply Kd.R_drewN | apply Kd.R_drew)); exact HO_5.out⟩, ⟨by (with_reducible repeat (first | apply Kd.R_alloc | apply Kd.R_drewN | apply Kd.R_drew)); exact HO_8.out⟩, ⟨by repeat (first | (with_reducible first | exact HB.out | apply below_alloc | apply pw_below_drewN | apply below_drew1) | exact HB.out)⟩⟩
                              · replace c40 := Bool.eq_false_iff.mpr c40
                                subst c40
                                have H1 : (none) = some r := by rw [if_neg (show ¬ (false = true) by decide)] at H; exact H
                                clear H
                                have H := H1
                                clear H1
                                exact absurd H (by simp)
                            · replace c36 := Bool.eq_false_iff.mpr c36
                              subst c36
                              have H1 : (none) = some r := by rw [if_neg (show ¬ (false = true) by decide)] at H; exact H
                              clear H
                              have H := H1
                              clear H1
                              exact absurd H (by simp)
                          · rw [if_neg c32] at H
                            exact absurd H (by simp)
                        · rw [if_neg c31] at H
                          have c31b0 : ((rd t312 x53_2) == (rd t319 x53_2)) = false := beq_eq_false_iff_ne.mpr c31
                          have c31b1 : ((rd t312 x53_2) != (rd t319 x53_2)) = true := bne_iff_ne.mpr c31
                          exact absurd H (by simp)
                      · rw [if_neg c30] at H
                        exact absurd H (by simp)
                    · rw [if_neg c29] at H
                      exact absurd H (by simp)
                  · rw [if_neg c28] at H
                    exact absurd H (by simp)
                · rw [if_neg c27] at H
                  have c27b0 : decide (x53_2 < (t312.length : Int)) = false := decide_eq_false c27
                  clear c27
                  obtain rfl := Option.some.inj H
                  go_wp2
                  go_ret
                  exact ⟨by first | rfl | (simp [errW_none, errW_some] <;> rfl) | (simp [*, errW_none, errW_some] <;> rfl), by repeat (first | (with_reducible first | exact HB.out | apply below_alloc | apply pw_below_drewN | apply below_drew1) | exact HB.out)⟩
    · replace c6 := Bool.eq_false_iff.mpr c6
      subst c6
      have H1 : ((antecedentlaw11_awake.f k).bind fun t311 => (if t311 = true then (some t311) else (none))) = some r := by rw [if_neg (show ¬ (false = true) by decide)] at H; exact H
      clear H
      have H := H1
      clear H1
      replace H := Option.bind_eq_some_iff.mp H
      obtain ⟨t311, A510, H⟩ := H
      replace H : (if t311 = true then (some t311) else (none)) = some r := H
      have A51 := Aside0.mk A510
      clear A510
      by_cases c52 : t311 = true
      · subst c52
        have H1 : (some true) = some r := by rw [if_pos rfl] at H; exact H
        clear H
        have H := H1
        clear H1
        obtain rfl := Option.some.inj H
        go_enter Try.func3, Try.ntmps3
        go_wp2_with (first | ((with_reducible refine gate_callee (f := 9) rfl ?_); refine goesL_ (some 12) rfl rfl Try.func9 (by kernel_rfl) rfl #[] rfl (by (try simp only [List.map_toArray, List.map_cons, List.map_nil]); first | done | rfl | (simp only [List.length_drop, List.length_take]; rfl)) ?_; (with_reducible refine (antecedentlaw11_awake.calls k  true _ A3.out).mono ?_); rintro e w53 ⟨rfl, hb⟩; refine ⟨_, rfl, ?_⟩; have n0_ := Aside0.mk (below_step (by repeat (first | (with_reducible first | exact HB.out | apply below_alloc | apply pw_below_drewN | apply below_drew1) | exact HB.out)) hb); clear HB; have HB := n0_; clear n0_; (try clear hb); (try clear hb2); (try clear hk); (try clear hi)) | (go_at_call 10; (with_reducible refine (antecedentlaw11_few.calls k (fun k_ => k_ < w.heap.size) _ _ l0 _ _ l1 false _ ?side1 ?side2 ?side3 A5.out).mono ?_); (case side1 => exact Kd.V_mk HC0.out (Kd.F_below (Kd.C_F k43_heap HR0.out) (by repeat (first | (with_reducible first | exact HB.out | apply below_alloc | apply pw_below_drewN | apply below_drew1) | exact HB.out)))); (case side2 => repeat (first | exact (Kd.C_below HR1.out HB.out) | (with_reducible refine Kd.C_alloc ?_ _) | (with_reducible refine Kd.C_drewN ?_ _) | (with_reducible refine Kd.C_drew ?_))); (case side3 => exact HC1.out); rintro e w54 ⟨rfl, hb⟩; have n0_ := Aside0.mk (below_step (by repeat (first | (with_reducible first | exact HB.out | apply below_alloc | apply pw_below_drewN | apply below_drew1) | exact HB.out)) hb); clear HB; have HB := n0_; clear n0_; (try clear hb); (try clear hb2); (try clear hk); (try clear hi)) | ((with_reducible refine gate_callee (f := 9) rfl ?_); refine goesL_ (some 20) rfl rfl Try.func9 (by kernel_rfl) rfl #[] rfl (by (try simp only [List.map_toArray, List.map_cons, List.map_nil]); first | done | rfl | (simp only [List.length_drop, List.length_take]; rfl)) ?_; (with_reducible refine (antecedentlaw11_awake.calls k  true _ A51.out).mono ?_); rintro e w55 ⟨rfl, hb⟩; refine ⟨_, rfl, ?_⟩; have n0_ := Aside0.mk (below_step (by repeat (first | (with_reducible first | exact HB.out | apply below_alloc | apply pw_below_drewN | apply below_drew1) | exact HB.out)) hb); clear HB; have HB := n0_; clear n0_; (try clear hb); (try clear hb2); (try clear hk); (try clear hi)))
        go_ret
        exact ⟨by first | rfl | (simp [errW_none, errW_some] <;> rfl) | (simp [*, errW_none, errW_some] <;> rfl), by repeat (first | (with_reducible first | exact HB.out | apply below_alloc | apply pw_below_drewN | apply below_drew1) | exact HB.out)⟩
      · replace c52 := Bool.eq_false_iff.mpr c52
        subst c52
        have H1 : (none) = some r := by rw [if_neg (show ¬ (false = true) by decide)] at H; exact H
        clear H
        have H := H1
        clear H1
        exact absurd H (by simp)
  · replace c4 := Bool.eq_false_iff.mpr c4
    subst c4
    have H1 : (none) = some r := by rw [if_neg (show ¬ (false = true) by decide)] at H; exact H
    clear H
    have H := H1
    clear H1
    exact absurd H (by simp)

end Go.Proofs.Ytmgbfgloegcloaa.Ps
