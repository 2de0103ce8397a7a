import Derived.Test.YtmgbfgloegcloaaZip
import Derived.Test.YtmgbfgloegcloaaPsD
import Derived.Test.YtmgbfgloegcloaaPs17
import Derived.Test.YtmgbfgloegcloaaPs19
namespace Go.Proofs.Ytmgbfgloegcloaa.Ps
open Go.RowKit Go.Proofs.YtmgbfgloegcloaaW.PrintWords Go.Proofs.YtmgbfgloegcloaaW.PrintLast Go.Proofs.YtmgbfgloegcloaaW.PrintMore
attribute [local go_sem] yD yB yR yQ ym yl yC yA
set_option linter.unusedVariables false
set_option linter.unusedSimpArgs false
def zu.T11 : Bool × List (List Nat × List Nat) := (true, [([], []), ([0], [0]), ([], []), ([1, 2], [1, 2]), ([], []), ([4], [4]), ([], []), ([5, 6, 3], [5, 6]), ([3, 7, 0, 1, 2, 3], [3]), ([7, 8, 0, 1, 2, 3, 4, 5, 6, 7, 8], [7])])
def zu.B11 : List Nat := [0, 1, 0, 7, 0, 16, 0, 127, 255, 511]
theorem zu.tab11 : rtab .any (opsOf Try.f29 11) = zu.T11 := by kernel_rfl
theorem zu.bits11 : waitsOk zu.T11.2 zu.B11 = true := by kernel_rfl
set_option maxHeartbeats 8000000 in
set_option maxRecDepth 100000 in
theorem zu.calls (k : Nat) (a0_0 : Int) (a0_1 : ByteArray) (A0_2 : Option Addr) (c0_2 : Nat) (l0_2 : List (S40)) (a0_3 : ByteArray) (a0_4 : ByteArray) (a0_5 : Int) (a0_6 : Int) (a0_7 : ByteArray) (a0_8 : ByteArray) (a0_9 : Int) (a0_10 : Int) (a0_11 : ByteArray) (a0_12 : ByteArray) (a0_13 : Int) (a0_14 : Int) (a0_15 : ByteArray) (A0_16 : Option Addr) (c0_16 : Nat) (l0_16 : List (S82)) (A1 : Option Addr) (c1 : Nat) (l1 : List ByteArray) (r : Bool) (w : World) (hr0_2 : Kd.C k40 w A0_2 l0_2.length l0_2) (hc0_2 : l0_2.length ≤ c0_2) (hr0_16 : Kd.C k82 w A0_16 l0_16.length l0_16) (hc0_16 : l0_16.length ≤ c0_16) (hr1 : Kd.C Kd.string w A1 l1.length l1) (hc1 : l1.length ≤ c1) (h : zu.f k a0_0 a0_1 l0_2 a0_3 a0_4 a0_5 a0_6 a0_7 a0_8 a0_9 a0_10 a0_11 a0_12 a0_13 a0_14 a0_15 l0_16 l1 = some r) :
  Calls Try.prog 29 #[.agg #[.int .i64 a0_0, .string a0_1, .slice A0_2 l0_2.length c0_2, .string a0_3, .string a0_4, .int .i64 a0_5, .int .i64 a0_6, .string a0_7, .string a0_8, .int .i64 a0_9, .int .i64 a0_10, .string a0_11, .string a0_12, .int .i64 a0_13, .int .i64 a0_14, .string a0_15, .slice A0_16 l0_16.length c0_16], .slice A1 l1.length c1] w fun e w' => e = .returned (.bool r) ∧ Below w.heap.size w w' := by
 have hu43 := Try.underlying43
 have hu40 := Try.underlying40
 have HR0_2 := zb.mk hr0_2
 have HC0_2 := zb.mk hc0_2
 clear hr0_2 hc0_2
 have HR0_16 := zb.mk hr0_16
 have HC0_16 := zb.mk hc0_16
 clear hr0_16 hc0_16
 have HR1 := zb.mk hr1
 have HC1 := zb.mk hc1
 clear hr1 hc1
 have HB := zb.mk (Below.refl w.heap.size w)
 have H : (if a0_0 = 2 then ((yN.f k a0_0 a0_1 l0_2 a0_3 a0_4 a0_5 a0_6 a0_7 a0_8 a0_9 a0_10 a0_11 a0_12 a0_13 a0_14 a0_15 l0_16).bind fun t283 => (zu.l0 k l1 t283 (t283.length : Int) 0)) else (if a0_0 = 3 then ((zF.f k a0_4 a0_5 a0_6 a0_7 l1).bind fun t288 => ((zF.f k a0_8 a0_9 a0_10 a0_11 l1).bind fun t289 => (if t288 = true then (if t289 = true then (some true) else (if a0_3.toList = ([61] : List UInt8) then (some true) else (some false))) else (if a0_3.toList = ([61] : List UInt8) then (some t289) else (some false))))) else (if a0_0 = 4 then ((zF.f k a0_8 a0_9 a0_10 a0_11 l1).bind fun t290 => (if t290 = true then ((zF.f k a0_12 a0_13 a0_14 a0_15 l1).bind fun t291 => (some t291)) else (some false))) else (some true)))) = some r := h
 clear h
 by_cases c3 : a0_0 = 2
 ·rw [if_pos c3] at H
  have c3b0 : (a0_0 == 2) = true := beq_iff_eq.mpr c3
  have c3b1 : (a0_0 != 2) = false := bne_eq_false_iff_eq.mpr c3
  clear c3
  replace H := Option.bind_eq_some_iff.mp H
  obtain ⟨t283, A40, H⟩ := H
  replace H : (zu.l0 k l1 t283 (t283.length : Int) 0) = some r := H
  have A4 := zb.mk A40
  clear A40
  have H' := zb.mk H
  clear H
  go_enter Try.func29, Try.ntmps29
  go_wp2_with (first | ((with_reducible refine zQ (N := 2) rfl ?_); refine zM ?hg (N := 2) ?hd (cs := #[.int .i64 a0_0, .string a0_1, .slice A0_2 l0_2.length c0_2, .string a0_3, .string a0_4, .int .i64 a0_5, .int .i64 a0_6, .string a0_7, .string a0_8, .int .i64 a0_9, .int .i64 a0_10, .string a0_11, .string a0_12, .int .i64 a0_13, .int .i64 a0_14, .string a0_15, .slice A0_16 l0_16.length c0_16]) (t := 43) ?hr ?_; (case hd => rfl); (case hg => rfl); (case hr => first | (go_simp; done) | (go_simp; rfl)); intro gb282 hg w5 hbox hb; have n0_ := zb.mk (zn (ub HB.out) hb); have n1_ := zb.mk (hbox); have n2_ := zb.mk ((by rw [hg]; exact (zi (ub HB.out)) : w.heap.size ≤ gb282)); have n3_ := zb.mk ((by rw [hg]; exact (zi (ub HB.out)) : w.heap.size ≤ gb282)); clear HB; have HB := n0_; have BK282 := n1_; have GW282 := n2_; have GE282 := n3_; clear n0_ n1_ n2_ n3_; clear hb hbox hg; obtain ⟨hcz6_0, hcz6_1, hcz6_2, hcz6_3, hcz6_4, hcz6_5, hcz6_6, hcz6_7, hcz6_8, hcz6_9, hcz6_10, hcz6_11, hcz6_12, hcz6_13, hcz6_14, hcz6_15, hcz6_16⟩ := blk17 BK282.out; obtain ⟨hfz6_0, hfz6_1, hfz6_2, hfz6_3, hfz6_4, hfz6_5, hfz6_6, hfz6_7, hfz6_8, hfz6_9, hfz6_10, hfz6_11, hfz6_12, hfz6_13, hfz6_14, hfz6_15, hfz6_16⟩ := frz17 BK282.out) | ((with_reducible refine zP (f := 15) rfl ?_); refine yH (some 14) rfl rfl Try.func15 (by kernel_rfl) rfl #[.agg #[.int .i64 a0_0, .string a0_1, .slice A0_2 l0_2.length c0_2, .string a0_3, .string a0_4, .int .i64 a0_5, .int .i64 a0_6, .string a0_7, .string a0_8, .int .i64 a0_9, .int .i64 a0_10, .string a0_11, .string a0_12, .int .i64 a0_13, .int .i64 a0_14, .string a0_15, .slice A0_16 l0_16.length c0_16]] rfl (by (try simp only [List.map_toArray, List.map_cons, List.map_nil]); first | done | rfl | (simp only [List.length_drop, List.length_take]; rfl)) ?_; (with_reducible refine (yN.calls k a0_0 a0_1 _ _ l0_2 a0_3 a0_4 a0_5 a0_6 a0_7 a0_8 a0_9 a0_10 a0_11 a0_12 a0_13 a0_14 a0_15 _ _ l0_16 t283 _ ?side1 ?side2 ?side3 ?side4 A4.out).mono ?_); (case side1 => exact uc (Kd.zL HR0_2.out HB.out)); (case side2 => exact HC0_2.out); (case side3 => exact uc (Kd.zL HR0_16.out HB.out)); (case side4 => exact HC0_16.out); rintro e w7 ⟨v284, rfl, ho0, hb⟩; refine ⟨_, rfl, ?_⟩; have n0_ := zb.mk (Kd.yr ho0 (zi (by repeat (first | exact ub HB.out | apply zd | apply zc | apply ze | refine zh ?_ ‹_›)))); have n1_ := zb.mk (zo (ul BK282.out) hb); have n2_ := zb.mk (zn (by repeat (first | exact ub HB.out | apply zd | apply zc | apply ze | refine zh ?_ ‹_›)) hb); clear BK282; clear HB; have HO285 := n0_; have BK282 := n1_; have HB := n2_; clear n0_ n1_ n2_; (try clear hb); (try clear hb2); (try clear hk); (try clear hi); (try clear ho0); obtain ⟨Ao8, co8, eo8⟩ := Kd.yx HO285.out; subst eo8))
  go_loopg [17] k (fun kq v17 w' => ∃ (x17_1 : Int), v17 = .int .i64 x17_1 ∧ zb (zu.l0 kq l1 t283 (t283.length : Int) x17_1 = some r) ∧ zb (kq ≤ k) ∧ zb (Kd.R Kd.string 9 w' w.heap.size (fun _ => True) (.slice Ao8 t283.length co8) t283) ∧ zb (w'.heap[gb282]? = some (.cells #[.int .i64 a0_0, .string a0_1, (.slice A0_2 l0_2.length c0_2), .string a0_3, .string a0_4, .int .i64 a0_5, .int .i64 a0_6, .string a0_7, .string a0_8, .int .i64 a0_9, .int .i64 a0_10, .string a0_11, .string a0_12, .int .i64 a0_13, .int .i64 a0_14, .string a0_15, (.slice A0_16 l0_16.length c0_16)] 43 (0, 0))) ∧ zb (Below w.heap.size w w'))
  case atStart => exact ⟨(0), (by first | rfl | (simp; done) | (simp [*]; done)), H', ⟨Nat.le_refl _⟩, ⟨ur HO285.out⟩, ⟨ul BK282.out⟩, ⟨by repeat (first | exact ub HB.out | apply zd | apply zc | apply ze | refine zh ?_ ‹_›)⟩⟩
  case round =>
   clear H'
   try clear c1
   try clear c2
   try clear p2
   try clear c3
   try clear c3b0
   try clear c3b1
   try clear hcz6_0 hcz6_1 hcz6_10 hcz6_11 hcz6_12 hcz6_13 hcz6_14 hcz6_15 hcz6_16 hcz6_2 hcz6_3 hcz6_4 hcz6_5 hcz6_6 hcz6_7 hcz6_8 hcz6_9
   try clear hfz6_0 hfz6_1 hfz6_10 hfz6_11 hfz6_12 hfz6_13 hfz6_14 hfz6_15 hfz6_16 hfz6_2 hfz6_3 hfz6_4 hfz6_5 hfz6_6 hfz6_7 hfz6_8 hfz6_9
   obtain ⟨x17_1, rfl, HA, HK1, HO_5, BK282, HB⟩ := hrel
   cases gk with
   | zero => exact absurd HA.out (by simp [zu.l0])
   | succ k1 =>
    have H := HA.out
    clear HA
    simp only [zu.l0] at H
    by_cases c9 : x17_1 < (t283.length : Int)
    ·rw [if_pos c9] at H
     have c9b0 : decide (x17_1 < (t283.length : Int)) = true := decide_eq_true c9
     clear c9
     by_cases c10 : 0 ≤ x17_1
     ·rw [if_pos c10] at H
      have c10b0 : decide (0 ≤ x17_1) = true := decide_eq_true c10
      clear c10
      by_cases c11 : x17_1 < (t283.length : Int)
      ·rw [if_pos c11] at H
       have c11b0 : decide (x17_1 < (t283.length : Int)) = true := decide_eq_true c11
       clear c11
       replace H := Option.bind_eq_some_iff.mp H
       obtain ⟨t287, A120, H⟩ := H
       replace H : (if t287 = true then (zu.l0 k1 l1 t283 (t283.length : Int) (wrap64 (x17_1 + 1))) else (some false)) = some r := H
       have A12 := zb.mk A120
       clear A120
       by_cases c13 : t287 = true
       ·subst c13
        have H1 : (zu.l0 k1 l1 t283 (t283.length : Int) (wrap64 (x17_1 + 1))) = some r := by rw [if_pos rfl] at H; exact H
        clear H
        have H := H1
        clear H1
        have H' := zb.mk H
        clear H
        have p286 : 0 ≤ (x17_1 : Int) := zdd
        have q286 : x17_1 < (t283.length : Int) := zdd
        obtain ⟨ad286, e286, hx286_0⟩ := Kd.yX (Kd.zU HO_5.out).2.2 x17_1 p286 q286
        cases e286
        replace p286 := eq_true p286
        replace q286 := eq_true q286
        go_wp2_with (first | ((with_reducible refine zP (f := 18) rfl ?_); refine yH (some 25) rfl rfl Try.func18 (by kernel_rfl) rfl #[.slice A1 l1.length c1, .string (rdOf ByteArray.empty t283 x17_1)] rfl (by (try simp only [List.map_toArray, List.map_cons, List.map_nil]); first | done | rfl | (simp only [List.length_drop, List.length_take]; rfl)) ?_; (with_reducible refine (zK.calls k1 _ _ l1 (rdOf ByteArray.empty t283 x17_1) true _ ?side1 ?side2 A12.out).mono ?_); (case side1 => exact uc (Kd.zL HR1.out HB.out)); (case side2 => exact HC1.out); rintro e w' ⟨rfl, ⟨nd, rfl⟩⟩; refine ⟨_, rfl, ?_⟩))
        go_roundg k1
        case measure => have := HK1.out; omega
        case rel => exact ⟨(wrap64 (x17_1 + 1)), (by first | rfl | (simp; done) | (simp [*]; done)), H', ⟨by have := HK1.out; omega⟩, ⟨ur HO_5.out⟩, ⟨ul BK282.out⟩, ⟨by repeat (first | exact ub HB.out | apply zd | apply zc | apply ze | refine zh ?_ ‹_›)⟩⟩
       ·replace c13 := Bool.eq_false_iff.mpr c13
        subst c13
        have H1 : (some false) = some r := by rw [if_neg (show ¬ (false = true) by decide)] at H; exact H
        clear H
        have H := H1
        clear H1
        obtain rfl := Option.some.inj H
        have p286 : 0 ≤ (x17_1 : Int) := zdd
        have q286 : x17_1 < (t283.length : Int) := zdd
        obtain ⟨ad286, e286, hx286_0⟩ := Kd.yX (Kd.zU HO_5.out).2.2 x17_1 p286 q286
        cases e286
        replace p286 := eq_true p286
        replace q286 := eq_true q286
        go_wp2_with (first | ((with_reducible refine zP (f := 18) rfl ?_); refine yH (some 25) rfl rfl Try.func18 (by kernel_rfl) rfl #[.slice A1 l1.length c1, .string (rdOf ByteArray.empty t283 x17_1)] rfl (by (try simp only [List.map_toArray, List.map_cons, List.map_nil]); first | done | rfl | (simp only [List.length_drop, List.length_take]; rfl)) ?_; (with_reducible refine (zK.calls k1 _ _ l1 (rdOf ByteArray.empty t283 x17_1) false _ ?side1 ?side2 A12.out).mono ?_); (case side1 => exact uc (Kd.zL HR1.out HB.out)); (case side2 => exact HC1.out); rintro e w' ⟨rfl, ⟨nd, rfl⟩⟩; refine ⟨_, rfl, ?_⟩))
        go_ret
        exact ⟨by first | rfl | (simp [zA, zz] <;> rfl) | (simp [*, zA, zz] <;> rfl), by repeat (first | exact ub HB.out | apply zd | apply zc | apply ze | refine zh ?_ ‹_›)⟩
      ·rw [if_neg c11] at H
       exact absurd H (by simp)
     ·rw [if_neg c10] at H
      exact absurd H (by simp)
    ·rw [if_neg c9] at H
     have c9b0 : decide (x17_1 < (t283.length : Int)) = false := decide_eq_false c9
     clear c9
     obtain rfl := Option.some.inj H
     go_wp2
     go_ret
     exact ⟨by first | rfl | (simp [zA, zz] <;> rfl) | (simp [*, zA, zz] <;> rfl), by repeat (first | exact ub HB.out | apply zd | apply zc | apply ze | refine zh ?_ ‹_›)⟩
 ·rw [if_neg c3] at H
  have c3b0 : (a0_0 == 2) = false := beq_eq_false_iff_ne.mpr c3
  have c3b1 : (a0_0 != 2) = true := bne_iff_ne.mpr c3
  by_cases c14 : a0_0 = 3
  ·rw [if_pos c14] at H
   have c14b0 : (a0_0 == 3) = true := beq_iff_eq.mpr c14
   have c14b1 : (a0_0 != 3) = false := bne_eq_false_iff_eq.mpr c14
   clear c14
   replace H := Option.bind_eq_some_iff.mp H
   obtain ⟨t288, A150, H⟩ := H
   replace H : ((zF.f k a0_8 a0_9 a0_10 a0_11 l1).bind fun t289 => (if t288 = true then (if t289 = true then (some true) else (if a0_3.toList = ([61] : List UInt8) then (some true) else (some false))) else (if a0_3.toList = ([61] : List UInt8) then (some t289) else (some false)))) = some r := H
   have A15 := zb.mk A150
   clear A150
   replace H := Option.bind_eq_some_iff.mp H
   obtain ⟨t289, A160, H⟩ := H
   replace H : (if t288 = true then (if t289 = true then (some true) else (if a0_3.toList = ([61] : List UInt8) then (some true) else (some false))) else (if a0_3.toList = ([61] : List UInt8) then (some t289) else (some false))) = some r := H
   have A16 := zb.mk A160
   clear A160
   by_cases c17 : t288 = true
   ·subst c17
    have H1 : (if t289 = true then (some true) else (if a0_3.toList = ([61] : List UInt8) then (some true) else (some false))) = some r := by rw [if_pos rfl] at H; exact H
    clear H
    have H := H1
    clear H1
    by_cases c18 : t289 = true
    ·subst c18
     have H1 : (some true) = some r := by rw [if_pos rfl] at H; exact H
     clear H
     have H := H1
     clear H1
     obtain rfl := Option.some.inj H
     go_enter Try.func29, Try.ntmps29
     try go_wp2_with (first | ((with_reducible refine zQ (N := 2) rfl ?_); refine zM ?hg (N := 2) ?hd (cs := #[.int .i64 a0_0, .string a0_1, .slice A0_2 l0_2.length c0_2, .string a0_3, .string a0_4, .int .i64 a0_5, .int .i64 a0_6, .string a0_7, .string a0_8, .int .i64 a0_9, .int .i64 a0_10, .string a0_11, .string a0_12, .int .i64 a0_13, .int .i64 a0_14, .string a0_15, .slice A0_16 l0_16.length c0_16]) (t := 43) ?hr ?_; (case hd => rfl); (case hg => rfl); (case hr => first | (go_simp; done) | (go_simp; rfl)); intro gb282 hg w19 hbox hb; have n0_ := zb.mk (zn (ub HB.out) hb); have n1_ := zb.mk (hbox); have n2_ := zb.mk ((by rw [hg]; exact (zi (ub HB.out)) : w.heap.size ≤ gb282)); have n3_ := zb.mk ((by rw [hg]; exact (zi (ub HB.out)) : w.heap.size ≤ gb282)); clear HB; have HB := n0_; have BK282 := n1_; have GW282 := n2_; have GE282 := n3_; clear n0_ n1_ n2_ n3_; clear hb hbox hg; obtain ⟨hcz20_0, hcz20_1, hcz20_2, hcz20_3, hcz20_4, hcz20_5, hcz20_6, hcz20_7, hcz20_8, hcz20_9, hcz20_10, hcz20_11, hcz20_12, hcz20_13, hcz20_14, hcz20_15, hcz20_16⟩ := blk17 BK282.out; obtain ⟨hfz20_0, hfz20_1, hfz20_2, hfz20_3, hfz20_4, hfz20_5, hfz20_6, hfz20_7, hfz20_8, hfz20_9, hfz20_10, hfz20_11, hfz20_12, hfz20_13, hfz20_14, hfz20_15, hfz20_16⟩ := frz17 BK282.out))
     have n0_ := zb.mk (zD BK282.out)
     have n1_ := zb.mk (ze HB.out)
     clear BK282
     clear HB
     have BK282 := n0_
     have HB := n1_
     clear n0_ n1_
     refine start_ (n := 10) (S := fun w' => w'.cell? ⟨gb282, 0, none⟩ = some (.int .i64 a0_0) ∧ w'.cell? ⟨gb282, 1, none⟩ = some (.string a0_1) ∧ w'.cell? ⟨gb282, 2, none⟩ = some (.slice A0_2 l0_2.length c0_2) ∧ w'.cell? ⟨gb282, 3, none⟩ = some (.string a0_3) ∧ w'.cell? ⟨gb282, 4, none⟩ = some (.string a0_4) ∧ w'.cell? ⟨gb282, 5, none⟩ = some (.int .i64 a0_5) ∧ w'.cell? ⟨gb282, 6, none⟩ = some (.int .i64 a0_6) ∧ w'.cell? ⟨gb282, 7, none⟩ = some (.string a0_7) ∧ w'.cell? ⟨gb282, 8, none⟩ = some (.string a0_8) ∧ w'.cell? ⟨gb282, 9, none⟩ = some (.int .i64 a0_9) ∧ w'.cell? ⟨gb282, 10, none⟩ = some (.int .i64 a0_10) ∧ w'.cell? ⟨gb282, 11, none⟩ = some (.string a0_11) ∧ w'.cell? ⟨gb282, 12, none⟩ = some (.string a0_12) ∧ w'.cell? ⟨gb282, 13, none⟩ = some (.int .i64 a0_13) ∧ w'.cell? ⟨gb282, 14, none⟩ = some (.int .i64 a0_14) ∧ w'.cell? ⟨gb282, 15, none⟩ = some (.string a0_15) ∧ w'.cell? ⟨gb282, 16, none⟩ = some (.slice A0_16 l0_16.length c0_16)) (ds := []) #[false, false, false, false, false, false, false, false, false, false] (by kernel_rfl) rfl rfl ⟨(zf BK282.out 0).trans rfl, (zf BK282.out 1).trans rfl, (zf BK282.out 2).trans rfl, (zf BK282.out 3).trans rfl, (zf BK282.out 4).trans rfl, (zf BK282.out 5).trans rfl, (zf BK282.out 6).trans rfl, (zf BK282.out 7).trans rfl, (zf BK282.out 8).trans rfl, (zf BK282.out 9).trans rfl, (zf BK282.out 10).trans rfl, (zf BK282.out 11).trans rfl, (zf BK282.out 12).trans rfl, (zf BK282.out 13).trans rfl, (zf BK282.out 14).trans rfl, (zf BK282.out 15).trans rfl, (zf BK282.out 16).trans rfl⟩ (fun hHeld => ?_); refine qw zu.tab11 zu.bits11 (fun HT_ HW_ => ?_)
     generalize w19.drew = w21 at BK282 HB hHeld ⊢
     refine pure_ (i := 0) (N := some 30) (v := ?_) (a' := ?_) #[true, false, false, false, false, false, false, false, false, false] rfl rfl (yn HT_.out (by kernel_rfl)) (fun _ _ _ h => h) (Or.inl ⟨by rfl, ?_⟩) ?_ ?_
     rotate_left
     ·intro w'
      go_simp
      with_reducible rfl
     rotate_left
     ·simp only [Act.put, List.setIfInBounds_toArray, List.set_cons_zero, List.set_cons_succ, i64_w, i32_w]
      rfl
     refine pure_ (i := 2) (N := some 32) (v := ?_) (a' := ?_) #[true, false, true, false, false, false, false, false, false, false] rfl rfl (yn HT_.out (by kernel_rfl)) (fun _ _ _ h => h) (Or.inl ⟨by rfl, ?_⟩) ?_ ?_
     rotate_left
     ·intro w'
      go_simp
      with_reducible rfl
     rotate_left
     ·simp only [Act.put, List.setIfInBounds_toArray, List.set_cons_zero, List.set_cons_succ, i64_w, i32_w]
      rfl
     refine pure_ (i := 4) (N := some 34) (v := ?_) (a' := ?_) #[true, false, true, false, true, false, false, false, false, false] rfl rfl (yn HT_.out (by kernel_rfl)) (fun _ _ _ h => h) (Or.inl ⟨by rfl, ?_⟩) ?_ ?_
     rotate_left
     ·intro w'
      go_simp
      with_reducible rfl
     rotate_left
     ·simp only [Act.put, List.setIfInBounds_toArray, List.set_cons_zero, List.set_cons_succ, i64_w, i32_w]
      rfl
     refine pure_ (i := 6) (N := some 36) (v := ?_) (a' := ?_) #[true, false, true, false, true, false, true, false, false, false] rfl rfl (yn HT_.out (by kernel_rfl)) (fun _ _ _ h => h) (Or.inl ⟨by rfl, ?_⟩) ?_ ?_
     rotate_left
     ·intro w'
      go_simp
      with_reducible rfl
     rotate_left
     ·simp only [Act.put, List.setIfInBounds_toArray, List.set_cons_zero, List.set_cons_succ, i64_w, i32_w]
      rfl
     refine take_ (i := 1) (N := some 31) (v := ?_) (a' := ?_) #[true, true, true, false, true, false, true, false, false, false] rfl rfl (yF HT_.out HW_.out (by kernel_rfl)) (fun _ _ _ h => h) (Or.inl ⟨by rfl, ?_⟩) hHeld ?_ ?_
     rotate_left
     ·rintro w' ⟨s0, s1, s2, s3, s4, s5, s6, s7, s8, s9, s10, s11, s12, s13, s14, s15, s16⟩
      go_simp
      with_reducible rfl
     rotate_left
     ·simp only [Act.put, List.setIfInBounds_toArray, List.set_cons_zero, List.set_cons_succ, i64_w, i32_w]
      rfl
     refine take_ (i := 5) (N := some 35) (v := ?_) (a' := ?_) #[true, true, true, false, true, true, true, false, false, false] rfl rfl (yF HT_.out HW_.out (by kernel_rfl)) (fun _ _ _ h => h) (Or.inl ⟨by rfl, ?_⟩) hHeld ?_ ?_
     rotate_left
     ·rintro w' ⟨s0, s1, s2, s3, s4, s5, s6, s7, s8, s9, s10, s11, s12, s13, s14, s15, s16⟩
      go_simp
      with_reducible rfl
     rotate_left
     ·simp only [Act.put, List.setIfInBounds_toArray, List.set_cons_zero, List.set_cons_succ, i64_w, i32_w]
      rfl
     refine one_ (i := 3) (N := some 33) #[true, true, true, true, true, true, true, false, false, false] rfl rfl (ql HT_.out (by kernel_rfl)) (by decide) (fun K hK => ?_)
     refine goes_ Try.func43 (by kernel_rfl) rfl #[.agg #[.string a0_4, .int .i64 a0_5, .int .i64 a0_6, .string a0_7], .slice A1 l1.length c1] (by rfl) rfl rfl (by (try simp only [List.map_toArray, List.map_cons, List.map_nil]); first | done | rfl | (simp only [List.length_drop, List.length_take]; rfl)) ?_
     with_reducible refine (zF.calls k a0_4 a0_5 a0_6 a0_7 _ _ l1 true _ ?side1 ?side2 A15.out).mono ?_
     (case side1 => exact uc (Kd.zL HR1.out HB.out))
     (case side2 => exact HC1.out)
     rintro e w22 ⟨rfl, hb⟩
     refine ⟨_, rfl, ?_⟩
     have n0_ := zb.mk (zo (ul BK282.out) hb)
     have n1_ := zb.mk (zn (by repeat (first | exact ub HB.out | apply zd | apply zc | apply ze | refine zh ?_ ‹_›)) hb)
     clear BK282
     clear HB
     have BK282 := n0_
     have HB := n1_
     clear n0_ n1_
     (try clear hb)
     (try clear hb2)
     (try clear hk)
     (try clear hi)
     refine hK.out _ _ ⟨(zf BK282.out 0).trans rfl, (zf BK282.out 1).trans rfl, (zf BK282.out 2).trans rfl, (zf BK282.out 3).trans rfl, (zf BK282.out 4).trans rfl, (zf BK282.out 5).trans rfl, (zf BK282.out 6).trans rfl, (zf BK282.out 7).trans rfl, (zf BK282.out 8).trans rfl, (zf BK282.out 9).trans rfl, (zf BK282.out 10).trans rfl, (zf BK282.out 11).trans rfl, (zf BK282.out 12).trans rfl, (zf BK282.out 13).trans rfl, (zf BK282.out 14).trans rfl, (zf BK282.out 15).trans rfl, (zf BK282.out 16).trans rfl⟩ (fun hHeld => ?_)
     clear hK K
     refine norm_ (a' := ?_) ?_ ?_
     rotate_left
     ·show Act.put _ (some 33) _ = _
      simp only [Act.put, List.setIfInBounds_toArray, List.set_cons_zero, List.set_cons_succ, i64_w, i32_w]
      rfl
     refine one_ (i := 7) (N := some 37) #[true, true, true, true, true, true, true, true, false, false] rfl rfl (ql HT_.out (by kernel_rfl)) (by decide) (fun K hK => ?_)
     refine goes_ Try.func43 (by kernel_rfl) rfl #[.agg #[.string a0_8, .int .i64 a0_9, .int .i64 a0_10, .string a0_11], .slice A1 l1.length c1] (by rfl) rfl rfl (by (try simp only [List.map_toArray, List.map_cons, List.map_nil]); first | done | rfl | (simp only [List.length_drop, List.length_take]; rfl)) ?_
     with_reducible refine (zF.calls k a0_8 a0_9 a0_10 a0_11 _ _ l1 true _ ?side1 ?side2 A16.out).mono ?_
     (case side1 => exact uc (Kd.zL HR1.out HB.out))
     (case side2 => exact HC1.out)
     rintro e w23 ⟨rfl, hb⟩
     refine ⟨_, rfl, ?_⟩
     have n0_ := zb.mk (zo (ul BK282.out) hb)
     have n1_ := zb.mk (zn (by repeat (first | exact ub HB.out | apply zd | apply zc | apply ze | refine zh ?_ ‹_›)) hb)
     clear BK282
     clear HB
     have BK282 := n0_
     have HB := n1_
     clear n0_ n1_
     (try clear hb)
     (try clear hb2)
     (try clear hk)
     (try clear hi)
     refine hK.out _ _ ⟨(zf BK282.out 0).trans rfl, (zf BK282.out 1).trans rfl, (zf BK282.out 2).trans rfl, (zf BK282.out 3).trans rfl, (zf BK282.out 4).trans rfl, (zf BK282.out 5).trans rfl, (zf BK282.out 6).trans rfl, (zf BK282.out 7).trans rfl, (zf BK282.out 8).trans rfl, (zf BK282.out 9).trans rfl, (zf BK282.out 10).trans rfl, (zf BK282.out 11).trans rfl, (zf BK282.out 12).trans rfl, (zf BK282.out 13).trans rfl, (zf BK282.out 14).trans rfl, (zf BK282.out 15).trans rfl, (zf BK282.out 16).trans rfl⟩ (fun hHeld => ?_)
     clear hK K
     refine norm_ (a' := ?_) ?_ ?_
     rotate_left
     ·show Act.put _ (some 37) _ = _
      simp only [Act.put, List.setIfInBounds_toArray, List.set_cons_zero, List.set_cons_succ, i64_w, i32_w]
      rfl
     refine pure_ (i := 8) (N := some 7) (v := ?_) (a' := ?_) #[true, true, true, true, true, true, true, true, true, false] rfl rfl (yn HT_.out (by kernel_rfl)) (fun _ _ _ h => h) (Or.inl ⟨by rfl, ?_⟩) ?_ ?_
     rotate_left
     ·intro w'
      go_simp
      with_reducible rfl
     rotate_left
     ·simp only [Act.put, List.setIfInBounds_toArray, List.set_cons_zero, List.set_cons_succ, i64_w, i32_w]
      rfl
     refine pure_ (i := 9) (N := some 8) (v := ?_) (a' := ?_) #[true, true, true, true, true, true, true, true, true, true] rfl rfl (yn HT_.out (by kernel_rfl)) (fun _ _ _ h => h) (Or.inl ⟨by rfl, ?_⟩) ?_ ?_
     rotate_left
     ·intro w'
      go_simp
      with_reducible rfl
     rotate_left
     ·simp only [Act.put, List.setIfInBounds_toArray, List.set_cons_zero, List.set_cons_succ, i64_w, i32_w]
      rfl
     refine done_ (done_of HT_.out (by kernel_rfl)) ?_
     try go_wp2
     go_ret
     exact ⟨by first | rfl | (simp [zA, zz] <;> rfl) | (simp [*, zA, zz] <;> rfl), by repeat (first | exact ub HB.out | apply zd | apply zc | apply ze | refine zh ?_ ‹_›)⟩
    ·replace c18 := Bool.eq_false_iff.mpr c18
     subst c18
     have H1 : (if a0_3.toList = ([61] : List UInt8) then (some true) else (some false)) = some r := by rw [if_neg (show ¬ (false = true) by decide)] at H; exact H
     clear H
     have H := H1
     clear H1
     by_cases c24 : a0_3.toList = ([61] : List UInt8)
     ·rw [if_pos c24] at H
      have c24b0 : (a0_3.toList == ([61] : List UInt8)) = true := beq_iff_eq.mpr c24
      have c24b1 : (a0_3.toList != ([61] : List UInt8)) = false := bne_eq_false_iff_eq.mpr c24
      clear c24
      obtain rfl := Option.some.inj H
      go_enter Try.func29, Try.ntmps29
      try go_wp2_with (first | ((with_reducible refine zQ (N := 2) rfl ?_); refine zM ?hg (N := 2) ?hd (cs := #[.int .i64 a0_0, .string a0_1, .slice A0_2 l0_2.length c0_2, .string a0_3, .string a0_4, .int .i64 a0_5, .int .i64 a0_6, .string a0_7, .string a0_8, .int .i64 a0_9, .int .i64 a0_10, .string a0_11, .string a0_12, .int .i64 a0_13, .int .i64 a0_14, .string a0_15, .slice A0_16 l0_16.length c0_16]) (t := 43) ?hr ?_; (case hd => rfl); (case hg => rfl); (case hr => first | (go_simp; done) | (go_simp; rfl)); intro gb282 hg w25 hbox hb; have n0_ := zb.mk (zn (ub HB.out) hb); have n1_ := zb.mk (hbox); have n2_ := zb.mk ((by rw [hg]; exact (zi (ub HB.out)) : w.heap.size ≤ gb282)); have n3_ := zb.mk ((by rw [hg]; exact (zi (ub HB.out)) : w.heap.size ≤ gb282)); clear HB; have HB := n0_; have BK282 := n1_; have GW282 := n2_; have GE282 := n3_; clear n0_ n1_ n2_ n3_; clear hb hbox hg; obtain ⟨hcz26_0, hcz26_1, hcz26_2, hcz26_3, hcz26_4, hcz26_5, hcz26_6, hcz26_7, hcz26_8, hcz26_9, hcz26_10, hcz26_11, hcz26_12, hcz26_13, hcz26_14, hcz26_15, hcz26_16⟩ := blk17 BK282.out; obtain ⟨hfz26_0, hfz26_1, hfz26_2, hfz26_3, hfz26_4, hfz26_5, hfz26_6, hfz26_7, hfz26_8, hfz26_9, hfz26_10, hfz26_11, hfz26_12, hfz26_13, hfz26_14, hfz26_15, hfz26_16⟩ := frz17 BK282.out))
      have n0_ := zb.mk (zD BK282.out)
      have n1_ := zb.mk (ze HB.out)
      clear BK282
      clear HB
      have BK282 := n0_
      have HB := n1_
      clear n0_ n1_
      refine start_ (n := 10) (S := fun w' => w'.cell? ⟨gb282, 0, none⟩ = some (.int .i64 a0_0) ∧ w'.cell? ⟨gb282, 1, none⟩ = some (.string a0_1) ∧ w'.cell? ⟨gb282, 2, none⟩ = some (.slice A0_2 l0_2.length c0_2) ∧ w'.cell? ⟨gb282, 3, none⟩ = some (.string a0_3) ∧ w'.cell? ⟨gb282, 4, none⟩ = some (.string a0_4) ∧ w'.cell? ⟨gb282, 5, none⟩ = some (.int .i64 a0_5) ∧ w'.cell? ⟨gb282, 6, none⟩ = some (.int .i64 a0_6) ∧ w'.cell? ⟨gb282, 7, none⟩ = some (.string a0_7) ∧ w'.cell? ⟨gb282, 8, none⟩ = some (.string a0_8) ∧ w'.cell? ⟨gb282, 9, none⟩ = some (.int .i64 a0_9) ∧ w'.cell? ⟨gb282, 10, none⟩ = some (.int .i64 a0_10) ∧ w'.cell? ⟨gb282, 11, none⟩ = some (.string a0_11) ∧ w'.cell? ⟨gb282, 12, none⟩ = some (.string a0_12) ∧ w'.cell? ⟨gb282, 13, none⟩ = some (.int .i64 a0_13) ∧ w'.cell? ⟨gb282, 14, none⟩ = some (.int .i64 a0_14) ∧ w'.cell? ⟨gb282, 15, none⟩ = some (.string a0_15) ∧ w'.cell? ⟨gb282, 16, none⟩ = some (.slice A0_16 l0_16.length c0_16)) (ds := []) #[false, false, false, false, false, false, false, false, false, false] (by kernel_rfl) rfl rfl ⟨(zf BK282.out 0).trans rfl, (zf BK282.out 1).trans rfl, (zf BK282.out 2).trans rfl, (zf BK282.out 3).trans rfl, (zf BK282.out 4).trans rfl, (zf BK282.out 5).trans rfl, (zf BK282.out 6).trans rfl, (zf BK282.out 7).trans rfl, (zf BK282.out 8).trans rfl, (zf BK282.out 9).trans rfl, (zf BK282.out 10).trans rfl, (zf BK282.out 11).trans rfl, (zf BK282.out 12).trans rfl, (zf BK282.out 13).trans rfl, (zf BK282.out 14).trans rfl, (zf BK282.out 15).trans rfl, (zf BK282.out 16).trans rfl⟩ (fun hHeld => ?_); refine qw zu.tab11 zu.bits11 (fun HT_ HW_ => ?_)
      generalize w25.drew = w27 at BK282 HB hHeld ⊢
      refine pure_ (i := 0) (N := some 30) (v := ?_) (a' := ?_) #[true, false, false, false, false, false, false, false, false, false] rfl rfl (yn HT_.out (by kernel_rfl)) (fun _ _ _ h => h) (Or.inl ⟨by rfl, ?_⟩) ?_ ?_
      rotate_left
      ·intro w'
       go_simp
       with_reducible rfl
      rotate_left
      ·simp only [Act.put, List.setIfInBounds_toArray, List.set_cons_zero, List.set_cons_succ, i64_w, i32_w]
       rfl
      refine pure_ (i := 2) (N := some 32) (v := ?_) (a' := ?_) #[true, false, true, false, false, false, false, false, false, false] rfl rfl (yn HT_.out (by kernel_rfl)) (fun _ _ _ h => h) (Or.inl ⟨by rfl, ?_⟩) ?_ ?_
      rotate_left
      ·intro w'
       go_simp
       with_reducible rfl
      rotate_left
      ·simp only [Act.put, List.setIfInBounds_toArray, List.set_cons_zero, List.set_cons_succ, i64_w, i32_w]
       rfl
      refine pure_ (i := 4) (N := some 34) (v := ?_) (a' := ?_) #[true, false, true, false, true, false, false, false, false, false] rfl rfl (yn HT_.out (by kernel_rfl)) (fun _ _ _ h => h) (Or.inl ⟨by rfl, ?_⟩) ?_ ?_
      rotate_left
      ·intro w'
       go_simp
       with_reducible rfl
      rotate_left
      ·simp only [Act.put, List.setIfInBounds_toArray, List.set_cons_zero, List.set_cons_succ, i64_w, i32_w]
       rfl
      refine pure_ (i := 6) (N := some 36) (v := ?_) (a' := ?_) #[true, false, true, false, true, false, true, false, false, false] rfl rfl (yn HT_.out (by kernel_rfl)) (fun _ _ _ h => h) (Or.inl ⟨by rfl, ?_⟩) ?_ ?_
      rotate_left
      ·intro w'
       go_simp
       with_reducible rfl
      rotate_left
      ·simp only [Act.put, List.setIfInBounds_toArray, List.set_cons_zero, List.set_cons_succ, i64_w, i32_w]
       rfl
      refine take_ (i := 1) (N := some 31) (v := ?_) (a' := ?_) #[true, true, true, false, true, false, true, false, false, false] rfl rfl (yF HT_.out HW_.out (by kernel_rfl)) (fun _ _ _ h => h) (Or.inl ⟨by rfl, ?_⟩) hHeld ?_ ?_
      rotate_left
      ·rintro w' ⟨s0, s1, s2, s3, s4, s5, s6, s7, s8, s9, s10, s11, s12, s13, s14, s15, s16⟩
       go_simp
       with_reducible rfl
      rotate_left
      ·simp only [Act.put, List.setIfInBounds_toArray, List.set_cons_zero, List.set_cons_succ, i64_w, i32_w]
       rfl
      refine take_ (i := 5) (N := some 35) (v := ?_) (a' := ?_) #[true, true, true, false, true, true, true, false, false, false] rfl rfl (yF HT_.out HW_.out (by kernel_rfl)) (fun _ _ _ h => h) (Or.inl ⟨by rfl, ?_⟩) hHeld ?_ ?_
      rotate_left
      ·rintro w' ⟨s0, s1, s2, s3, s4, s5, s6, s7, s8, s9, s10, s11, s12, s13, s14, s15, s16⟩
       go_simp
       with_reducible rfl
      rotate_left
      ·simp only [Act.put, List.setIfInBounds_toArray, List.set_cons_zero, List.set_cons_succ, i64_w, i32_w]
       rfl
      refine one_ (i := 3) (N := some 33) #[true, true, true, true, true, true, true, false, false, false] rfl rfl (ql HT_.out (by kernel_rfl)) (by decide) (fun K hK => ?_)
      refine goes_ Try.func43 (by kernel_rfl) rfl #[.agg #[.string a0_4, .int .i64 a0_5, .int .i64 a0_6, .string a0_7], .slice A1 l1.length c1] (by rfl) rfl rfl (by (try simp only [List.map_toArray, List.map_cons, List.map_nil]); first | done | rfl | (simp only [List.length_drop, List.length_take]; rfl)) ?_
      with_reducible refine (zF.calls k a0_4 a0_5 a0_6 a0_7 _ _ l1 true _ ?side1 ?side2 A15.out).mono ?_
      (case side1 => exact uc (Kd.zL HR1.out HB.out))
      (case side2 => exact HC1.out)
      rintro e w28 ⟨rfl, hb⟩
      refine ⟨_, rfl, ?_⟩
      have n0_ := zb.mk (zo (ul BK282.out) hb)
      have n1_ := zb.mk (zn (by repeat (first | exact ub HB.out | apply zd | apply zc | apply ze | refine zh ?_ ‹_›)) hb)
      clear BK282
      clear HB
      have BK282 := n0_
      have HB := n1_
      clear n0_ n1_
      (try clear hb)
      (try clear hb2)
      (try clear hk)
      (try clear hi)
      refine hK.out _ _ ⟨(zf BK282.out 0).trans rfl, (zf BK282.out 1).trans rfl, (zf BK282.out 2).trans rfl, (zf BK282.out 3).trans rfl, (zf BK282.out 4).trans rfl, (zf BK282.out 5).trans rfl, (zf BK282.out 6).trans rfl, (zf BK282.out 7).trans rfl, (zf BK282.out 8).trans rfl, (zf BK282.out 9).trans rfl, (zf BK282.out 10).trans rfl, (zf BK282.out 11).trans rfl, (zf BK282.out 12).trans rfl, (zf BK282.out 13).trans rfl, (zf BK282.out 14).trans rfl, (zf BK282.out 15).trans rfl, (zf BK282.out 16).trans rfl⟩ (fun hHeld => ?_)
      clear hK K
      refine norm_ (a' := ?_) ?_ ?_
      rotate_left
      ·show Act.put _ (some 33) _ = _
       simp only [Act.put, List.setIfInBounds_toArray, List.set_cons_zero, List.set_cons_succ, i64_w, i32_w]
       rfl
      refine one_ (i := 7) (N := some 37) #[true, true, true, true, true, true, true, true, false, false] rfl rfl (ql HT_.out (by kernel_rfl)) (by decide) (fun K hK => ?_)
      refine goes_ Try.func43 (by kernel_rfl) rfl #[.agg #[.string a0_8, .int .i64 a0_9, .int .i64 a0_10, .string a0_11], .slice A1 l1.length c1] (by rfl) rfl rfl (by (try simp only [List.map_toArray, List.map_cons, List.map_nil]); first | done | rfl | (simp only [List.length_drop, List.length_take]; rfl)) ?_
      with_reducible refine (zF.calls k a0_8 a0_9 a0_10 a0_11 _ _ l1 false _ ?side1 ?side2 A16.out).mono ?_
      (case side1 => exact uc (Kd.zL HR1.out HB.out))
      (case side2 => exact HC1.out)
      rintro e w29 ⟨rfl, hb⟩
      refine ⟨_, rfl, ?_⟩
      have n0_ := zb.mk (zo (ul BK282.out) hb)
      have n1_ := zb.mk (zn (by repeat (first | exact ub HB.out | apply zd | apply zc | apply ze | refine zh ?_ ‹_›)) hb)
      clear BK282
      clear HB
      have BK282 := n0_
      have HB := n1_
      clear n0_ n1_
      (try clear hb)
      (try clear hb2)
      (try clear hk)
      (try clear hi)
      refine hK.out _ _ ⟨(zf BK282.out 0).trans rfl, (zf BK282.out 1).trans rfl, (zf BK282.out 2).trans rfl, (zf BK282.out 3).trans rfl, (zf BK282.out 4).trans rfl, (zf BK282.out 5).trans rfl, (zf BK282.out 6).trans rfl, (zf BK282.out 7).trans rfl, (zf BK282.out 8).trans rfl, (zf BK282.out 9).trans rfl, (zf BK282.out 10).trans rfl, (zf BK282.out 11).trans rfl, (zf BK282.out 12).trans rfl, (zf BK282.out 13).trans rfl, (zf BK282.out 14).trans rfl, (zf BK282.out 15).trans rfl, (zf BK282.out 16).trans rfl⟩ (fun hHeld => ?_)
      clear hK K
      refine norm_ (a' := ?_) ?_ ?_
      rotate_left
      ·show Act.put _ (some 37) _ = _
       simp only [Act.put, List.setIfInBounds_toArray, List.set_cons_zero, List.set_cons_succ, i64_w, i32_w]
       rfl
      refine pure_ (i := 8) (N := some 7) (v := ?_) (a' := ?_) #[true, true, true, true, true, true, true, true, true, false] rfl rfl (yn HT_.out (by kernel_rfl)) (fun _ _ _ h => h) (Or.inl ⟨by rfl, ?_⟩) ?_ ?_
      rotate_left
      ·intro w'
       go_simp
       with_reducible rfl
      rotate_left
      ·simp only [Act.put, List.setIfInBounds_toArray, List.set_cons_zero, List.set_cons_succ, i64_w, i32_w]
       rfl
      refine pure_ (i := 9) (N := some 8) (v := ?_) (a' := ?_) #[true, true, true, true, true, true, true, true, true, true] rfl rfl (yn HT_.out (by kernel_rfl)) (fun _ _ _ h => h) (Or.inl ⟨by rfl, ?_⟩) ?_ ?_
      rotate_left
      ·intro w'
       go_simp
       with_reducible rfl
      rotate_left
      ·simp only [Act.put, List.setIfInBounds_toArray, List.set_cons_zero, List.set_cons_succ, i64_w, i32_w]
       rfl
      refine done_ (done_of HT_.out (by kernel_rfl)) ?_
      obtain ⟨hcz30_0, hcz30_1, hcz30_2, hcz30_3, hcz30_4, hcz30_5, hcz30_6, hcz30_7, hcz30_8, hcz30_9, hcz30_10, hcz30_11, hcz30_12, hcz30_13, hcz30_14, hcz30_15, hcz30_16⟩ := blk17 BK282.out
      obtain ⟨hfz30_0, hfz30_1, hfz30_2, hfz30_3, hfz30_4, hfz30_5, hfz30_6, hfz30_7, hfz30_8, hfz30_9, hfz30_10, hfz30_11, hfz30_12, hfz30_13, hfz30_14, hfz30_15, hfz30_16⟩ := frz17 BK282.out
      try go_wp2
      go_ret
      exact ⟨by first | rfl | (simp [zA, zz] <;> rfl) | (simp [*, zA, zz] <;> rfl), by repeat (first | exact ub HB.out | apply zd | apply zc | apply ze | refine zh ?_ ‹_›)⟩
     ·rw [if_neg c24] at H
      have c24b0 : (a0_3.toList == ([61] : List UInt8)) = false := beq_eq_false_iff_ne.mpr c24
      have c24b1 : (a0_3.toList != ([61] : List UInt8)) = true := bne_iff_ne.mpr c24
      obtain rfl := Option.some.inj H
      go_enter Try.func29, Try.ntmps29
      try go_wp2_with (first | ((with_reducible refine zQ (N := 2) rfl ?_); refine zM ?hg (N := 2) ?hd (cs := #[.int .i64 a0_0, .string a0_1, .slice A0_2 l0_2.length c0_2, .string a0_3, .string a0_4, .int .i64 a0_5, .int .i64 a0_6, .string a0_7, .string a0_8, .int .i64 a0_9, .int .i64 a0_10, .string a0_11, .string a0_12, .int .i64 a0_13, .int .i64 a0_14, .string a0_15, .slice A0_16 l0_16.length c0_16]) (t := 43) ?hr ?_; (case hd => rfl); (case hg => rfl); (case hr => first | (go_simp; done) | (go_simp; rfl)); intro gb282 hg w31 hbox hb; have n0_ := zb.mk (zn (ub HB.out) hb); have n1_ := zb.mk (hbox); have n2_ := zb.mk ((by rw [hg]; exact (zi (ub HB.out)) : w.heap.size ≤ gb282)); have n3_ := zb.mk ((by rw [hg]; exact (zi (ub HB.out)) : w.heap.size ≤ gb282)); clear HB; have HB := n0_; have BK282 := n1_; have GW282 := n2_; have GE282 := n3_; clear n0_ n1_ n2_ n3_; clear hb hbox hg; obtain ⟨hcz32_0, hcz32_1, hcz32_2, hcz32_3, hcz32_4, hcz32_5, hcz32_6, hcz32_7, hcz32_8, hcz32_9, hcz32_10, hcz32_11, hcz32_12, hcz32_13, hcz32_14, hcz32_15, hcz32_16⟩ := blk17 BK282.out; obtain ⟨hfz32_0, hfz32_1, hfz32_2, hfz32_3, hfz32_4, hfz32_5, hfz32_6, hfz32_7, hfz32_8, hfz32_9, hfz32_10, hfz32_11, hfz32_12, hfz32_13, hfz32_14, hfz32_15, hfz32_16⟩ := frz17 BK282.out))
      have n0_ := zb.mk (zD BK282.out)
      have n1_ := zb.mk (ze HB.out)
      clear BK282
      clear HB
      have BK282 := n0_
      have HB := n1_
      clear n0_ n1_
      refine start_ (n := 10) (S := fun w' => w'.cell? ⟨gb282, 0, none⟩ = some (.int .i64 a0_0) ∧ w'.cell? ⟨gb282, 1, none⟩ = some (.string a0_1) ∧ w'.cell? ⟨gb282, 2, none⟩ = some (.slice A0_2 l0_2.length c0_2) ∧ w'.cell? ⟨gb282, 3, none⟩ = some (.string a0_3) ∧ w'.cell? ⟨gb282, 4, none⟩ = some (.string a0_4) ∧ w'.cell? ⟨gb282, 5, none⟩ = some (.int .i64 a0_5) ∧ w'.cell? ⟨gb282, 6, none⟩ = some (.int .i64 a0_6) ∧ w'.cell? ⟨gb282, 7, none⟩ = some (.string a0_7) ∧ w'.cell? ⟨gb282, 8, none⟩ = some (.string a0_8) ∧ w'.cell? ⟨gb282, 9, none⟩ = some (.int .i64 a0_9) ∧ w'.cell? ⟨gb282, 10, none⟩ = some (.int .i64 a0_10) ∧ w'.cell? ⟨gb282, 11, none⟩ = some (.string a0_11) ∧ w'.cell? ⟨gb282, 12, none⟩ = some (.string a0_12) ∧ w'.cell? ⟨gb282, 13, none⟩ = some (.int .i64 a0_13) ∧ w'.cell? ⟨gb282, 14, none⟩ = some (.int .i64 a0_14) ∧ w'.cell? ⟨gb282, 15, none⟩ = some (.string a0_15) ∧ w'.cell? ⟨gb282, 16, none⟩ = some (.slice A0_16 l0_16.length c0_16)) (ds := []) #[false, false, false, false, false, false, false, false, false, false] (by kernel_rfl) rfl rfl ⟨(zf BK282.out 0).trans rfl, (zf BK282.out 1).trans rfl, (zf BK282.out 2).trans rfl, (zf BK282.out 3).trans rfl, (zf BK282.out 4).trans rfl, (zf BK282.out 5).trans rfl, (zf BK282.out 6).trans rfl, (zf BK282.out 7).trans rfl, (zf BK282.out 8).trans rfl, (zf BK282.out 9).trans rfl, (zf BK282.out 10).trans rfl, (zf BK282.out 11).trans rfl, (zf BK282.out 12).trans rfl, (zf BK282.out 13).trans rfl, (zf BK282.out 14).trans rfl, (zf BK282.out 15).trans rfl, (zf BK282.out 16).trans rfl⟩ (fun hHeld => ?_); refine qw zu.tab11 zu.bits11 (fun HT_ HW_ => ?_)
      generalize w31.drew = w33 at BK282 HB hHeld ⊢
      refine pure_ (i := 0) (N := some 30) (v := ?_) (a' := ?_) #[true, false, false, false, false, false, false, false, false, false] rfl rfl (yn HT_.out (by kernel_rfl)) (fun _ _ _ h => h) (Or.inl ⟨by rfl, ?_⟩) ?_ ?_
      rotate_left
      ·intro w'
       go_simp
       with_reducible rfl
      rotate_left
      ·simp only [Act.put, List.setIfInBounds_toArray, List.set_cons_zero, List.set_cons_succ, i64_w, i32_w]
       rfl
      refine pure_ (i := 2) (N := some 32) (v := ?_) (a' := ?_) #[true, false, true, false, false, false, false, false, false, false] rfl rfl (yn HT_.out (by kernel_rfl)) (fun _ _ _ h => h) (Or.inl ⟨by rfl, ?_⟩) ?_ ?_
      rotate_left
      ·intro w'
       go_simp
       with_reducible rfl
      rotate_left
      ·simp only [Act.put, List.setIfInBounds_toArray, List.set_cons_zero, List.set_cons_succ, i64_w, i32_w]
       rfl
      refine pure_ (i := 4) (N := some 34) (v := ?_) (a' := ?_) #[true, false, true, false, true, false, false, false, false, false] rfl rfl (yn HT_.out (by kernel_rfl)) (fun _ _ _ h => h) (Or.inl ⟨by rfl, ?_⟩) ?_ ?_
      rotate_left
      ·intro w'
       go_simp
       with_reducible rfl
      rotate_left
      ·simp only [Act.put, List.setIfInBounds_toArray, List.set_cons_zero, List.set_cons_succ, i64_w, i32_w]
       rfl
      refine pure_ (i := 6) (N := some 36) (v := ?_) (a' := ?_) #[true, false, true, false, true, false, true, false, false, false] rfl rfl (yn HT_.out (by kernel_rfl)) (fun _ _ _ h => h) (Or.inl ⟨by rfl, ?_⟩) ?_ ?_
      rotate_left
      ·intro w'
       go_simp
       with_reducible rfl
      rotate_left
      ·simp only [Act.put, List.setIfInBounds_toArray, List.set_cons_zero, List.set_cons_succ, i64_w, i32_w]
       rfl
      refine take_ (i := 1) (N := some 31) (v := ?_) (a' := ?_) #[true, true, true, false, true, false, true, false, false, false] rfl rfl (yF HT_.out HW_.out (by kernel_rfl)) (fun _ _ _ h => h) (Or.inl ⟨by rfl, ?_⟩) hHeld ?_ ?_
      rotate_left
      ·rintro w' ⟨s0, s1, s2, s3, s4, s5, s6, s7, s8, s9, s10, s11, s12, s13, s14, s15, s16⟩
       go_simp
       with_reducible rfl
      rotate_left
      ·simp only [Act.put, List.setIfInBounds_toArray, List.set_cons_zero, List.set_cons_succ, i64_w, i32_w]
       rfl
      refine take_ (i := 5) (N := some 35) (v := ?_) (a' := ?_) #[true, true, true, false, true, true, true, false, false, false] rfl rfl (yF HT_.out HW_.out (by kernel_rfl)) (fun _ _ _ h => h) (Or.inl ⟨by rfl, ?_⟩) hHeld ?_ ?_
      rotate_left
      ·rintro w' ⟨s0, s1, s2, s3, s4, s5, s6, s7, s8, s9, s10, s11, s12, s13, s14, s15, s16⟩
       go_simp
       with_reducible rfl
      rotate_left
      ·simp only [Act.put, List.setIfInBounds_toArray, List.set_cons_zero, List.set_cons_succ, i64_w, i32_w]
       rfl
      refine one_ (i := 3) (N := some 33) #[true, true, true, true, true, true, true, false, false, false] rfl rfl (ql HT_.out (by kernel_rfl)) (by decide) (fun K hK => ?_)
      refine goes_ Try.func43 (by kernel_rfl) rfl #[.agg #[.string a0_4, .int .i64 a0_5, .int .i64 a0_6, .string a0_7], .slice A1 l1.length c1] (by rfl) rfl rfl (by (try simp only [List.map_toArray, List.map_cons, List.map_nil]); first | done | rfl | (simp only [List.length_drop, List.length_take]; rfl)) ?_
      with_reducible refine (zF.calls k a0_4 a0_5 a0_6 a0_7 _ _ l1 true _ ?side1 ?side2 A15.out).mono ?_
      (case side1 => exact uc (Kd.zL HR1.out HB.out))
      (case side2 => exact HC1.out)
      rintro e w34 ⟨rfl, hb⟩
      refine ⟨_, rfl, ?_⟩
      have n0_ := zb.mk (zo (ul BK282.out) hb)
      have n1_ := zb.mk (zn (by repeat (first | exact ub HB.out | apply zd | apply zc | apply ze | refine zh ?_ ‹_›)) hb)
      clear BK282
      clear HB
      have BK282 := n0_
      have HB := n1_
      clear n0_ n1_
      (try clear hb)
      (try clear hb2)
      (try clear hk)
      (try clear hi)
      refine hK.out _ _ ⟨(zf BK282.out 0).trans rfl, (zf BK282.out 1).trans rfl, (zf BK282.out 2).trans rfl, (zf BK282.out 3).trans rfl, (zf BK282.out 4).trans rfl, (zf BK282.out 5).trans rfl, (zf BK282.out 6).trans rfl, (zf BK282.out 7).trans rfl, (zf BK282.out 8).trans rfl, (zf BK282.out 9).trans rfl, (zf BK282.out 10).trans rfl, (zf BK282.out 11).trans rfl, (zf BK282.out 12).trans rfl, (zf BK282.out 13).trans rfl, (zf BK282.out 14).trans rfl, (zf BK282.out 15).trans rfl, (zf BK282.out 16).trans rfl⟩ (fun hHeld => ?_)
      clear hK K
      refine norm_ (a' := ?_) ?_ ?_
      rotate_left
      ·show Act.put _ (some 33) _ = _
       simp only [Act.put, List.setIfInBounds_toArray, List.set_cons_zero, List.set_cons_succ, i64_w, i32_w]
       rfl
      refine one_ (i := 7) (N := some 37) #[true, true, true, true, true, true, true, true, false, false] rfl rfl (ql HT_.out (by kernel_rfl)) (by decide) (fun K hK => ?_)
      refine goes_ Try.func43 (by kernel_rfl) rfl #[.agg #[.string a0_8, .int .i64 a0_9, .int .i64 a0_10, .string a0_11], .slice A1 l1.length c1] (by rfl) rfl rfl (by (try simp only [List.map_toArray, List.map_cons, List.map_nil]); first | done | rfl | (simp only [List.length_drop, List.length_take]; rfl)) ?_
      with_reducible refine (zF.calls k a0_8 a0_9 a0_10 a0_11 _ _ l1 false _ ?side1 ?side2 A16.out).mono ?_
      (case side1 => exact uc (Kd.zL HR1.out HB.out))
      (case side2 => exact HC1.out)
      rintro e w35 ⟨rfl, hb⟩
      refine ⟨_, rfl, ?_⟩
      have n0_ := zb.mk (zo (ul BK282.out) hb)
      have n1_ := zb.mk (zn (by repeat (first | exact ub HB.out | apply zd | apply zc | apply ze | refine zh ?_ ‹_›)) hb)
      clear BK282
      clear HB
      have BK282 := n0_
      have HB := n1_
      clear n0_ n1_
      (try clear hb)
      (try clear hb2)
      (try clear hk)
      (try clear hi)
      refine hK.out _ _ ⟨(zf BK282.out 0).trans rfl, (zf BK282.out 1).trans rfl, (zf BK282.out 2).trans rfl, (zf BK282.out 3).trans rfl, (zf BK282.out 4).trans rfl, (zf BK282.out 5).trans rfl, (zf BK282.out 6).trans rfl, (zf BK282.out 7).trans rfl, (zf BK282.out 8).trans rfl, (zf BK282.out 9).trans rfl, (zf BK282.out 10).trans rfl, (zf BK282.out 11).trans rfl, (zf BK282.out 12).trans rfl, (zf BK282.out 13).trans rfl, (zf BK282.out 14).trans rfl, (zf BK282.out 15).trans rfl, (zf BK282.out 16).trans rfl⟩ (fun hHeld => ?_)
      clear hK K
      refine norm_ (a' := ?_) ?_ ?_
      rotate_left
      ·show Act.put _ (some 37) _ = _
       simp only [Act.put, List.setIfInBounds_toArray, List.set_cons_zero, List.set_cons_succ, i64_w, i32_w]
       rfl
      refine pure_ (i := 8) (N := some 7) (v := ?_) (a' := ?_) #[true, true, true, true, true, true, true, true, true, false] rfl rfl (yn HT_.out (by kernel_rfl)) (fun _ _ _ h => h) (Or.inl ⟨by rfl, ?_⟩) ?_ ?_
      rotate_left
      ·intro w'
       go_simp
       with_reducible rfl
      rotate_left
      ·simp only [Act.put, List.setIfInBounds_toArray, List.set_cons_zero, List.set_cons_succ, i64_w, i32_w]
       rfl
      refine pure_ (i := 9) (N := some 8) (v := ?_) (a' := ?_) #[true, true, true, true, true, true, true, true, true, true] rfl rfl (yn HT_.out (by kernel_rfl)) (fun _ _ _ h => h) (Or.inl ⟨by rfl, ?_⟩) ?_ ?_
      rotate_left
      ·intro w'
       go_simp
       with_reducible rfl
      rotate_left
      ·simp only [Act.put, List.setIfInBounds_toArray, List.set_cons_zero, List.set_cons_succ, i64_w, i32_w]
       rfl
      refine done_ (done_of HT_.out (by kernel_rfl)) ?_
      obtain ⟨hcz36_0, hcz36_1, hcz36_2, hcz36_3, hcz36_4, hcz36_5, hcz36_6, hcz36_7, hcz36_8, hcz36_9, hcz36_10, hcz36_11, hcz36_12, hcz36_13, hcz36_14, hcz36_15, hcz36_16⟩ := blk17 BK282.out
      obtain ⟨hfz36_0, hfz36_1, hfz36_2, hfz36_3, hfz36_4, hfz36_5, hfz36_6, hfz36_7, hfz36_8, hfz36_9, hfz36_10, hfz36_11, hfz36_12, hfz36_13, hfz36_14, hfz36_15, hfz36_16⟩ := frz17 BK282.out
      try go_wp2
      go_ret
      exact ⟨by first | rfl | (simp [zA, zz] <;> rfl) | (simp [*, zA, zz] <;> rfl), by repeat (first | exact ub HB.out | apply zd | apply zc | apply ze | refine zh ?_ ‹_›)⟩
   ·replace c17 := Bool.eq_false_iff.mpr c17
    subst c17
    have H1 : (if a0_3.toList = ([61] : List UInt8) then (some t289) else (some false)) = some r := by rw [if_neg (show ¬ (false = true) by decide)] at H; exact H
    clear H
    have H := H1
    clear H1
    by_cases c37 : a0_3.toList = ([61] : List UInt8)
    ·rw [if_pos c37] at H
     have c37b0 : (a0_3.toList == ([61] : List UInt8)) = true := beq_iff_eq.mpr c37
     have c37b1 : (a0_3.toList != ([61] : List UInt8)) = false := bne_eq_false_iff_eq.mpr c37
     clear c37
     obtain rfl := Option.some.inj H
     go_enter Try.func29, Try.ntmps29
     try go_wp2_with (first | ((with_reducible refine zQ (N := 2) rfl ?_); refine zM ?hg (N := 2) ?hd (cs := #[.int .i64 a0_0, .string a0_1, .slice A0_2 l0_2.length c0_2, .string a0_3, .string a0_4, .int .i64 a0_5, .int .i64 a0_6, .string a0_7, .string a0_8, .int .i64 a0_9, .int .i64 a0_10, .string a0_11, .string a0_12, .int .i64 a0_13, .int .i64 a0_14, .string a0_15, .slice A0_16 l0_16.length c0_16]) (t := 43) ?hr ?_; (case hd => rfl); (case hg => rfl); (case hr => first | (go_simp; done) | (go_simp; rfl)); intro gb282 hg w38 hbox hb; have n0_ := zb.mk (zn (ub HB.out) hb); have n1_ := zb.mk (hbox); have n2_ := zb.mk ((by rw [hg]; exact (zi (ub HB.out)) : w.heap.size ≤ gb282)); have n3_ := zb.mk ((by rw [hg]; exact (zi (ub HB.out)) : w.heap.size ≤ gb282)); clear HB; have HB := n0_; have BK282 := n1_; have GW282 := n2_; have GE282 := n3_; clear n0_ n1_ n2_ n3_; clear hb hbox hg; obtain ⟨hcz39_0, hcz39_1, hcz39_2, hcz39_3, hcz39_4, hcz39_5, hcz39_6, hcz39_7, hcz39_8, hcz39_9, hcz39_10, hcz39_11, hcz39_12, hcz39_13, hcz39_14, hcz39_15, hcz39_16⟩ := blk17 BK282.out; obtain ⟨hfz39_0, hfz39_1, hfz39_2, hfz39_3, hfz39_4, hfz39_5, hfz39_6, hfz39_7, hfz39_8, hfz39_9, hfz39_10, hfz39_11, hfz39_12, hfz39_13, hfz39_14, hfz39_15, hfz39_16⟩ := frz17 BK282.out))
     have n0_ := zb.mk (zD BK282.out)
     have n1_ := zb.mk (ze HB.out)
     clear BK282
     clear HB
     have BK282 := n0_
     have HB := n1_
     clear n0_ n1_
     refine start_ (n := 10) (S := fun w' => w'.cell? ⟨gb282, 0, none⟩ = some (.int .i64 a0_0) ∧ w'.cell? ⟨gb282, 1, none⟩ = some (.string a0_1) ∧ w'.cell? ⟨gb282, 2, none⟩ = some (.slice A0_2 l0_2.length c0_2) ∧ w'.cell? ⟨gb282, 3, none⟩ = some (.string a0_3) ∧ w'.cell? ⟨gb282, 4, none⟩ = some (.string a0_4) ∧ w'.cell? ⟨gb282, 5, none⟩ = some (.int .i64 a0_5) ∧ w'.cell? ⟨gb282, 6, none⟩ = some (.int .i64 a0_6) ∧ w'.cell? ⟨gb282, 7, none⟩ = some (.string a0_7) ∧ w'.cell? ⟨gb282, 8, none⟩ = some (.string a0_8) ∧ w'.cell? ⟨gb282, 9, none⟩ = some (.int .i64 a0_9) ∧ w'.cell? ⟨gb282, 10, none⟩ = some (.int .i64 a0_10) ∧ w'.cell? ⟨gb282, 11, none⟩ = some (.string a0_11) ∧ w'.cell? ⟨gb282, 12, none⟩ = some (.string a0_12) ∧ w'.cell? ⟨gb282, 13, none⟩ = some (.int .i64 a0_13) ∧ w'.cell? ⟨gb282, 14, none⟩ = some (.int .i64 a0_14) ∧ w'.cell? ⟨gb282, 15, none⟩ = some (.string a0_15) ∧ w'.cell? ⟨gb282, 16, none⟩ = some (.slice A0_16 l0_16.length c0_16)) (ds := []) #[false, false, false, false, false, false, false, false, false, false] (by kernel_rfl) rfl rfl ⟨(zf BK282.out 0).trans rfl, (zf BK282.out 1).trans rfl, (zf BK282.out 2).trans rfl, (zf BK282.out 3).trans rfl, (zf BK282.out 4).trans rfl, (zf BK282.out 5).trans rfl, (zf BK282.out 6).trans rfl, (zf BK282.out 7).trans rfl, (zf BK282.out 8).trans rfl, (zf BK282.out 9).trans rfl, (zf BK282.out 10).trans rfl, (zf BK282.out 11).trans rfl, (zf BK282.out 12).trans rfl, (zf BK282.out 13).trans rfl, (zf BK282.out 14).trans rfl, (zf BK282.out 15).trans rfl, (zf BK282.out 16).trans rfl⟩ (fun hHeld => ?_); refine qw zu.tab11 zu.bits11 (fun HT_ HW_ => ?_)
     generalize w38.drew = w40 at BK282 HB hHeld ⊢
     refine pure_ (i := 0) (N := some 30) (v := ?_) (a' := ?_) #[true, false, false, false, false, false, false, false, false, false] rfl rfl (yn HT_.out (by kernel_rfl)) (fun _ _ _ h => h) (Or.inl ⟨by rfl, ?_⟩) ?_ ?_
     rotate_left
     ·intro w'
      go_simp
      with_reducible rfl
     rotate_left
     ·simp only [Act.put, List.setIfInBounds_toArray, List.set_cons_zero, List.set_cons_succ, i64_w, i32_w]
      rfl
     refine pure_ (i := 2) (N := some 32) (v := ?_) (a' := ?_) #[true, false, true, false, false, false, false, false, false, false] rfl rfl (yn HT_.out (by kernel_rfl)) (fun _ _ _ h => h) (Or.inl ⟨by rfl, ?_⟩) ?_ ?_
     rotate_left
     ·intro w'
      go_simp
      with_reducible rfl
     rotate_left
     ·simp only [Act.put, List.setIfInBounds_toArray, List.set_cons_zero, List.set_cons_succ, i64_w, i32_w]
      rfl
     refine pure_ (i := 4) (N := some 34) (v := ?_) (a' := ?_) #[true, false, true, false, true, false, false, false, false, false] rfl rfl (yn HT_.out (by kernel_rfl)) (fun _ _ _ h => h) (Or.inl ⟨by rfl, ?_⟩) ?_ ?_
     rotate_left
     ·intro w'
      go_simp
      with_reducible rfl
     rotate_left
     ·simp only [Act.put, List.setIfInBounds_toArray, List.set_cons_zero, List.set_cons_succ, i64_w, i32_w]
      rfl
     refine pure_ (i := 6) (N := some 36) (v := ?_) (a' := ?_) #[true, false, true, false, true, false, true, false, false, false] rfl rfl (yn HT_.out (by kernel_rfl)) (fun _ _ _ h => h) (Or.inl ⟨by rfl, ?_⟩) ?_ ?_
     rotate_left
     ·intro w'
      go_simp
      with_reducible rfl
     rotate_left
     ·simp only [Act.put, List.setIfInBounds_toArray, List.set_cons_zero, List.set_cons_succ, i64_w, i32_w]
      rfl
     refine take_ (i := 1) (N := some 31) (v := ?_) (a' := ?_) #[true, true, true, false, true, false, true, false, false, false] rfl rfl (yF HT_.out HW_.out (by kernel_rfl)) (fun _ _ _ h => h) (Or.inl ⟨by rfl, ?_⟩) hHeld ?_ ?_
     rotate_left
     ·rintro w' ⟨s0, s1, s2, s3, s4, s5, s6, s7, s8, s9, s10, s11, s12, s13, s14, s15, s16⟩
      go_simp
      with_reducible rfl
     rotate_left
     ·simp only [Act.put, List.setIfInBounds_toArray, List.set_cons_zero, List.set_cons_succ, i64_w, i32_w]
      rfl
     refine take_ (i := 5) (N := some 35) (v := ?_) (a' := ?_) #[true, true, true, false, true, true, true, false, false, false] rfl rfl (yF HT_.out HW_.out (by kernel_rfl)) (fun _ _ _ h => h) (Or.inl ⟨by rfl, ?_⟩) hHeld ?_ ?_
     rotate_left
     ·rintro w' ⟨s0, s1, s2, s3, s4, s5, s6, s7, s8, s9, s10, s11, s12, s13, s14, s15, s16⟩
      go_simp
      with_reducible rfl
     rotate_left
     ·simp only [Act.put, List.setIfInBounds_toArray, List.set_cons_zero, List.set_cons_succ, i64_w, i32_w]
      rfl
     refine one_ (i := 3) (N := some 33) #[true, true, true, true, true, true, true, false, false, false] rfl rfl (ql HT_.out (by kernel_rfl)) (by decide) (fun K hK => ?_)
     refine goes_ Try.func43 (by kernel_rfl) rfl #[.agg #[.string a0_4, .int .i64 a0_5, .int .i64 a0_6, .string a0_7], .slice A1 l1.length c1] (by rfl) rfl rfl (by (try simp only [List.map_toArray, List.map_cons, List.map_nil]); first | done | rfl | (simp only [List.length_drop, List.length_take]; rfl)) ?_
     with_reducible refine (zF.calls k a0_4 a0_5 a0_6 a0_7 _ _ l1 false _ ?side1 ?side2 A15.out).mono ?_
     (case side1 => exact uc (Kd.zL HR1.out HB.out))
     (case side2 => exact HC1.out)
     rintro e w41 ⟨rfl, hb⟩
     refine ⟨_, rfl, ?_⟩
     have n0_ := zb.mk (zo (ul BK282.out) hb)
     have n1_ := zb.mk (zn (by repeat (first | exact ub HB.out | apply zd | apply zc | apply ze | refine zh ?_ ‹_›)) hb)
     clear BK282
     clear HB
     have BK282 := n0_
     have HB := n1_
     clear n0_ n1_
     (try clear hb)
     (try clear hb2)
     (try clear hk)
     (try clear hi)
     refine hK.out _ _ ⟨(zf BK282.out 0).trans rfl, (zf BK282.out 1).trans rfl, (zf BK282.out 2).trans rfl, (zf BK282.out 3).trans rfl, (zf BK282.out 4).trans rfl, (zf BK282.out 5).trans rfl, (zf BK282.out 6).trans rfl, (zf BK282.out 7).trans rfl, (zf BK282.out 8).trans rfl, (zf BK282.out 9).trans rfl, (zf BK282.out 10).trans rfl, (zf BK282.out 11).trans rfl, (zf BK282.out 12).trans rfl, (zf BK282.out 13).trans rfl, (zf BK282.out 14).trans rfl, (zf BK282.out 15).trans rfl, (zf BK282.out 16).trans rfl⟩ (fun hHeld => ?_)
     clear hK K
     refine norm_ (a' := ?_) ?_ ?_
     rotate_left
     ·show Act.put _ (some 33) _ = _
      simp only [Act.put, List.setIfInBounds_toArray, List.set_cons_zero, List.set_cons_succ, i64_w, i32_w]
      rfl
     refine one_ (i := 7) (N := some 37) #[true, true, true, true, true, true, true, true, false, false] rfl rfl (ql HT_.out (by kernel_rfl)) (by decide) (fun K hK => ?_)
     refine goes_ Try.func43 (by kernel_rfl) rfl #[.agg #[.string a0_8, .int .i64 a0_9, .int .i64 a0_10, .string a0_11], .slice A1 l1.length c1] (by rfl) rfl rfl (by (try simp only [List.map_toArray, List.map_cons, List.map_nil]); first | done | rfl | (simp only [List.length_drop, List.length_take]; rfl)) ?_
     with_reducible refine (zF.calls k a0_8 a0_9 a0_10 a0_11 _ _ l1 t289 _ ?side1 ?side2 A16.out).mono ?_
     (case side1 => exact uc (Kd.zL HR1.out HB.out))
     (case side2 => exact HC1.out)
     rintro e w42 ⟨rfl, hb⟩
     refine ⟨_, rfl, ?_⟩
     have n0_ := zb.mk (zo (ul BK282.out) hb)
     have n1_ := zb.mk (zn (by repeat (first | exact ub HB.out | apply zd | apply zc | apply ze | refine zh ?_ ‹_›)) hb)
     clear BK282
     clear HB
     have BK282 := n0_
     have HB := n1_
     clear n0_ n1_
     (try clear hb)
     (try clear hb2)
     (try clear hk)
     (try clear hi)
     refine hK.out _ _ ⟨(zf BK282.out 0).trans rfl, (zf BK282.out 1).trans rfl, (zf BK282.out 2).trans rfl, (zf BK282.out 3).trans rfl, (zf BK282.out 4).trans rfl, (zf BK282.out 5).trans rfl, (zf BK282.out 6).trans rfl, (zf BK282.out 7).trans rfl, (zf BK282.out 8).trans rfl, (zf BK282.out 9).trans rfl, (zf BK282.out 10).trans rfl, (zf BK282.out 11).trans rfl, (zf BK282.out 12).trans rfl, (zf BK282.out 13).trans rfl, (zf BK282.out 14).trans rfl, (zf BK282.out 15).trans rfl, (zf BK282.out 16).trans rfl⟩ (fun hHeld => ?_)
     clear hK K
     refine norm_ (a' := ?_) ?_ ?_
     rotate_left
     ·show Act.put _ (some 37) _ = _
      simp only [Act.put, List.setIfInBounds_toArray, List.set_cons_zero, List.set_cons_succ, i64_w, i32_w]
      rfl
     refine pure_ (i := 8) (N := some 7) (v := ?_) (a' := ?_) #[true, true, true, true, true, true, true, true, true, false] rfl rfl (yn HT_.out (by kernel_rfl)) (fun _ _ _ h => h) (Or.inl ⟨by rfl, ?_⟩) ?_ ?_
     rotate_left
     ·intro w'
      go_simp
      with_reducible rfl
     rotate_left
     ·simp only [Act.put, List.setIfInBounds_toArray, List.set_cons_zero, List.set_cons_succ, i64_w, i32_w]
      rfl
     refine pure_ (i := 9) (N := some 8) (v := ?_) (a' := ?_) #[true, true, true, true, true, true, true, true, true, true] rfl rfl (yn HT_.out (by kernel_rfl)) (fun _ _ _ h => h) (Or.inl ⟨by rfl, ?_⟩) ?_ ?_
     rotate_left
     ·intro w'
      go_simp
      with_reducible rfl
     rotate_left
     ·simp only [Act.put, List.setIfInBounds_toArray, List.set_cons_zero, List.set_cons_succ, i64_w, i32_w]
      rfl
     refine done_ (done_of HT_.out (by kernel_rfl)) ?_
     obtain ⟨hcz43_0, hcz43_1, hcz43_2, hcz43_3, hcz43_4, hcz43_5, hcz43_6, hcz43_7, hcz43_8, hcz43_9, hcz43_10, hcz43_11, hcz43_12, hcz43_13, hcz43_14, hcz43_15, hcz43_16⟩ := blk17 BK282.out
     obtain ⟨hfz43_0, hfz43_1, hfz43_2, hfz43_3, hfz43_4, hfz43_5, hfz43_6, hfz43_7, hfz43_8, hfz43_9, hfz43_10, hfz43_11, hfz43_12, hfz43_13, hfz43_14, hfz43_15, hfz43_16⟩ := frz17 BK282.out
     try go_wp2
     go_ret
     exact ⟨by first | rfl | (simp [zA, zz] <;> rfl) | (simp [*, zA, zz] <;> rfl), by repeat (first | exact ub HB.out | apply zd | apply zc | apply ze | refine zh ?_ ‹_›)⟩
    ·rw [if_neg c37] at H
     have c37b0 : (a0_3.toList == ([61] : List UInt8)) = false := beq_eq_false_iff_ne.mpr c37
     have c37b1 : (a0_3.toList != ([61] : List UInt8)) = true := bne_iff_ne.mpr c37
     obtain rfl := Option.some.inj H
     go_enter Try.func29, Try.ntmps29
     try go_wp2_with (first | ((with_reducible refine zQ (N := 2) rfl ?_); refine zM ?hg (N := 2) ?hd (cs := #[.int .i64 a0_0, .string a0_1, .slice A0_2 l0_2.length c0_2, .string a0_3, .string a0_4, .int .i64 a0_5, .int .i64 a0_6, .string a0_7, .string a0_8, .int .i64 a0_9, .int .i64 a0_10, .string a0_11, .string a0_12, .int .i64 a0_13, .int .i64 a0_14, .string a0_15, .slice A0_16 l0_16.length c0_16]) (t := 43) ?hr ?_; (case hd => rfl); (case hg => rfl); (case hr => first | (go_simp; done) | (go_simp; rfl)); intro gb282 hg w44 hbox hb; have n0_ := zb.mk (zn (ub HB.out) hb); have n1_ := zb.mk (hbox); have n2_ := zb.mk ((by rw [hg]; exact (zi (ub HB.out)) : w.heap.size ≤ gb282)); have n3_ := zb.mk ((by rw [hg]; exact (zi (ub HB.out)) : w.heap.size ≤ gb282)); clear HB; have HB := n0_; have BK282 := n1_; have GW282 := n2_; have GE282 := n3_; clear n0_ n1_ n2_ n3_; clear hb hbox hg; obtain ⟨hcz45_0, hcz45_1, hcz45_2, hcz45_3, hcz45_4, hcz45_5, hcz45_6, hcz45_7, hcz45_8, hcz45_9, hcz45_10, hcz45_11, hcz45_12, hcz45_13, hcz45_14, hcz45_15, hcz45_16⟩ := blk17 BK282.out; obtain ⟨hfz45_0, hfz45_1, hfz45_2, hfz45_3, hfz45_4, hfz45_5, hfz45_6, hfz45_7, hfz45_8, hfz45_9, hfz45_10, hfz45_11, hfz45_12, hfz45_13, hfz45_14, hfz45_15, hfz45_16⟩ := frz17 BK282.out))
     have n0_ := zb.mk (zD BK282.out)
     have n1_ := zb.mk (ze HB.out)
     clear BK282
     clear HB
     have BK282 := n0_
     have HB := n1_
     clear n0_ n1_
     refine start_ (n := 10) (S := fun w' => w'.cell? ⟨gb282, 0, none⟩ = some (.int .i64 a0_0) ∧ w'.cell? ⟨gb282, 1, none⟩ = some (.string a0_1) ∧ w'.cell? ⟨gb282, 2, none⟩ = some (.slice A0_2 l0_2.length c0_2) ∧ w'.cell? ⟨gb282, 3, none⟩ = some (.string a0_3) ∧ w'.cell? ⟨gb282, 4, none⟩ = some (.string a0_4) ∧ w'.cell? ⟨gb282, 5, none⟩ = some (.int .i64 a0_5) ∧ w'.cell? ⟨gb282, 6, none⟩ = some (.int .i64 a0_6) ∧ w'.cell? ⟨gb282, 7, none⟩ = some (.string a0_7) ∧ w'.cell? ⟨gb282, 8, none⟩ = some (.string a0_8) ∧ w'.cell? ⟨gb282, 9, none⟩ = some (.int .i64 a0_9) ∧ w'.cell? ⟨gb282, 10, none⟩ = some (.int .i64 a0_10) ∧ w'.cell? ⟨gb282, 11, none⟩ = some (.string a0_11) ∧ w'.cell? ⟨gb282, 12, none⟩ = some (.string a0_12) ∧ w'.cell? ⟨gb282, 13, none⟩ = some (.int .i64 a0_13) ∧ w'.cell? ⟨gb282, 14, none⟩ = some (.int .i64 a0_14) ∧ w'.cell? ⟨gb282, 15, none⟩ = some (.string a0_15) ∧ w'.cell? ⟨gb282, 16, none⟩ = some (.slice A0_16 l0_16.length c0_16)) (ds := []) #[false, false, false, false, false, false, false, false, false, false] (by kernel_rfl) rfl rfl ⟨(zf BK282.out 0).trans rfl, (zf BK282.out 1).trans rfl, (zf BK282.out 2).trans rfl, (zf BK282.out 3).trans rfl, (zf BK282.out 4).trans rfl, (zf BK282.out 5).trans rfl, (zf BK282.out 6).trans rfl, (zf BK282.out 7).trans rfl, (zf BK282.out 8).trans rfl, (zf BK282.out 9).trans rfl, (zf BK282.out 10).trans rfl, (zf BK282.out 11).trans rfl, (zf BK282.out 12).trans rfl, (zf BK282.out 13).trans rfl, (zf BK282.out 14).trans rfl, (zf BK282.out 15).trans rfl, (zf BK282.out 16).trans rfl⟩ (fun hHeld => ?_); refine qw zu.tab11 zu.bits11 (fun HT_ HW_ => ?_)
     generalize w44.drew = w46 at BK282 HB hHeld ⊢
     refine pure_ (i := 0) (N := some 30) (v := ?_) (a' := ?_) #[true, false, false, false, false, false, false, false, false, false] rfl rfl (yn HT_.out (by kernel_rfl)) (fun _ _ _ h => h) (Or.inl ⟨by rfl, ?_⟩) ?_ ?_
     rotate_left
     ·intro w'
      go_simp
      with_reducible rfl
     rotate_left
     ·simp only [Act.put, List.setIfInBounds_toArray, List.set_cons_zero, List.set_cons_succ, i64_w, i32_w]
      rfl
     refine pure_ (i := 2) (N := some 32) (v := ?_) (a' := ?_) #[true, false, true, false, false, false, false, false, false, false] rfl rfl (yn HT_.out (by kernel_rfl)) (fun _ _ _ h => h) (Or.inl ⟨by rfl, ?_⟩) ?_ ?_
     rotate_left
     ·intro w'
      go_simp
      with_reducible rfl
     rotate_left
     ·simp only [Act.put, List.setIfInBounds_toArray, List.set_cons_zero, List.set_cons_succ, i64_w, i32_w]
      rfl
     refine pure_ (i := 4) (N := some 34) (v := ?_) (a' := ?_) #[true, false, true, false, true, false, false, false, false, false] rfl rfl (yn HT_.out (by kernel_rfl)) (fun _ _ _ h => h) (Or.inl ⟨by rfl, ?_⟩) ?_ ?_
     rotate_left
     ·intro w'
      go_simp
      with_reducible rfl
     rotate_left
     ·simp only [Act.put, List.setIfInBounds_toArray, List.set_cons_zero, List.set_cons_succ, i64_w, i32_w]
      rfl
     refine pure_ (i := 6) (N := some 36) (v := ?_) (a' := ?_) #[true, false, true, false, true, false, true, false, false, false] rfl rfl (yn HT_.out (by kernel_rfl)) (fun _ _ _ h => h) (Or.inl ⟨by rfl, ?_⟩) ?_ ?_
     rotate_left
     ·intro w'
      go_simp
      with_reducible rfl
     rotate_left
     ·simp only [Act.put, List.setIfInBounds_toArray, List.set_cons_zero, List.set_cons_succ, i64_w, i32_w]
      rfl
     refine take_ (i := 1) (N := some 31) (v := ?_) (a' := ?_) #[true, true, true, false, true, false, true, false, false, false] rfl rfl (yF HT_.out HW_.out (by kernel_rfl)) (fun _ _ _ h => h) (Or.inl ⟨by rfl, ?_⟩) hHeld ?_ ?_
     rotate_left
     ·rintro w' ⟨s0, s1, s2, s3, s4, s5, s6, s7, s8, s9, s10, s11, s12, s13, s14, s15, s16⟩
      go_simp
      with_reducible rfl
     rotate_left
     ·simp only [Act.put, List.setIfInBounds_toArray, List.set_cons_zero, List.set_cons_succ, i64_w, i32_w]
      rfl
     refine take_ (i := 5) (N := some 35) (v := ?_) (a' := ?_) #[true, true, true, false, true, true, true, false, false, false] rfl rfl (yF HT_.out HW_.out (by kernel_rfl)) (fun _ _ _ h => h) (Or.inl ⟨by rfl, ?_⟩) hHeld ?_ ?_
     rotate_left
     ·rintro w' ⟨s0, s1, s2, s3, s4, s5, s6, s7, s8, s9, s10, s11, s12, s13, s14, s15, s16⟩
      go_simp
      with_reducible rfl
     rotate_left
     ·simp only [Act.put, List.setIfInBounds_toArray, List.set_cons_zero, List.set_cons_succ, i64_w, i32_w]
      rfl
     refine one_ (i := 3) (N := some 33) #[true, true, true, true, true, true, true, false, false, false] rfl rfl (ql HT_.out (by kernel_rfl)) (by decide) (fun K hK => ?_)
     refine goes_ Try.func43 (by kernel_rfl) rfl #[.agg #[.string a0_4, .int .i64 a0_5, .int .i64 a0_6, .string a0_7], .slice A1 l1.length c1] (by rfl) rfl rfl (by (try simp only [List.map_toArray, List.map_cons, List.map_nil]); first | done | rfl | (simp only [List.length_drop, List.length_take]; rfl)) ?_
     with_reducible refine (zF.calls k a0_4 a0_5 a0_6 a0_7 _ _ l1 false _ ?side1 ?side2 A15.out).mono ?_
     (case side1 => exact uc (Kd.zL HR1.out HB.out))
     (case side2 => exact HC1.out)
     rintro e w47 ⟨rfl, hb⟩
     refine ⟨_, rfl, ?_⟩
     have n0_ := zb.mk (zo (ul BK282.out) hb)
     have n1_ := zb.mk (zn (by repeat (first | exact ub HB.out | apply zd | apply zc | apply ze | refine zh ?_ ‹_›)) hb)
     clear BK282
     clear HB
     have BK282 := n0_
     have HB := n1_
     clear n0_ n1_
     (try clear hb)
     (try clear hb2)
     (try clear hk)
     (try clear hi)
     refine hK.out _ _ ⟨(zf BK282.out 0).trans rfl, (zf BK282.out 1).trans rfl, (zf BK282.out 2).trans rfl, (zf BK282.out 3).trans rfl, (zf BK282.out 4).trans rfl, (zf BK282.out 5).trans rfl, (zf BK282.out 6).trans rfl, (zf BK282.out 7).trans rfl, (zf BK282.out 8).trans rfl, (zf BK282.out 9).trans rfl, (zf BK282.out 10).trans rfl, (zf BK282.out 11).trans rfl, (zf BK282.out 12).trans rfl, (zf BK282.out 13).trans rfl, (zf BK282.out 14).trans rfl, (zf BK282.out 15).trans rfl, (zf BK282.out 16).trans rfl⟩ (fun hHeld => ?_)
     clear hK K
     refine norm_ (a' := ?_) ?_ ?_
     rotate_left
     ·show Act.put _ (some 33) _ = _
      simp only [Act.put, List.setIfInBounds_toArray, List.set_cons_zero, List.set_cons_succ, i64_w, i32_w]
      rfl
     refine one_ (i := 7) (N := some 37) #[true, true, true, true, true, true, true, true, false, false] rfl rfl (ql HT_.out (by kernel_rfl)) (by decide) (fun K hK => ?_)
     refine goes_ Try.func43 (by kernel_rfl) rfl #[.agg #[.string a0_8, .int .i64 a0_9, .int .i64 a0_10, .string a0_11], .slice A1 l1.length c1] (by rfl) rfl rfl (by (try simp only [List.map_toArray, List.map_cons, List.map_nil]); first | done | rfl | (simp only [List.length_drop, List.length_take]; rfl)) ?_
     with_reducible refine (zF.calls k a0_8 a0_9 a0_10 a0_11 _ _ l1 t289 _ ?side1 ?side2 A16.out).mono ?_
     (case side1 => exact uc (Kd.zL HR1.out HB.out))
     (case side2 => exact HC1.out)
     rintro e w48 ⟨rfl, hb⟩
     refine ⟨_, rfl, ?_⟩
     have n0_ := zb.mk (zo (ul BK282.out) hb)
     have n1_ := zb.mk (zn (by repeat (first | exact ub HB.out | apply zd | apply zc | apply ze | refine zh ?_ ‹_›)) hb)
     clear BK282
     clear HB
     have BK282 := n0_
     have HB := n1_
     clear n0_ n1_
     (try clear hb)
     (try clear hb2)
     (try clear hk)
     (try clear hi)
     refine hK.out _ _ ⟨(zf BK282.out 0).trans rfl, (zf BK282.out 1).trans rfl, (zf BK282.out 2).trans rfl, (zf BK282.out 3).trans rfl, (zf BK282.out 4).trans rfl, (zf BK282.out 5).trans rfl, (zf BK282.out 6).trans rfl, (zf BK282.out 7).trans rfl, (zf BK282.out 8).trans rfl, (zf BK282.out 9).trans rfl, (zf BK282.out 10).trans rfl, (zf BK282.out 11).trans rfl, (zf BK282.out 12).trans rfl, (zf BK282.out 13).trans rfl, (zf BK282.out 14).trans rfl, (zf BK282.out 15).trans rfl, (zf BK282.out 16).trans rfl⟩ (fun hHeld => ?_)
     clear hK K
     refine norm_ (a' := ?_) ?_ ?_
     rotate_left
     ·show Act.put _ (some 37) _ = _
      simp only [Act.put, List.setIfInBounds_toArray, List.set_cons_zero, List.set_cons_succ, i64_w, i32_w]
      rfl
     refine pure_ (i := 8) (N := some 7) (v := ?_) (a' := ?_) #[true, true, true, true, true, true, true, true, true, false] rfl rfl (yn HT_.out (by kernel_rfl)) (fun _ _ _ h => h) (Or.inl ⟨by rfl, ?_⟩) ?_ ?_
     rotate_left
     ·intro w'
      go_simp
      with_reducible rfl
     rotate_left
     ·simp only [Act.put, List.setIfInBounds_toArray, List.set_cons_zero, List.set_cons_succ, i64_w, i32_w]
      rfl
     refine pure_ (i := 9) (N := some 8) (v := ?_) (a' := ?_) #[true, true, true, true, true, true, true, true, true, true] rfl rfl (yn HT_.out (by kernel_rfl)) (fun _ _ _ h => h) (Or.inl ⟨by rfl, ?_⟩) ?_ ?_
     rotate_left
     ·intro w'
      go_simp
      with_reducible rfl
     rotate_left
     ·simp only [Act.put, List.setIfInBounds_toArray, List.set_cons_zero, List.set_cons_succ, i64_w, i32_w]
      rfl
     refine done_ (done_of HT_.out (by kernel_rfl)) ?_
     obtain ⟨hcz49_0, hcz49_1, hcz49_2, hcz49_3, hcz49_4, hcz49_5, hcz49_6, hcz49_7, hcz49_8, hcz49_9, hcz49_10, hcz49_11, hcz49_12, hcz49_13, hcz49_14, hcz49_15, hcz49_16⟩ := blk17 BK282.out
     obtain ⟨hfz49_0, hfz49_1, hfz49_2, hfz49_3, hfz49_4, hfz49_5, hfz49_6, hfz49_7, hfz49_8, hfz49_9, hfz49_10, hfz49_11, hfz49_12, hfz49_13, hfz49_14, hfz49_15, hfz49_16⟩ := frz17 BK282.out
     try go_wp2
     go_ret
     exact ⟨by first | rfl | (simp [zA, zz] <;> rfl) | (simp [*, zA, zz] <;> rfl), by repeat (first | exact ub HB.out | apply zd | apply zc | apply ze | refine zh ?_ ‹_›)⟩
  ·rw [if_neg c14] at H
   have c14b0 : (a0_0 == 3) = false := beq_eq_false_iff_ne.mpr c14
   have c14b1 : (a0_0 != 3) = true := bne_iff_ne.mpr c14
   by_cases c50 : a0_0 = 4
   ·rw [if_pos c50] at H
    have c50b0 : (a0_0 == 4) = true := beq_iff_eq.mpr c50
    have c50b1 : (a0_0 != 4) = false := bne_eq_false_iff_eq.mpr c50
    clear c50
    replace H := Option.bind_eq_some_iff.mp H
    obtain ⟨t290, A510, H⟩ := H
    replace H : (if t290 = true then ((zF.f k a0_12 a0_13 a0_14 a0_15 l1).bind fun t291 => (some t291)) else (some false)) = some r := H
    have A51 := zb.mk A510
    clear A510
    by_cases c52 : t290 = true
    ·subst c52
     have H1 : ((zF.f k a0_12 a0_13 a0_14 a0_15 l1).bind fun t291 => (some t291)) = some r := by rw [if_pos rfl] at H; exact H
     clear H
     have H := H1
     clear H1
     replace H := Option.bind_eq_some_iff.mp H
     obtain ⟨t291, A530, H⟩ := H
     replace H : (some t291) = some r := H
     have A53 := zb.mk A530
     clear A530
     obtain rfl := Option.some.inj H
     go_enter Try.func29, Try.ntmps29
     go_wp2_with (first | ((with_reducible refine zQ (N := 2) rfl ?_); refine zM ?hg (N := 2) ?hd (cs := #[.int .i64 a0_0, .string a0_1, .slice A0_2 l0_2.length c0_2, .string a0_3, .string a0_4, .int .i64 a0_5, .int .i64 a0_6, .string a0_7, .string a0_8, .int .i64 a0_9, .int .i64 a0_10, .string a0_11, .string a0_12, .int .i64 a0_13, .int .i64 a0_14, .string a0_15, .slice A0_16 l0_16.length c0_16]) (t := 43) ?hr ?_; (case hd => rfl); (case hg => rfl); (case hr => first | (go_simp; done) | (go_simp; rfl)); intro gb282 hg w54 hbox hb; have n0_ := zb.mk (zn (ub HB.out) hb); have n1_ := zb.mk (hbox); have n2_ := zb.mk ((by rw [hg]; exact (zi (ub HB.out)) : w.heap.size ≤ gb282)); have n3_ := zb.mk ((by rw [hg]; exact (zi (ub HB.out)) : w.heap.size ≤ gb282)); clear HB; have HB := n0_; have BK282 := n1_; have GW282 := n2_; have GE282 := n3_; clear n0_ n1_ n2_ n3_; clear hb hbox hg; obtain ⟨hcz55_0, hcz55_1, hcz55_2, hcz55_3, hcz55_4, hcz55_5, hcz55_6, hcz55_7, hcz55_8, hcz55_9, hcz55_10, hcz55_11, hcz55_12, hcz55_13, hcz55_14, hcz55_15, hcz55_16⟩ := blk17 BK282.out; obtain ⟨hfz55_0, hfz55_1, hfz55_2, hfz55_3, hfz55_4, hfz55_5, hfz55_6, hfz55_7, hfz55_8, hfz55_9, hfz55_10, hfz55_11, hfz55_12, hfz55_13, hfz55_14, hfz55_15, hfz55_16⟩ := frz17 BK282.out) | ((with_reducible refine zP (f := 43) rfl ?_); refine yH (some 58) rfl rfl Try.func43 (by kernel_rfl) rfl #[.agg #[.string a0_8, .int .i64 a0_9, .int .i64 a0_10, .string a0_11], .slice A1 l1.length c1] rfl (by (try simp only [List.map_toArray, List.map_cons, List.map_nil]); first | done | rfl | (simp only [List.length_drop, List.length_take]; rfl)) ?_; (with_reducible refine (zF.calls k a0_8 a0_9 a0_10 a0_11 _ _ l1 true _ ?side1 ?side2 A51.out).mono ?_); (case side1 => exact uc (Kd.zL HR1.out HB.out)); (case side2 => exact HC1.out); rintro e w56 ⟨rfl, hb⟩; refine ⟨_, rfl, ?_⟩; have n0_ := zb.mk (zo (ul BK282.out) hb); have n1_ := zb.mk (zn (by repeat (first | exact ub HB.out | apply zd | apply zc | apply ze | refine zh ?_ ‹_›)) hb); clear BK282; clear HB; have BK282 := n0_; have HB := n1_; clear n0_ n1_; (try clear hb); (try clear hb2); (try clear hk); (try clear hi); obtain ⟨hcz57_0, hcz57_1, hcz57_2, hcz57_3, hcz57_4, hcz57_5, hcz57_6, hcz57_7, hcz57_8, hcz57_9, hcz57_10, hcz57_11, hcz57_12, hcz57_13, hcz57_14, hcz57_15, hcz57_16⟩ := blk17 BK282.out; obtain ⟨hfz57_0, hfz57_1, hfz57_2, hfz57_3, hfz57_4, hfz57_5, hfz57_6, hfz57_7, hfz57_8, hfz57_9, hfz57_10, hfz57_11, hfz57_12, hfz57_13, hfz57_14, hfz57_15, hfz57_16⟩ := frz17 BK282.out) | (go_at_call 43; (with_reducible refine (zF.calls k a0_12 a0_13 a0_14 a0_15 _ _ l1 t291 _ ?side1 ?side2 A53.out).mono ?_); (case side1 => exact uc (Kd.zL HR1.out HB.out)); (case side2 => exact HC1.out); rintro e w58 ⟨rfl, hb⟩; have n0_ := zb.mk (zo (ul BK282.out) hb); have n1_ := zb.mk (zn (by repeat (first | exact ub HB.out | apply zd | apply zc | apply ze | refine zh ?_ ‹_›)) hb); clear BK282; clear HB; have BK282 := n0_; have HB := n1_; clear n0_ n1_; (try clear hb); (try clear hb2); (try clear hk); (try clear hi)))
     go_ret
     exact ⟨by first | rfl | (simp [zA, zz] <;> rfl) | (simp [*, zA, zz] <;> rfl), by repeat (first | exact ub HB.out | apply zd | apply zc | apply ze | refine zh ?_ ‹_›)⟩
    ·replace c52 := Bool.eq_false_iff.mpr c52
     subst c52
     have H1 : (some false) = some r := by rw [if_neg (show ¬ (false = true) by decide)] at H; exact H
     clear H
     have H := H1
     clear H1
     obtain rfl := Option.some.inj H
     go_enter Try.func29, Try.ntmps29
     go_wp2_with (first | ((with_reducible refine zQ (N := 2) rfl ?_); refine zM ?hg (N := 2) ?hd (cs := #[.int .i64 a0_0, .string a0_1, .slice A0_2 l0_2.length c0_2, .string a0_3, .string a0_4, .int .i64 a0_5, .int .i64 a0_6, .string a0_7, .string a0_8, .int .i64 a0_9, .int .i64 a0_10, .string a0_11, .string a0_12, .int .i64 a0_13, .int .i64 a0_14, .string a0_15, .slice A0_16 l0_16.length c0_16]) (t := 43) ?hr ?_; (case hd => rfl); (case hg => rfl); (case hr => first | (go_simp; done) | (go_simp; rfl)); intro gb282 hg w59 hbox hb; have n0_ := zb.mk (zn (ub HB.out) hb); have n1_ := zb.mk (hbox); have n2_ := zb.mk ((by rw [hg]; exact (zi (ub HB.out)) : w.heap.size ≤ gb282)); have n3_ := zb.mk ((by rw [hg]; exact (zi (ub HB.out)) : w.heap.size ≤ gb282)); clear HB; have HB := n0_; have BK282 := n1_; have GW282 := n2_; have GE282 := n3_; clear n0_ n1_ n2_ n3_; clear hb hbox hg; obtain ⟨hcz60_0, hcz60_1, hcz60_2, hcz60_3, hcz60_4, hcz60_5, hcz60_6, hcz60_7, hcz60_8, hcz60_9, hcz60_10, hcz60_11, hcz60_12, hcz60_13, hcz60_14, hcz60_15, hcz60_16⟩ := blk17 BK282.out; obtain ⟨hfz60_0, hfz60_1, hfz60_2, hfz60_3, hfz60_4, hfz60_5, hfz60_6, hfz60_7, hfz60_8, hfz60_9, hfz60_10, hfz60_11, hfz60_12, hfz60_13, hfz60_14, hfz60_15, hfz60_16⟩ := frz17 BK282.out) | ((with_reducible refine zP (f := 43) rfl ?_); refine yH (some 58) rfl rfl Try.func43 (by kernel_rfl) rfl #[.agg #[.string a0_8, .int .i64 a0_9, .int .i64 a0_10, .string a0_11], .slice A1 l1.length c1] rfl (by (try simp only [List.map_toArray, List.map_cons, List.map_nil]); first | done | rfl | (simp only [List.length_drop, List.length_take]; rfl)) ?_; (with_reducible refine (zF.calls k a0_8 a0_9 a0_10 a0_11 _ _ l1 false _ ?side1 ?side2 A51.out).mono ?_); (case side1 => exact uc (Kd.zL HR1.out HB.out)); (case side2 => exact HC1.out); rintro e w61 ⟨rfl, hb⟩; refine ⟨_, rfl, ?_⟩; have n0_ := zb.mk (zo (ul BK282.out) hb); have n1_ := zb.mk (zn (by repeat (first | exact ub HB.out | apply zd | apply zc | apply ze | refine zh ?_ ‹_›)) hb); clear BK282; clear HB; have BK282 := n0_; have HB := n1_; clear n0_ n1_; (try clear hb); (try clear hb2); (try clear hk); (try clear hi)))
     go_ret
     exact ⟨by first | rfl | (simp [zA, zz] <;> rfl) | (simp [*, zA, zz] <;> rfl), by repeat (first | exact ub HB.out | apply zd | apply zc | apply ze | refine zh ?_ ‹_›)⟩
   ·rw [if_neg c50] at H
    have c50b0 : (a0_0 == 4) = false := beq_eq_false_iff_ne.mpr c50
    have c50b1 : (a0_0 != 4) = true := bne_iff_ne.mpr c50
    obtain rfl := Option.some.inj H
    go_enter Try.func29, Try.ntmps29
    go_wp2_with (first | ((with_reducible refine zQ (N := 2) rfl ?_); refine zM ?hg (N := 2) ?hd (cs := #[.int .i64 a0_0, .string a0_1, .slice A0_2 l0_2.length c0_2, .string a0_3, .string a0_4, .int .i64 a0_5, .int .i64 a0_6, .string a0_7, .string a0_8, .int .i64 a0_9, .int .i64 a0_10, .string a0_11, .string a0_12, .int .i64 a0_13, .int .i64 a0_14, .string a0_15, .slice A0_16 l0_16.length c0_16]) (t := 43) ?hr ?_; (case hd => rfl); (case hg => rfl); (case hr => first | (go_simp; done) | (go_simp; rfl)); intro gb282 hg w62 hbox hb; have n0_ := zb.mk (zn (ub HB.out) hb); have n1_ := zb.mk (hbox); have n2_ := zb.mk ((by rw [hg]; exact (zi (ub HB.out)) : w.heap.size ≤ gb282)); have n3_ := zb.mk ((by rw [hg]; exact (zi (ub HB.out)) : w.heap.size ≤ gb282)); clear HB; have HB := n0_; have BK282 := n1_; have GW282 := n2_; have GE282 := n3_; clear n0_ n1_ n2_ n3_; clear hb hbox hg; obtain ⟨hcz63_0, hcz63_1, hcz63_2, hcz63_3, hcz63_4, hcz63_5, hcz63_6, hcz63_7, hcz63_8, hcz63_9, hcz63_10, hcz63_11, hcz63_12, hcz63_13, hcz63_14, hcz63_15, hcz63_16⟩ := blk17 BK282.out; obtain ⟨hfz63_0, hfz63_1, hfz63_2, hfz63_3, hfz63_4, hfz63_5, hfz63_6, hfz63_7, hfz63_8, hfz63_9, hfz63_10, hfz63_11, hfz63_12, hfz63_13, hfz63_14, hfz63_15, hfz63_16⟩ := frz17 BK282.out))
    go_ret
    exact ⟨by first | rfl | (simp [zA, zz] <;> rfl) | (simp [*, zA, zz] <;> rfl), by repeat (first | exact ub HB.out | apply zd | apply zc | apply ze | refine zh ?_ ‹_›)⟩
end Go.Proofs.Ytmgbfgloegcloaa.Ps
