import Derived.Test.YtmgbfgloegcloaaZip
import Derived.Test.YtmgbfgloegcloaaPsD
namespace Go.Proofs.Ytmgbfgloegcloaa.Ps
open Go.RowKit Go.Proofs.YtmgbfgloegcloaaW.PrintWords Go.Proofs.YtmgbfgloegcloaaW.PrintLast Go.Proofs.YtmgbfgloegcloaaW.PrintMore
attribute [local go_sem] yD yB yR yQ ym yl yC yA
set_option linter.unusedVariables false
set_option linter.unusedSimpArgs false
set_option maxHeartbeats 8000000 in
set_option maxRecDepth 100000 in
theorem zK.calls (k : Nat) (A0 : Option Addr) (c0 : Nat) (l0 : List ByteArray) (a1 : ByteArray) (r : Bool) (w : World) (hr0 : Kd.C Kd.string w A0 l0.length l0) (hc0 : l0.length ≤ c0) (h : zK.f k l0 a1 = some r) :
  Calls Try.prog 18 #[.slice A0 l0.length c0, .string a1] w fun e w' => e = .returned (.bool r) ∧ yO w w' := by
 have HR0 := zb.mk hr0
 have HC0 := zb.mk hc0
 clear hr0 hc0
 have H : (zK.l0 k l0 a1 (l0.length : Int) 0) = some r := h
 clear h
 have H' := zb.mk H
 clear H
 go_enter Try.func18, Try.ntmps18
 go_wp2
 go_loopg [8] k (fun kq v8 w' => ∃ (x8_1 : Int), v8 = .int .i64 x8_1 ∧ zb (zK.l0 kq l0 a1 (l0.length : Int) x8_1 = some r) ∧ zb (kq ≤ k) ∧ yO w w')
 case atStart => exact ⟨(0), (by first | rfl | (simp; done) | (simp [*]; done)), H', ⟨Nat.le_refl _⟩, by repeat (first | exact yO.refl _ | apply yO.step)⟩
 case round =>
  clear H'
  try clear c1
  try clear p2
  obtain ⟨x8_1, rfl, HA, HK1, ⟨m1, rfl⟩⟩ := hrel
  cases gk with
  | zero => exact absurd HA.out (by simp [zK.l0])
  | succ k1 =>
   have H := HA.out
   clear HA
   simp only [zK.l0] at H
   by_cases c3 : x8_1 < (l0.length : Int)
   ·rw [if_pos c3] at H
    have c3b0 : decide (x8_1 < (l0.length : Int)) = true := decide_eq_true c3
    clear c3
    by_cases c4 : 0 ≤ x8_1
    ·rw [if_pos c4] at H
     have c4b0 : decide (0 ≤ x8_1) = true := decide_eq_true c4
     clear c4
     by_cases c5 : x8_1 < (l0.length : Int)
     ·rw [if_pos c5] at H
      have c5b0 : decide (x8_1 < (l0.length : Int)) = true := decide_eq_true c5
      clear c5
      by_cases c6 : (rdOf ByteArray.empty l0 x8_1).toList = a1.toList
      ·rw [if_pos c6] at H
       have c6b0 : ((rdOf ByteArray.empty l0 x8_1).toList == a1.toList) = true := beq_iff_eq.mpr c6
       have c6b1 : ((rdOf ByteArray.empty l0 x8_1).toList != a1.toList) = false := bne_eq_false_iff_eq.mpr c6
       clear c6
       obtain rfl := Option.some.inj H
       have p279 : 0 ≤ (x8_1 : Int) := zdd
       have q279 : x8_1 < (l0.length : Int) := zdd
       obtain ⟨ad279, e279, hx279_0⟩ := Kd.yX HR0.out x8_1 p279 q279
       cases e279
       replace p279 := eq_true p279
       replace q279 := eq_true q279
       go_wp2
       go_ret
       exact ⟨by first | rfl | (simp; done) | (simp [*]; done), by repeat (first | exact yO.refl _ | apply yO.step)⟩
      ·rw [if_neg c6] at H
       have c6b0 : ((rdOf ByteArray.empty l0 x8_1).toList == a1.toList) = false := beq_eq_false_iff_ne.mpr c6
       have c6b1 : ((rdOf ByteArray.empty l0 x8_1).toList != a1.toList) = true := bne_iff_ne.mpr c6
       have H' := zb.mk H
       clear H
       have p279 : 0 ≤ (x8_1 : Int) := zdd
       have q279 : x8_1 < (l0.length : Int) := zdd
       obtain ⟨ad279, e279, hx279_0⟩ := Kd.yX HR0.out x8_1 p279 q279
       cases e279
       replace p279 := eq_true p279
       replace q279 := eq_true q279
       go_wp2
       go_roundg k1
       case measure => have := HK1.out; omega
       case rel => exact ⟨(wrap64 (x8_1 + 1)), (by first | rfl | (simp; done) | (simp [*]; done)), H', ⟨by have := HK1.out; omega⟩, by repeat (first | exact yO.refl _ | apply yO.step)⟩
     ·rw [if_neg c5] at H
      exact absurd H (by simp)
    ·rw [if_neg c4] at H
     exact absurd H (by simp)
   ·rw [if_neg c3] at H
    have c3b0 : decide (x8_1 < (l0.length : Int)) = false := decide_eq_false c3
    clear c3
    obtain rfl := Option.some.inj H
    go_wp2
    go_ret
    exact ⟨by first | rfl | (simp; done) | (simp [*]; done), by repeat (first | exact yO.refl _ | apply yO.step)⟩
end Go.Proofs.Ytmgbfgloegcloaa.Ps
namespace Go.Proofs.Ytmgbfgloegcloaa.Ps
open Go.RowKit Go.Proofs.YtmgbfgloegcloaaW.PrintWords Go.Proofs.YtmgbfgloegcloaaW.PrintLast Go.Proofs.YtmgbfgloegcloaaW.PrintMore
attribute [local go_sem] yD yB yR yQ ym yl yC yA
set_option linter.unusedVariables false
set_option linter.unusedSimpArgs false
set_option maxHeartbeats 8000000 in
set_option maxRecDepth 100000 in
theorem zF.calls (k : Nat) (a0_0 : ByteArray) (a0_1 : Int) (a0_2 : Int) (a0_3 : ByteArray) (A1 : Option Addr) (c1 : Nat) (l1 : List ByteArray) (r : Bool) (w : World) (hr1 : Kd.C Kd.string w A1 l1.length l1) (hc1 : l1.length ≤ c1) (h : zF.f k a0_0 a0_1 a0_2 a0_3 l1 = some r) :
  Calls Try.prog 43 #[.agg #[.string a0_0, .int .i64 a0_1, .int .i64 a0_2, .string a0_3], .slice A1 l1.length c1] w fun e w' => e = .returned (.bool r) ∧ Below w.heap.size w w' := by
 have hu40 := Try.underlying40
 have HR1 := zb.mk hr1
 have HC1 := zb.mk hc1
 clear hr1 hc1
 have HB := zb.mk (Below.refl w.heap.size w)
 have H : (if a0_0.toList = ([] : List UInt8) then (some true) else ((zK.f k l1 a0_0).bind fun t281 => (some t281))) = some r := h
 clear h
 by_cases c3 : a0_0.toList = ([] : List UInt8)
 ·rw [if_pos c3] at H
  have c3b0 : (a0_0.toList == ([] : List UInt8)) = true := beq_iff_eq.mpr c3
  have c3b1 : (a0_0.toList != ([] : List UInt8)) = false := bne_eq_false_iff_eq.mpr c3
  clear c3
  obtain rfl := Option.some.inj H
  go_enter Try.func43, Try.ntmps43
  go_wp2_with (first | ((with_reducible refine zQ (N := 2) rfl ?_); refine zM ?hg (N := 2) ?hd (cs := #[.string a0_0, .int .i64 a0_1, .int .i64 a0_2, .string a0_3]) (t := 40) ?hr ?_; (case hd => rfl); (case hg => rfl); (case hr => first | (go_simp; done) | (go_simp; rfl)); intro gb280 hg w4 hbox hb; have n0_ := zb.mk (zn (ub HB.out) hb); have n1_ := zb.mk (hbox); have n2_ := zb.mk ((by rw [hg]; exact (zi (ub HB.out)) : w.heap.size ≤ gb280)); have n3_ := zb.mk ((by rw [hg]; exact (zi (ub HB.out)) : w.heap.size ≤ gb280)); clear HB; have HB := n0_; have BK280 := n1_; have GW280 := n2_; have GE280 := n3_; clear n0_ n1_ n2_ n3_; clear hb hbox hg; obtain ⟨hcz5_0, hcz5_1, hcz5_2, hcz5_3⟩ := blk4 BK280.out; obtain ⟨hfz5_0, hfz5_1, hfz5_2, hfz5_3⟩ := frz4 BK280.out))
  go_ret
  exact ⟨by first | rfl | (simp [zA, zz] <;> rfl) | (simp [*, zA, zz] <;> rfl), by repeat (first | exact ub HB.out | apply zd | apply zc | apply ze | refine zh ?_ ‹_›)⟩
 ·rw [if_neg c3] at H
  have c3b0 : (a0_0.toList == ([] : List UInt8)) = false := beq_eq_false_iff_ne.mpr c3
  have c3b1 : (a0_0.toList != ([] : List UInt8)) = true := bne_iff_ne.mpr c3
  replace H := Option.bind_eq_some_iff.mp H
  obtain ⟨t281, A60, H⟩ := H
  replace H : (some t281) = some r := H
  have A6 := zb.mk A60
  clear A60
  obtain rfl := Option.some.inj H
  go_enter Try.func43, Try.ntmps43
  go_wp2_with (first | ((with_reducible refine zQ (N := 2) rfl ?_); refine zM ?hg (N := 2) ?hd (cs := #[.string a0_0, .int .i64 a0_1, .int .i64 a0_2, .string a0_3]) (t := 40) ?hr ?_; (case hd => rfl); (case hg => rfl); (case hr => first | (go_simp; done) | (go_simp; rfl)); intro gb280 hg w7 hbox hb; have n0_ := zb.mk (zn (ub HB.out) hb); have n1_ := zb.mk (hbox); have n2_ := zb.mk ((by rw [hg]; exact (zi (ub HB.out)) : w.heap.size ≤ gb280)); have n3_ := zb.mk ((by rw [hg]; exact (zi (ub HB.out)) : w.heap.size ≤ gb280)); clear HB; have HB := n0_; have BK280 := n1_; have GW280 := n2_; have GE280 := n3_; clear n0_ n1_ n2_ n3_; clear hb hbox hg; obtain ⟨hcz8_0, hcz8_1, hcz8_2, hcz8_3⟩ := blk4 BK280.out; obtain ⟨hfz8_0, hfz8_1, hfz8_2, hfz8_3⟩ := frz4 BK280.out) | (go_at_call 18; (with_reducible refine (zK.calls k _ _ l1 a0_0 t281 _ ?side1 ?side2 A6.out).mono ?_); (case side1 => exact uc (Kd.zL HR1.out HB.out)); (case side2 => exact HC1.out); rintro e w' ⟨rfl, ⟨nd, rfl⟩⟩))
  go_ret
  exact ⟨by first | rfl | (simp [zA, zz] <;> rfl) | (simp [*, zA, zz] <;> rfl), by repeat (first | exact ub HB.out | apply zd | apply zc | apply ze | refine zh ?_ ‹_›)⟩
end Go.Proofs.Ytmgbfgloegcloaa.Ps
