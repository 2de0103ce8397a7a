import Derived.Test.YtmgbfgloegcloaaZip
import Derived.Test.YtmgbfgloegcloaaPtD
import Derived.Test.YtmgbfgloegcloaaPt26
import Derived.Test.YtmgbfgloegcloaaPt28
namespace Go.Proofs.Ytmgbfgloegcloaa.Ps
open Go.RowKit Go.Proofs.YtmgbfgloegcloaaW.PrintWords Go.Proofs.YtmgbfgloegcloaaW.PrintLast Go.Proofs.YtmgbfgloegcloaaW.PrintMore
attribute [local go_sem] yD yB yR yQ ym yl yC yA
set_option linter.unusedVariables false
set_option linter.unusedSimpArgs false
def zv.T6 : Bool × List (List Nat × List Nat) := (true, [([], []), ([0], [0]), ([], []), ([1, 2], [1, 2]), ([3], [3]), ([], []), ([5], [5]), ([], []), ([6, 7], [6, 7]), ([8], [8]), ([4, 9], [4, 9]), ([10], [10])])
def zv.B6 : List Nat := [0, 1, 0, 7, 15, 0, 32, 0, 224, 480, 1023, 2047]
theorem zv.tab6 : rtab .any (opsOf Try.f25 6) = zv.T6 := by kernel_rfl
theorem zv.bits6 : waitsOk zv.T6.2 zv.B6 = true := by kernel_rfl
set_option maxHeartbeats 8000000 in
set_option maxRecDepth 100000 in
theorem zv.calls (k : Nat) (A0_0 : Option Addr) (c0_0 : Nat) (l0_0 : List (S51)) (a0_1 : ByteArray) (A0_2 : Option Addr) (c0_2 : Nat) (l0_2 : List (S40)) (A1_0 : Option Addr) (c1_0 : Nat) (l1_0 : List (S51)) (a1_1 : ByteArray) (A1_2 : Option Addr) (c1_2 : Nat) (l1_2 : List (S40)) (r : Bool) (w : World) (hr0_0 : Kd.C k51 w A0_0 l0_0.length l0_0) (hc0_0 : l0_0.length ≤ c0_0) (hr0_2 : Kd.C k40 w A0_2 l0_2.length l0_2) (hc0_2 : l0_2.length ≤ c0_2) (hr1_0 : Kd.C k51 w A1_0 l1_0.length l1_0) (hc1_0 : l1_0.length ≤ c1_0) (hr1_2 : Kd.C k40 w A1_2 l1_2.length l1_2) (hc1_2 : l1_2.length ≤ c1_2) (h : zv.f k l0_0 a0_1 l0_2 l1_0 a1_1 l1_2 = some r) :
  Calls Try.prog 25 #[.agg #[.slice A0_0 l0_0.length c0_0, .string a0_1, .slice A0_2 l0_2.length c0_2], .agg #[.slice A1_0 l1_0.length c1_0, .string a1_1, .slice A1_2 l1_2.length c1_2]] w fun e w' => e = .returned (.bool r) ∧ Below w.heap.size w w' := by
 have hu59 := Try.underlying59
 have hu36 := Try.underlying36
 have hu51 := Try.underlying51
 have HR0_0 := zb.mk hr0_0
 have HC0_0 := zb.mk hc0_0
 clear hr0_0 hc0_0
 have HR0_2 := zb.mk hr0_2
 have HC0_2 := zb.mk hc0_2
 clear hr0_2 hc0_2
 have HR1_0 := zb.mk hr1_0
 have HC1_0 := zb.mk hc1_0
 clear hr1_0 hc1_0
 have HR1_2 := zb.mk hr1_2
 have HC1_2 := zb.mk hc1_2
 clear hr1_2 hc1_2
 have HB := zb.mk (Below.refl w.heap.size w)
 have H : (if (l0_0.length : Int) = (l1_0.length : Int) then ((zx.f k a0_1 l0_2 a1_1 l1_2).bind fun t575 => (zv.j0 k (!t575) l0_0 a0_1 l0_2 l1_0 a1_1 l1_2)) else (zv.j0 k true l0_0 a0_1 l0_2 l1_0 a1_1 l1_2)) = some r := h
 clear h
 have HC3 := zb.mk H
 clear H
 go_enter Try.func25, Try.ntmps25
 go_upto_region 1 with (first | ((with_reducible refine zQ (N := 2) rfl ?_); refine zM ?hg (N := 2) ?hd (cs := #[.slice A0_0 l0_0.length c0_0, .string a0_1, .slice A0_2 l0_2.length c0_2]) (t := 59) ?hr ?_; (case hd => rfl); (case hg => rfl); (case hr => first | (go_simp; done) | (go_simp; rfl)); intro gb573 hg w4 hbox hb; have n0_ := zb.mk (zn (ub HB.out) hb); have n1_ := zb.mk (hbox); have n2_ := zb.mk ((by rw [hg]; exact (zi (ub HB.out)) : w.heap.size ≤ gb573)); have n3_ := zb.mk ((by rw [hg]; exact (zi (ub HB.out)) : w.heap.size ≤ gb573)); clear HB; have HB := n0_; have BK573 := n1_; have GW573 := n2_; have GE573 := n3_; clear n0_ n1_ n2_ n3_; clear hb hbox hg) | ((with_reducible refine zQ (N := 3) rfl ?_); refine zM ?hg (N := 3) ?hd (cs := #[.slice A1_0 l1_0.length c1_0, .string a1_1, .slice A1_2 l1_2.length c1_2]) (t := 59) ?hr ?_; (case hd => rfl); (case hg => rfl); (case hr => first | (go_simp; done) | (go_simp; rfl)); intro gb574 hg w5 hbox hb; have n0_ := zb.mk (zo (ul BK573.out) hb); have n1_ := zb.mk (zn (by repeat (first | exact ub HB.out | apply zd | apply zc | apply ze | refine zh ?_ ‹_›)) hb); have n2_ := zb.mk (hbox); have n3_ := zb.mk ((by rw [hg]; exact (zi (by repeat (first | exact ub HB.out | apply zd | apply zc | apply ze | refine zh ?_ ‹_›))) : w.heap.size ≤ gb574)); have n4_ := zb.mk ((by rw [hg]; exact (zi (by repeat (first | exact ub HB.out | apply zd | apply zc | apply ze | refine zh ?_ ‹_›))) : w.heap.size ≤ gb574)); have n5_ := zb.mk ((by rw [hg]; exact Nat.ne_of_lt (zO (ul BK573.out)) : gb573 ≠ gb574)); have n6_ := zb.mk ((by rw [hg]; exact Nat.ne_of_gt (zO (ul BK573.out)) : gb574 ≠ gb573)); clear BK573; clear HB; have BK573 := n0_; have HB := n1_; have BK574 := n2_; have GW574 := n3_; have GE574 := n4_; have NB573_574 := n5_; have NB574_573 := n6_; clear n0_ n1_ n2_ n3_ n4_ n5_ n6_; clear hb hbox hg))
 (try simp only [Act.put, List.setIfInBounds_toArray, List.set_cons_zero, List.set_cons_succ])
 go_cut [20] (fun v20 wc => ∃ (kq : Nat) (x20_2 : Bool), v20 = .bool x20_2 ∧ zb (zv.j0 kq x20_2 l0_0 a0_1 l0_2 l1_0 a1_1 l1_2 = some r) ∧ zb (kq ≤ k) ∧ zb (wc.heap[gb573]? = some (.cells #[(.slice A0_0 l0_0.length c0_0), .string a0_1, (.slice A0_2 l0_2.length c0_2)] 59 (0, 0))) ∧ zb (wc.heap[gb574]? = some (.cells #[(.slice A1_0 l1_0.length c1_0), .string a1_1, (.slice A1_2 l1_2.length c1_2)] 59 (0, 0))) ∧ zb (Below w.heap.size w wc))
 case first =>
  have H := HC3.out
  clear HC3
  by_cases c6 : (l0_0.length : Int) = (l1_0.length : Int)
  ·rw [if_pos c6] at H
   have c6b0 : ((l0_0.length : Int) == (l1_0.length : Int)) = true := beq_iff_eq.mpr c6
   have c6b1 : ((l0_0.length : Int) != (l1_0.length : Int)) = false := bne_eq_false_iff_eq.mpr c6
   have c6b2 : (l0_0.length == l1_0.length) = true := by first | simpa using c6 | (simp at c6 ⊢; omega)
   clear c6
   (first | rw [c6b0] | (simp only [i64_w, i32_w]; rw [c6b0]) | skip)
   replace H := Option.bind_eq_some_iff.mp H
   obtain ⟨t575, A70, H⟩ := H
   replace H : (zv.j0 k (!t575) l0_0 a0_1 l0_2 l1_0 a1_1 l1_2) = some r := H
   have A7 := zb.mk A70
   clear A70
   have H' := zb.mk H
   clear H
   have hnb8 := NB573_574.out
   have hnc8 := NB574_573.out
   obtain ⟨hcz9_0, hcz9_1, hcz9_2⟩ := blk3 BK573.out
   obtain ⟨hfz9_0, hfz9_1, hfz9_2⟩ := frz3 BK573.out
   obtain ⟨hcz10_0, hcz10_1, hcz10_2⟩ := blk3 BK574.out
   obtain ⟨hfz10_0, hfz10_1, hfz10_2⟩ := frz3 BK574.out
   go_wp2_with (first | (go_at_call 36; (with_reducible refine (zx.calls k a0_1 _ _ l0_2 a1_1 _ _ l1_2 t575 _ ?side1 ?side2 ?side3 ?side4 A7.out).mono ?_); (case side1 => exact uc (Kd.zL HR0_2.out HB.out)); (case side2 => exact HC0_2.out); (case side3 => exact uc (Kd.zL HR1_2.out HB.out)); (case side4 => exact HC1_2.out); rintro e w11 ⟨rfl, hb⟩; have n0_ := zb.mk (zo (ul BK573.out) hb); have n1_ := zb.mk (zo (ul BK574.out) hb); have n2_ := zb.mk (zn (by repeat (first | exact ub HB.out | apply zd | apply zc | apply ze | refine zh ?_ ‹_›)) hb); clear BK573; clear BK574; clear HB; have BK573 := n0_; have BK574 := n1_; have HB := n2_; clear n0_ n1_ n2_; (try clear hb); (try clear hb2); (try clear hk); (try clear hi)))
   go_meet
   case rel => exact ⟨_, (!t575), (by first | rfl | (simp; done) | (simp [*]; done)), H', ⟨by first | omega | exact Nat.le_refl _⟩, ⟨ul BK573.out⟩, ⟨ul BK574.out⟩, ⟨by repeat (first | exact ub HB.out | apply zd | apply zc | apply ze | refine zh ?_ ‹_›)⟩⟩
  ·rw [if_neg c6] at H
   have c6b0 : ((l0_0.length : Int) == (l1_0.length : Int)) = false := beq_eq_false_iff_ne.mpr c6
   have c6b1 : ((l0_0.length : Int) != (l1_0.length : Int)) = true := bne_iff_ne.mpr c6
   have c6b2 : (l0_0.length == l1_0.length) = false := by first | simpa using c6 | (simp at c6 ⊢; omega)
   (first | rw [c6b0] | (simp only [i64_w, i32_w]; rw [c6b0]) | skip)
   have H' := zb.mk H
   clear H
   have hnb12 := NB573_574.out
   have hnc12 := NB574_573.out
   obtain ⟨hcz13_0, hcz13_1, hcz13_2⟩ := blk3 BK573.out
   obtain ⟨hfz13_0, hfz13_1, hfz13_2⟩ := frz3 BK573.out
   obtain ⟨hcz14_0, hcz14_1, hcz14_2⟩ := blk3 BK574.out
   obtain ⟨hfz14_0, hfz14_1, hfz14_2⟩ := frz3 BK574.out
   go_wp2
   go_meet
   case rel => exact ⟨_, (true), (by first | rfl | (simp; done) | (simp [*]; done)), H', ⟨by first | omega | exact Nat.le_refl _⟩, ⟨ul BK573.out⟩, ⟨ul BK574.out⟩, ⟨by repeat (first | exact ub HB.out | apply zd | apply zc | apply ze | refine zh ?_ ‹_›)⟩⟩
 case rest =>
  clear HC3
  try clear c1
  try clear c2
  try clear p2
  try clear c6
  try clear c6b0
  try clear c6b1
  try clear c6b2
  try clear c8
  try clear c12
  try clear hcz10_0 hcz10_1 hcz10_2
  try clear hcz13_0 hcz13_1 hcz13_2
  try clear hcz14_0 hcz14_1 hcz14_2
  try clear hcz9_0 hcz9_1 hcz9_2
  try clear hfz10_0 hfz10_1 hfz10_2
  try clear hfz13_0 hfz13_1 hfz13_2
  try clear hfz14_0 hfz14_1 hfz14_2
  try clear hfz9_0 hfz9_1 hfz9_2
  obtain ⟨kq, x20_2, rfl, HA, HJ2, BK573, BK574, HB⟩ := hcut
  cases kq with
  | zero => exact absurd HA.out (by simp [zv.j0])
  | succ kj2 =>
   have H := HA.out
   clear HA
   simp only [zv.j0] at H
   by_cases c15 : x20_2 = true
   ·subst c15
    have H1 : (none) = some r := by rw [if_pos rfl] at H; exact H
    clear H
    have H := H1
    clear H1
    exact absurd H (by simp)
   ·replace c15 := Bool.eq_false_iff.mpr c15
    subst c15
    have H1 : (zv.l0 kj2 (l0_0.length : Int) 0 l0_0 a0_1 l0_2 l1_0 a1_1 l1_2) = some r := by rw [if_neg (show ¬ (false = true) by decide)] at H; exact H
    clear H
    have H := H1
    clear H1
    have H' := zb.mk H
    clear H
    have hnb16 := NB573_574.out
    have hnc16 := NB574_573.out
    obtain ⟨hcz17_0, hcz17_1, hcz17_2⟩ := blk3 BK573.out
    obtain ⟨hfz17_0, hfz17_1, hfz17_2⟩ := frz3 BK573.out
    go_wp2
    go_loopg [24] kj2 (fun kq v24 w' => ∃ (x24_2 : Int), v24 = .int .i64 x24_2 ∧ zb (zv.l0 kq (l0_0.length : Int) x24_2 l0_0 a0_1 l0_2 l1_0 a1_1 l1_2 = some r) ∧ zb (kq ≤ kj2) ∧ zb (w'.heap[gb573]? = some (.cells #[(.slice A0_0 l0_0.length c0_0), .string a0_1, (.slice A0_2 l0_2.length c0_2)] 59 (0, 0))) ∧ zb (w'.heap[gb574]? = some (.cells #[(.slice A1_0 l1_0.length c1_0), .string a1_1, (.slice A1_2 l1_2.length c1_2)] 59 (0, 0))) ∧ zb (Below w.heap.size w w'))
    case atStart => exact ⟨(0), (by first | rfl | (simp; done) | (simp [*]; done)), H', ⟨Nat.le_refl _⟩, ⟨ul BK573.out⟩, ⟨ul BK574.out⟩, ⟨by repeat (first | exact ub HB.out | apply zd | apply zc | apply ze | refine zh ?_ ‹_›)⟩⟩
    case round =>
     clear H'
     try clear c1
     try clear c2
     try clear p2
     try clear c6
     try clear c6b0
     try clear c6b1
     try clear c6b2
     try clear c8
     try clear c12
     try clear c15
     try clear c16
     try clear hcz10_0 hcz10_1 hcz10_2
     try clear hcz13_0 hcz13_1 hcz13_2
     try clear hcz14_0 hcz14_1 hcz14_2
     try clear hcz17_0 hcz17_1 hcz17_2
     try clear hcz9_0 hcz9_1 hcz9_2
     try clear hfz10_0 hfz10_1 hfz10_2
     try clear hfz13_0 hfz13_1 hfz13_2
     try clear hfz14_0 hfz14_1 hfz14_2
     try clear hfz17_0 hfz17_1 hfz17_2
     try clear hfz9_0 hfz9_1 hfz9_2
     try clear p2
     obtain ⟨x24_2, rfl, HA, HK2, BK573, BK574, HB⟩ := hrel
     cases gk with
     | zero => exact absurd HA.out (by simp [zv.l0])
     | succ k2 =>
      have H := HA.out
      clear HA
      simp only [zv.l0] at H
      by_cases c18 : x24_2 < (l0_0.length : Int)
      ·rw [if_pos c18] at H
       have c18b0 : decide (x24_2 < (l0_0.length : Int)) = true := decide_eq_true c18
       clear c18
       by_cases c19 : 0 ≤ x24_2
       ·rw [if_pos c19] at H
        have c19b0 : decide (0 ≤ x24_2) = true := decide_eq_true c19
        clear c19
        by_cases c20 : x24_2 < (l0_0.length : Int)
        ·rw [if_pos c20] at H
         have c20b0 : decide (x24_2 < (l0_0.length : Int)) = true := decide_eq_true c20
         clear c20
         by_cases c21 : x24_2 < (l1_0.length : Int)
         ·rw [if_pos c21] at H
          have c21b0 : decide (x24_2 < (l1_0.length : Int)) = true := decide_eq_true c21
          clear c21
          replace H := Option.bind_eq_some_iff.mp H
          obtain ⟨t578, A220, H⟩ := H
          replace H : (if t578 = true then (zv.l0 k2 (l0_0.length : Int) (wrap64 (x24_2 + 1)) l0_0 a0_1 l0_2 l1_0 a1_1 l1_2) else (none)) = some r := H
          have A22 := zb.mk A220
          clear A220
          by_cases c23 : t578 = true
          ·subst c23
           have H1 : (zv.l0 k2 (l0_0.length : Int) (wrap64 (x24_2 + 1)) l0_0 a0_1 l0_2 l1_0 a1_1 l1_2) = some r := by rw [if_pos rfl] at H; exact H
           clear H
           have H := H1
           clear H1
           have H' := zb.mk H
           clear H
           try go_wp2
           have n0_ := zb.mk (zD BK573.out)
           have n1_ := zb.mk (zD BK574.out)
           have n2_ := zb.mk (ze HB.out)
           clear BK573
           clear BK574
           clear HB
           have BK573 := n0_
           have BK574 := n1_
           have HB := n2_
           clear n0_ n1_ n2_
           have p576 : 0 ≤ (x24_2 : Int) := zdd
           have q576 : x24_2 < (l0_0.length : Int) := zdd
           obtain ⟨ad576, A576_1, c576_1, A576_3, c576_3, e576, hx576_0, hx576_1, hx576_2, hx576_3, hl576_1, hi576_1, hl576_3, hi576_3⟩ := at_T51 HR0_0.out x24_2 p576 q576
           have hw576_3 := hx576_3
           have hw576_2 := hx576_2
           have hw576_1 := hx576_1
           have hw576_0 := hx576_0
           cases e576
           obtain ⟨hx576_0, hx576_1, hx576_2, hx576_3⟩ := lift4 HB.out hx576_0 hx576_1 hx576_2 hx576_3
           have HR576_1 := zb.mk hi576_1
           have HC576_1 := zb.mk hl576_1
           clear hi576_1 hl576_1
           have HR576_3 := zb.mk hi576_3
           have HC576_3 := zb.mk hl576_3
           clear hi576_3 hl576_3
           replace p576 := eq_true p576
           replace q576 := eq_true q576
           have p577 : 0 ≤ (x24_2 : Int) := zdd
           have q577 : x24_2 < (l1_0.length : Int) := zdd
           obtain ⟨ad577, A577_1, c577_1, A577_3, c577_3, e577, hx577_0, hx577_1, hx577_2, hx577_3, hl577_1, hi577_1, hl577_3, hi577_3⟩ := at_T51 HR1_0.out x24_2 p577 q577
           have hw577_3 := hx577_3
           have hw577_2 := hx577_2
           have hw577_1 := hx577_1
           have hw577_0 := hx577_0
           cases e577
           obtain ⟨hx577_0, hx577_1, hx577_2, hx577_3⟩ := lift4 HB.out hx577_0 hx577_1 hx577_2 hx577_3
           have HR577_1 := zb.mk hi577_1
           have HC577_1 := zb.mk hl577_1
           clear hi577_1 hl577_1
           have HR577_3 := zb.mk hi577_3
           have HC577_3 := zb.mk hl577_3
           clear hi577_3 hl577_3
           replace p577 := eq_true p577
           replace q577 := eq_true q577
           refine start_ (n := 12) (S := fun w' => w'.cell? ⟨gb573, 0, none⟩ = some (.slice (some ad576) l0_0.length c0_0) ∧ w'.cell? ⟨gb573, 1, none⟩ = some (.string a0_1) ∧ w'.cell? ⟨gb573, 2, none⟩ = some (.slice A0_2 l0_2.length c0_2) ∧ w'.cell? ⟨gb574, 0, none⟩ = some (.slice (some ad577) l1_0.length c1_0) ∧ w'.cell? ⟨gb574, 1, none⟩ = some (.string a1_1) ∧ w'.cell? ⟨gb574, 2, none⟩ = some (.slice A1_2 l1_2.length c1_2) ∧ w'.cell? (ad576.add ((x24_2).toNat * 4)) = some (.string ((zq l0_0 x24_2).f0.f0)) ∧ w'.cell? ⟨(ad576.add ((x24_2).toNat * 4)).block, (ad576.add ((x24_2).toNat * 4)).off + 1, none⟩ = some (.slice A576_1 ((zq l0_0 x24_2).f0.f1).length c576_1) ∧ w'.cell? ⟨(ad576.add ((x24_2).toNat * 4)).block, (ad576.add ((x24_2).toNat * 4)).off + 2, none⟩ = some (.int .i64 ((zq l0_0 x24_2).f1)) ∧ w'.cell? ⟨(ad576.add ((x24_2).toNat * 4)).block, (ad576.add ((x24_2).toNat * 4)).off + 3, none⟩ = some (.slice A576_3 ((zq l0_0 x24_2).f2).length c576_3) ∧ w'.cell? (ad577.add ((x24_2).toNat * 4)) = some (.string ((zq l1_0 x24_2).f0.f0)) ∧ w'.cell? ⟨(ad577.add ((x24_2).toNat * 4)).block, (ad577.add ((x24_2).toNat * 4)).off + 1, none⟩ = some (.slice A577_1 ((zq l1_0 x24_2).f0.f1).length c577_1) ∧ w'.cell? ⟨(ad577.add ((x24_2).toNat * 4)).block, (ad577.add ((x24_2).toNat * 4)).off + 2, none⟩ = some (.int .i64 ((zq l1_0 x24_2).f1)) ∧ w'.cell? ⟨(ad577.add ((x24_2).toNat * 4)).block, (ad577.add ((x24_2).toNat * 4)).off + 3, none⟩ = some (.slice A577_3 ((zq l1_0 x24_2).f2).length c577_3)) (ds := []) #[false, false, false, false, false, false, false, false, false, false, false, false] (by kernel_rfl) rfl rfl ⟨(zf BK573.out 0).trans rfl, (zf BK573.out 1).trans rfl, (zf BK573.out 2).trans rfl, (zf BK574.out 0).trans rfl, (zf BK574.out 1).trans rfl, (zf BK574.out 2).trans rfl, (zg HB.out hw576_0), (zg HB.out hw576_1), (zg HB.out hw576_2), (zg HB.out hw576_3), (zg HB.out hw577_0), (zg HB.out hw577_1), (zg HB.out hw577_2), (zg HB.out hw577_3)⟩ (fun hHeld => ?_); refine qw zv.tab6 zv.bits6 (fun HT_ HW_ => ?_)
           generalize wr.drew = w24 at BK573 BK574 HB HR576_1 HR576_3 HR577_1 HR577_3 hx576_0 hx576_1 hx576_2 hx576_3 hx577_0 hx577_1 hx577_2 hx577_3 hHeld ⊢
           refine pure_ (i := 0) (N := some 27) (v := ?_) (a' := ?_) #[true, false, false, false, false, false, false, false, false, false, false, false] rfl rfl (yn HT_.out (by kernel_rfl)) (fun _ _ _ h => h) (Or.inl ⟨by rfl, ?_⟩) ?_ ?_
           rotate_left
           ·intro w'
            go_simp
            with_reducible rfl
           rotate_left
           ·simp only [Act.put, List.setIfInBounds_toArray, List.set_cons_zero, List.set_cons_succ, i64_w, i32_w]
            rfl
           refine pure_ (i := 2) (N := some 29) (v := ?_) (a' := ?_) #[true, false, true, false, false, false, false, false, false, false, false, false] rfl rfl (yn HT_.out (by kernel_rfl)) (fun _ _ _ h => h) (Or.inl ⟨by rfl, ?_⟩) ?_ ?_
           rotate_left
           ·intro w'
            go_simp
            with_reducible rfl
           rotate_left
           ·simp only [Act.put, List.setIfInBounds_toArray, List.set_cons_zero, List.set_cons_succ, i64_w, i32_w]
            rfl
           refine pure_ (i := 5) (N := some 32) (v := ?_) (a' := ?_) #[true, false, true, false, false, true, false, false, false, false, false, false] rfl rfl (yn HT_.out (by kernel_rfl)) (fun _ _ _ h => h) (Or.inl ⟨by rfl, ?_⟩) ?_ ?_
           rotate_left
           ·intro w'
            go_simp
            with_reducible rfl
           rotate_left
           ·simp only [Act.put, List.setIfInBounds_toArray, List.set_cons_zero, List.set_cons_succ, i64_w, i32_w]
            rfl
           refine pure_ (i := 7) (N := some 34) (v := ?_) (a' := ?_) #[true, false, true, false, false, true, false, true, false, false, false, false] rfl rfl (yn HT_.out (by kernel_rfl)) (fun _ _ _ h => h) (Or.inl ⟨by rfl, ?_⟩) ?_ ?_
           rotate_left
           ·intro w'
            go_simp
            with_reducible rfl
           rotate_left
           ·simp only [Act.put, List.setIfInBounds_toArray, List.set_cons_zero, List.set_cons_succ, i64_w, i32_w]
            rfl
           refine take_ (i := 1) (N := some 28) (v := ?_) (a' := ?_) #[true, true, true, false, false, true, false, true, false, false, false, false] rfl rfl (yF HT_.out HW_.out (by kernel_rfl)) (fun _ _ _ h => h) (Or.inl ⟨by rfl, ?_⟩) hHeld ?_ ?_
           rotate_left
           ·rintro w' ⟨s0, s1, s2, s3, s4, s5, s6, s7, s8, s9, s10, s11, s12, s13⟩
            go_simp
            with_reducible rfl
           rotate_left
           ·simp only [Act.put, List.setIfInBounds_toArray, List.set_cons_zero, List.set_cons_succ, i64_w, i32_w]
            rfl
           refine pure_ (i := 3) (N := some 30) (v := ?_) (a' := ?_) #[true, true, true, true, false, true, false, true, false, false, false, false] rfl rfl (yn HT_.out (by kernel_rfl)) (fun _ _ _ h => h) (Or.inl ⟨by rfl, ?_⟩) ?_ ?_
           rotate_left
           ·intro w'
            go_simp
            with_reducible rfl
           rotate_left
           ·simp only [Act.put, List.setIfInBounds_toArray, List.set_cons_zero, List.set_cons_succ, i64_w, i32_w]
            rfl
           refine take_ (i := 4) (N := some 31) (v := ?_) (a' := ?_) #[true, true, true, true, true, true, false, true, false, false, false, false] rfl rfl (yF HT_.out HW_.out (by kernel_rfl)) (fun _ _ _ h => h) (Or.inl ⟨by rfl, ?_⟩) hHeld ?_ ?_
           rotate_left
           ·rintro w' ⟨s0, s1, s2, s3, s4, s5, s6, s7, s8, s9, s10, s11, s12, s13⟩
            go_simp
            with_reducible rfl
           rotate_left
           ·simp only [Act.put, List.setIfInBounds_toArray, List.set_cons_zero, List.set_cons_succ, i64_w, i32_w]
            rfl
           refine take_ (i := 6) (N := some 33) (v := ?_) (a' := ?_) #[true, true, true, true, true, true, true, true, false, false, false, false] rfl rfl (yF HT_.out HW_.out (by kernel_rfl)) (fun _ _ _ h => h) (Or.inl ⟨by rfl, ?_⟩) hHeld ?_ ?_
           rotate_left
           ·rintro w' ⟨s0, s1, s2, s3, s4, s5, s6, s7, s8, s9, s10, s11, s12, s13⟩
            go_simp
            with_reducible rfl
           rotate_left
           ·simp only [Act.put, List.setIfInBounds_toArray, List.set_cons_zero, List.set_cons_succ, i64_w, i32_w]
            rfl
           refine pure_ (i := 8) (N := some 35) (v := ?_) (a' := ?_) #[true, true, true, true, true, true, true, true, true, false, false, false] rfl rfl (yn HT_.out (by kernel_rfl)) (fun _ _ _ h => h) (Or.inl ⟨by rfl, ?_⟩) ?_ ?_
           rotate_left
           ·intro w'
            go_simp
            with_reducible rfl
           rotate_left
           ·simp only [Act.put, List.setIfInBounds_toArray, List.set_cons_zero, List.set_cons_succ, i64_w, i32_w]
            rfl
           refine take_ (i := 9) (N := some 36) (v := ?_) (a' := ?_) #[true, true, true, true, true, true, true, true, true, true, false, false] rfl rfl (yF HT_.out HW_.out (by kernel_rfl)) (fun _ _ _ h => h) (Or.inl ⟨by rfl, ?_⟩) hHeld ?_ ?_
           rotate_left
           ·rintro w' ⟨s0, s1, s2, s3, s4, s5, s6, s7, s8, s9, s10, s11, s12, s13⟩
            go_simp
            with_reducible rfl
           rotate_left
           ·simp only [Act.put, List.setIfInBounds_toArray, List.set_cons_zero, List.set_cons_succ, i64_w, i32_w]
            rfl
           refine one_ (i := 10) (N := some 37) #[true, true, true, true, true, true, true, true, true, true, true, false] rfl rfl (ql HT_.out (by kernel_rfl)) (by decide) (fun K hK => ?_)
           refine goes_ Try.func21 (by kernel_rfl) rfl #[.agg #[.string ((zq l0_0 x24_2).f0.f0), .slice A576_1 ((zq l0_0 x24_2).f0.f1).length c576_1, .int .i64 ((zq l0_0 x24_2).f1), .slice A576_3 ((zq l0_0 x24_2).f2).length c576_3], .agg #[.string ((zq l1_0 x24_2).f0.f0), .slice A577_1 ((zq l1_0 x24_2).f0.f1).length c577_1, .int .i64 ((zq l1_0 x24_2).f1), .slice A577_3 ((zq l1_0 x24_2).f2).length c577_3]] (by rfl) rfl rfl (by (try simp only [List.map_toArray, List.map_cons, List.map_nil]); first | done | rfl | (simp only [List.length_drop, List.length_take]; rfl)) ?_
           with_reducible refine (zj.calls k2 ((zq l0_0 x24_2).f0.f0) _ _ ((zq l0_0 x24_2).f0.f1) ((zq l0_0 x24_2).f1) _ _ ((zq l0_0 x24_2).f2) ((zq l1_0 x24_2).f0.f0) _ _ ((zq l1_0 x24_2).f0.f1) ((zq l1_0 x24_2).f1) _ _ ((zq l1_0 x24_2).f2) true _ ?side1 ?side2 ?side3 ?side4 ?side5 ?side6 ?side7 ?side8 A22.out).mono ?_
           (case side1 => exact uc (Kd.zL HR576_1.out HB.out))
           (case side2 => exact HC576_1.out)
           (case side3 => exact uc (Kd.zL HR576_3.out HB.out))
           (case side4 => exact HC576_3.out)
           (case side5 => exact uc (Kd.zL HR577_1.out HB.out))
           (case side6 => exact HC577_1.out)
           (case side7 => exact uc (Kd.zL HR577_3.out HB.out))
           (case side8 => exact HC577_3.out)
           rintro e w25 ⟨rfl, hb⟩
           refine ⟨_, rfl, ?_⟩
           have n0_ := zb.mk (zo (ul BK573.out) hb)
           have n1_ := zb.mk (zo (ul BK574.out) hb)
           have n2_ := zb.mk (zn (by repeat (first | exact ub HB.out | apply zd | apply zc | apply ze | refine zh ?_ ‹_›)) hb)
           clear BK573
           clear BK574
           clear HB
           have BK573 := n0_
           have BK574 := n1_
           have HB := n2_
           clear n0_ n1_ n2_
           (try clear hb)
           (try clear hb2)
           (try clear hk)
           (try clear hi)
           refine hK.out _ _ ⟨(zf BK573.out 0).trans rfl, (zf BK573.out 1).trans rfl, (zf BK573.out 2).trans rfl, (zf BK574.out 0).trans rfl, (zf BK574.out 1).trans rfl, (zf BK574.out 2).trans rfl, (zg HB.out hw576_0), (zg HB.out hw576_1), (zg HB.out hw576_2), (zg HB.out hw576_3), (zg HB.out hw577_0), (zg HB.out hw577_1), (zg HB.out hw577_2), (zg HB.out hw577_3)⟩ (fun hHeld => ?_)
           clear hK K
           refine norm_ (a' := ?_) ?_ ?_
           rotate_left
           ·show Act.put _ (some 37) _ = _
            simp only [Act.put, List.setIfInBounds_toArray, List.set_cons_zero, List.set_cons_succ, i64_w, i32_w]
            rfl
           refine pure_ (i := 11) (N := some 38) (v := ?_) (a' := ?_) #[true, true, true, true, true, true, true, true, true, true, true, true] rfl rfl (yn HT_.out (by kernel_rfl)) (fun _ _ _ h => h) (Or.inl ⟨by rfl, ?_⟩) ?_ ?_
           rotate_left
           ·intro w'
            go_simp
            with_reducible rfl
           rotate_left
           ·simp only [Act.put, List.setIfInBounds_toArray, List.set_cons_zero, List.set_cons_succ, i64_w, i32_w]
            rfl
           refine done_ (done_of HT_.out (by kernel_rfl)) ?_
           try go_wp2
           go_roundg k2
           case measure => have := HJ2.out; have := HK2.out; omega
           case rel => exact ⟨(wrap64 (x24_2 + 1)), (by first | rfl | (simp; done) | (simp [*]; done)), H', ⟨by have := HJ2.out; have := HK2.out; omega⟩, ⟨ul BK573.out⟩, ⟨ul BK574.out⟩, ⟨by repeat (first | exact ub HB.out | apply zd | apply zc | apply ze | refine zh ?_ ‹_›)⟩⟩
          ·replace c23 := Bool.eq_false_iff.mpr c23
           subst c23
           have H1 : (none) = some r := by rw [if_neg (show ¬ (false = true) by decide)] at H; exact H
           clear H
           have H := H1
           clear H1
           exact absurd H (by simp)
         ·rw [if_neg c21] at H
          exact absurd H (by simp)
        ·rw [if_neg c20] at H
         exact absurd H (by simp)
       ·rw [if_neg c19] at H
        exact absurd H (by simp)
      ·rw [if_neg c18] at H
       have c18b0 : decide (x24_2 < (l0_0.length : Int)) = false := decide_eq_false c18
       clear c18
       obtain rfl := Option.some.inj H
       go_wp2
       go_ret
       exact ⟨by first | rfl | (simp [zA, zz] <;> rfl) | (simp [*, zA, zz] <;> rfl), by repeat (first | exact ub HB.out | apply zd | apply zc | apply ze | refine zh ?_ ‹_›)⟩
end Go.Proofs.Ytmgbfgloegcloaa.Ps
