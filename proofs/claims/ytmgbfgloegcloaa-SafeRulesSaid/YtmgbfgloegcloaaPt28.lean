import Derived.Test.YtmgbfgloegcloaaZip
import Derived.Test.YtmgbfgloegcloaaGlf
import Derived.Test.YtmgbfgloegcloaaPtD
import Derived.Test.YtmgbfgloegcloaaPt26
import Derived.Test.YtmgbfgloegcloaaPt27
namespace Go.Proofs.Ytmgbfgloegcloaa.Ps
open Go.RowKit Go.Proofs.YtmgbfgloegcloaaW.PrintWords Go.Proofs.YtmgbfgloegcloaaW.PrintLast Go.Proofs.YtmgbfgloegcloaaW.PrintMore
attribute [local go_sem] yD yB yR yQ ym yl yC yA
set_option linter.unusedVariables false
set_option linter.unusedSimpArgs false
attribute [local go_sem high] eqA40
def zj.T6 : Bool × List (List Nat × List Nat) := (true, [([], []), ([0], [0]), ([], []), ([1, 2], [1, 2]), ([3], [3]), ([], []), ([5], [5]), ([], []), ([6, 7], [6, 7]), ([8], [8]), ([], []), ([], []), ([10, 4, 0, 1, 2, 3, 4, 10, 11], [4, 10]), ([11, 9, 12, 0, 1, 2, 3, 4, 5, 6, 7, 8, 9, 10, 11, 12], [9, 11])])
def zj.B6 : List Nat := [0, 1, 0, 7, 15, 0, 32, 0, 224, 480, 0, 0, 3103, 8191]
theorem zj.tab6 : rtab .any (opsOf Try.f21 6) = zj.T6 := by kernel_rfl
theorem zj.bits6 : waitsOk zj.T6.2 zj.B6 = true := by kernel_rfl
set_option maxHeartbeats 8000000 in
set_option maxRecDepth 100000 in
theorem zj.calls (k : Nat) (a0_0 : ByteArray) (A0_1 : Option Addr) (c0_1 : Nat) (l0_1 : List (S40)) (a0_2 : Int) (A0_3 : Option Addr) (c0_3 : Nat) (l0_3 : List (S43)) (a1_0 : ByteArray) (A1_1 : Option Addr) (c1_1 : Nat) (l1_1 : List (S40)) (a1_2 : Int) (A1_3 : Option Addr) (c1_3 : Nat) (l1_3 : List (S43)) (r : Bool) (w : World) (hr0_1 : Kd.C k40 w A0_1 l0_1.length l0_1) (hc0_1 : l0_1.length ≤ c0_1) (hr0_3 : Kd.C k43 w A0_3 l0_3.length l0_3) (hc0_3 : l0_3.length ≤ c0_3) (hr1_1 : Kd.C k40 w A1_1 l1_1.length l1_1) (hc1_1 : l1_1.length ≤ c1_1) (hr1_3 : Kd.C k43 w A1_3 l1_3.length l1_3) (hc1_3 : l1_3.length ≤ c1_3) (h : zj.f k a0_0 l0_1 a0_2 l0_3 a1_0 l1_1 a1_2 l1_3 = some r) :
  Calls Try.prog 21 #[.agg #[.string a0_0, .slice A0_1 l0_1.length c0_1, .int .i64 a0_2, .slice A0_3 l0_3.length c0_3], .agg #[.string a1_0, .slice A1_1 l1_1.length c1_1, .int .i64 a1_2, .slice A1_3 l1_3.length c1_3]] w fun e w' => e = .returned (.bool r) ∧ Below w.heap.size w w' := by
 have hu51 := Try.underlying51
 have hu36 := Try.underlying36
 have hu43 := Try.underlying43
 have hu40 := Try.underlying40
 have HR0_1 := zb.mk hr0_1
 have HC0_1 := zb.mk hc0_1
 clear hr0_1 hc0_1
 have HR0_3 := zb.mk hr0_3
 have HC0_3 := zb.mk hc0_3
 clear hr0_3 hc0_3
 have HR1_1 := zb.mk hr1_1
 have HC1_1 := zb.mk hc1_1
 clear hr1_1 hc1_1
 have HR1_3 := zb.mk hr1_3
 have HC1_3 := zb.mk hc1_3
 clear hr1_3 hc1_3
 have HB := zb.mk (Below.refl w.heap.size w)
 have H : (if a0_2 = a1_2 then ((zx.f k a0_0 l0_1 a1_0 l1_1).bind fun t428 => (if t428 = true then (zj.j0 k ((l0_3.length : Int) != (l1_3.length : Int)) a0_0 l0_1 a0_2 l0_3 a1_0 l1_1 a1_2 l1_3) else (zj.j0 k true a0_0 l0_1 a0_2 l0_3 a1_0 l1_1 a1_2 l1_3))) else (zj.j0 k true a0_0 l0_1 a0_2 l0_3 a1_0 l1_1 a1_2 l1_3)) = some r := h
 clear h
 have HC3 := zb.mk H
 clear H
 go_enter Try.func21, Try.ntmps21
 go_upto_region 1 with (first | ((with_reducible refine zQ (N := 2) rfl ?_); (try (refine yT (by rfl) ?_; dsimp only)); refine zM ?hg (N := 2) ?hd (cs := #[.string a0_0, .slice A0_1 l0_1.length c0_1, .int .i64 a0_2, .slice A0_3 l0_3.length c0_3]) (t := 51) ?hr ?_; (case hd => rfl); (case hg => rfl); (case hr => first | (go_simp; done) | (go_simp; rfl)); intro gb426 hg w4 hbox hb; have n0_ := zb.mk (zn (ub HB.out) hb); have n1_ := zb.mk (hbox); have n2_ := zb.mk ((by rw [hg]; exact (zi (ub HB.out)) : w.heap.size ≤ gb426)); have n3_ := zb.mk ((by rw [hg]; exact (zi (ub HB.out)) : w.heap.size ≤ gb426)); clear HB; have HB := n0_; have BK426 := n1_; have GW426 := n2_; have GE426 := n3_; clear n0_ n1_ n2_ n3_; clear hb hbox hg) | ((with_reducible refine zQ (N := 3) rfl ?_); (try (refine yT (by rfl) ?_; dsimp only)); refine zM ?hg (N := 3) ?hd (cs := #[.string a1_0, .slice A1_1 l1_1.length c1_1, .int .i64 a1_2, .slice A1_3 l1_3.length c1_3]) (t := 51) ?hr ?_; (case hd => rfl); (case hg => rfl); (case hr => first | (go_simp; done) | (go_simp; rfl)); intro gb427 hg w5 hbox hb; have n0_ := zb.mk (zo (ul BK426.out) hb); have n1_ := zb.mk (zn (by repeat (first | exact ub HB.out | apply zd | apply zc | apply ze | refine zh ?_ ‹_›)) hb); have n2_ := zb.mk (hbox); have n3_ := zb.mk ((by rw [hg]; exact (zi (by repeat (first | exact ub HB.out | apply zd | apply zc | apply ze | refine zh ?_ ‹_›))) : w.heap.size ≤ gb427)); have n4_ := zb.mk ((by rw [hg]; exact (zi (by repeat (first | exact ub HB.out | apply zd | apply zc | apply ze | refine zh ?_ ‹_›))) : w.heap.size ≤ gb427)); have n5_ := zb.mk ((by rw [hg]; exact Nat.ne_of_lt (zO (ul BK426.out)) : gb426 ≠ gb427)); have n6_ := zb.mk ((by rw [hg]; exact Nat.ne_of_gt (zO (ul BK426.out)) : gb427 ≠ gb426)); clear BK426; clear HB; have BK426 := n0_; have HB := n1_; have BK427 := n2_; have GW427 := n3_; have GE427 := n4_; have NB426_427 := n5_; have NB427_426 := n6_; clear n0_ n1_ n2_ n3_ n4_ n5_ n6_; clear hb hbox hg))
 (try simp only [Act.put, List.setIfInBounds_toArray, List.set_cons_zero, List.set_cons_succ])
 go_cut [29] (fun v29 wc => ∃ (kq : Nat) (x29_2 : Bool), v29 = .bool x29_2 ∧ zb (zj.j0 kq x29_2 a0_0 l0_1 a0_2 l0_3 a1_0 l1_1 a1_2 l1_3 = some r) ∧ zb (kq ≤ k) ∧ zb (wc.heap[gb426]? = some (.cells #[.string a0_0, (.slice A0_1 l0_1.length c0_1), .int .i64 a0_2, (.slice A0_3 l0_3.length c0_3)] 51 (0, 0))) ∧ zb (wc.heap[gb427]? = some (.cells #[.string a1_0, (.slice A1_1 l1_1.length c1_1), .int .i64 a1_2, (.slice A1_3 l1_3.length c1_3)] 51 (0, 0))) ∧ zb (Below w.heap.size w wc))
 case first =>
  have H := HC3.out
  clear HC3
  by_cases c6 : a0_2 = a1_2
  ·rw [if_pos c6] at H
   have c6b0 : (a0_2 == a1_2) = true := beq_iff_eq.mpr c6
   have c6b1 : (a0_2 != a1_2) = false := bne_eq_false_iff_eq.mpr c6
   clear c6
   (first | rw [c6b0] | (simp only [i64_w, i32_w]; rw [c6b0]) | skip)
   replace H := Option.bind_eq_some_iff.mp H
   obtain ⟨t428, A70, H⟩ := H
   replace H : (if t428 = true then (zj.j0 k ((l0_3.length : Int) != (l1_3.length : Int)) a0_0 l0_1 a0_2 l0_3 a1_0 l1_1 a1_2 l1_3) else (zj.j0 k true a0_0 l0_1 a0_2 l0_3 a1_0 l1_1 a1_2 l1_3)) = some r := H
   have A7 := zb.mk A70
   clear A70
   by_cases c8 : t428 = true
   ·subst c8
    have H1 : (zj.j0 k ((l0_3.length : Int) != (l1_3.length : Int)) a0_0 l0_1 a0_2 l0_3 a1_0 l1_1 a1_2 l1_3) = some r := by rw [if_pos rfl] at H; exact H
    clear H
    have H := H1
    clear H1
    have H' := zb.mk H
    clear H
    have hnb9 := NB426_427.out
    have hnc9 := NB427_426.out
    obtain ⟨hcz10_0, hcz10_1, hcz10_2, hcz10_3⟩ := blk4 BK426.out
    obtain ⟨hfz10_0, hfz10_1, hfz10_2, hfz10_3⟩ := frz4 BK426.out
    obtain ⟨hcz11_0, hcz11_1, hcz11_2, hcz11_3⟩ := blk4 BK427.out
    obtain ⟨hfz11_0, hfz11_1, hfz11_2, hfz11_3⟩ := frz4 BK427.out
    go_wp2_with (first | (go_at_call 36; (with_reducible refine (zx.calls k a0_0 _ _ l0_1 a1_0 _ _ l1_1 true _ ?side1 ?side2 ?side3 ?side4 A7.out).mono ?_); (case side1 => exact uc (Kd.zL HR0_1.out HB.out)); (case side2 => exact HC0_1.out); (case side3 => exact uc (Kd.zL HR1_1.out HB.out)); (case side4 => exact HC1_1.out); rintro e w12 ⟨rfl, hb⟩; have n0_ := zb.mk (zo (ul BK426.out) hb); have n1_ := zb.mk (zo (ul BK427.out) hb); have n2_ := zb.mk (zn (by repeat (first | exact ub HB.out | apply zd | apply zc | apply ze | refine zh ?_ ‹_›)) hb); clear BK426; clear BK427; clear HB; have BK426 := n0_; have BK427 := n1_; have HB := n2_; clear n0_ n1_ n2_; (try clear hb); (try clear hb2); (try clear hk); (try clear hi); obtain ⟨hcz13_0, hcz13_1, hcz13_2, hcz13_3⟩ := blk4 BK426.out; obtain ⟨hfz13_0, hfz13_1, hfz13_2, hfz13_3⟩ := frz4 BK426.out; obtain ⟨hcz14_0, hcz14_1, hcz14_2, hcz14_3⟩ := blk4 BK427.out; obtain ⟨hfz14_0, hfz14_1, hfz14_2, hfz14_3⟩ := frz4 BK427.out))
    go_meet
    case rel => exact ⟨_, (((l0_3.length : Int) != (l1_3.length : Int))), (by first | rfl | (simp; done) | (simp [*]; done)), H', ⟨by first | omega | exact Nat.le_refl _⟩, ⟨ul BK426.out⟩, ⟨ul BK427.out⟩, ⟨by repeat (first | exact ub HB.out | apply zd | apply zc | apply ze | refine zh ?_ ‹_›)⟩⟩
   ·replace c8 := Bool.eq_false_iff.mpr c8
    subst c8
    have H1 : (zj.j0 k true a0_0 l0_1 a0_2 l0_3 a1_0 l1_1 a1_2 l1_3) = some r := by rw [if_neg (show ¬ (false = true) by decide)] at H; exact H
    clear H
    have H := H1
    clear H1
    have H' := zb.mk H
    clear H
    have hnb15 := NB426_427.out
    have hnc15 := NB427_426.out
    obtain ⟨hcz16_0, hcz16_1, hcz16_2, hcz16_3⟩ := blk4 BK426.out
    obtain ⟨hfz16_0, hfz16_1, hfz16_2, hfz16_3⟩ := frz4 BK426.out
    obtain ⟨hcz17_0, hcz17_1, hcz17_2, hcz17_3⟩ := blk4 BK427.out
    obtain ⟨hfz17_0, hfz17_1, hfz17_2, hfz17_3⟩ := frz4 BK427.out
    go_wp2_with (first | (go_at_call 36; (with_reducible refine (zx.calls k a0_0 _ _ l0_1 a1_0 _ _ l1_1 false _ ?side1 ?side2 ?side3 ?side4 A7.out).mono ?_); (case side1 => exact uc (Kd.zL HR0_1.out HB.out)); (case side2 => exact HC0_1.out); (case side3 => exact uc (Kd.zL HR1_1.out HB.out)); (case side4 => exact HC1_1.out); rintro e w18 ⟨rfl, hb⟩; have n0_ := zb.mk (zo (ul BK426.out) hb); have n1_ := zb.mk (zo (ul BK427.out) hb); have n2_ := zb.mk (zn (by repeat (first | exact ub HB.out | apply zd | apply zc | apply ze | refine zh ?_ ‹_›)) hb); clear BK426; clear BK427; clear HB; have BK426 := n0_; have BK427 := n1_; have HB := n2_; clear n0_ n1_ n2_; (try clear hb); (try clear hb2); (try clear hk); (try clear hi)))
    go_meet
    case rel => exact ⟨_, (true), (by first | rfl | (simp; done) | (simp [*]; done)), H', ⟨by first | omega | exact Nat.le_refl _⟩, ⟨ul BK426.out⟩, ⟨ul BK427.out⟩, ⟨by repeat (first | exact ub HB.out | apply zd | apply zc | apply ze | refine zh ?_ ‹_›)⟩⟩
  ·rw [if_neg c6] at H
   have c6b0 : (a0_2 == a1_2) = false := beq_eq_false_iff_ne.mpr c6
   have c6b1 : (a0_2 != a1_2) = true := bne_iff_ne.mpr c6
   (first | rw [c6b0] | (simp only [i64_w, i32_w]; rw [c6b0]) | skip)
   have H' := zb.mk H
   clear H
   have hnb19 := NB426_427.out
   have hnc19 := NB427_426.out
   obtain ⟨hcz20_0, hcz20_1, hcz20_2, hcz20_3⟩ := blk4 BK426.out
   obtain ⟨hfz20_0, hfz20_1, hfz20_2, hfz20_3⟩ := frz4 BK426.out
   obtain ⟨hcz21_0, hcz21_1, hcz21_2, hcz21_3⟩ := blk4 BK427.out
   obtain ⟨hfz21_0, hfz21_1, hfz21_2, hfz21_3⟩ := frz4 BK427.out
   go_wp2
   go_meet
   case rel => exact ⟨_, (true), (by first | rfl | (simp; done) | (simp [*]; done)), H', ⟨by first | omega | exact Nat.le_refl _⟩, ⟨ul BK426.out⟩, ⟨ul BK427.out⟩, ⟨by repeat (first | exact ub HB.out | apply zd | apply zc | apply ze | refine zh ?_ ‹_›)⟩⟩
 case rest =>
  clear HC3
  try clear c1
  try clear c2
  try clear p2
  try clear c6
  try clear c6b0
  try clear c6b1
  try clear c8
  try clear c9
  try clear c15
  try clear c19
  try clear c21
  try clear hcz10_0 hcz10_1 hcz10_2 hcz10_3
  try clear hcz11_0 hcz11_1 hcz11_2 hcz11_3
  try clear hcz13_0 hcz13_1 hcz13_2 hcz13_3
  try clear hcz14_0 hcz14_1 hcz14_2 hcz14_3
  try clear hcz16_0 hcz16_1 hcz16_2 hcz16_3
  try clear hcz17_0 hcz17_1 hcz17_2 hcz17_3
  try clear hcz20_0 hcz20_1 hcz20_2 hcz20_3
  try clear hcz21_0 hcz21_1 hcz21_2 hcz21_3
  try clear hfz10_0 hfz10_1 hfz10_2 hfz10_3
  try clear hfz11_0 hfz11_1 hfz11_2 hfz11_3
  try clear hfz13_0 hfz13_1 hfz13_2 hfz13_3
  try clear hfz14_0 hfz14_1 hfz14_2 hfz14_3
  try clear hfz16_0 hfz16_1 hfz16_2 hfz16_3
  try clear hfz17_0 hfz17_1 hfz17_2 hfz17_3
  try clear hfz20_0 hfz20_1 hfz20_2 hfz20_3
  try clear hfz21_0 hfz21_1 hfz21_2 hfz21_3
  obtain ⟨kq, x29_2, rfl, HA, HJ2, BK426, BK427, HB⟩ := hcut
  cases kq with
  | zero => exact absurd HA.out (by simp [zj.j0])
  | succ kj2 =>
   have H := HA.out
   clear HA
   simp only [zj.j0] at H
   by_cases c22 : x29_2 = true
   ·subst c22
    have H1 : (none) = some r := by rw [if_pos rfl] at H; exact H
    clear H
    have H := H1
    clear H1
    exact absurd H (by simp)
   ·replace c22 := Bool.eq_false_iff.mpr c22
    subst c22
    have H1 : (zj.l0 kj2 (l0_3.length : Int) 0 a0_0 l0_1 a0_2 l0_3 a1_0 l1_1 a1_2 l1_3) = some r := by rw [if_neg (show ¬ (false = true) by decide)] at H; exact H
    clear H
    have H := H1
    clear H1
    have H' := zb.mk H
    clear H
    have hnb23 := NB426_427.out
    have hnc23 := NB427_426.out
    obtain ⟨hcz24_0, hcz24_1, hcz24_2, hcz24_3⟩ := blk4 BK426.out
    obtain ⟨hfz24_0, hfz24_1, hfz24_2, hfz24_3⟩ := frz4 BK426.out
    go_wp2
    go_loopg [33] kj2 (fun kq v33 w' => ∃ (x33_2 : Int), v33 = .int .i64 x33_2 ∧ zb (zj.l0 kq (l0_3.length : Int) x33_2 a0_0 l0_1 a0_2 l0_3 a1_0 l1_1 a1_2 l1_3 = some r) ∧ zb (kq ≤ kj2) ∧ zb (w'.heap[gb426]? = some (.cells #[.string a0_0, (.slice A0_1 l0_1.length c0_1), .int .i64 a0_2, (.slice A0_3 l0_3.length c0_3)] 51 (0, 0))) ∧ zb (w'.heap[gb427]? = some (.cells #[.string a1_0, (.slice A1_1 l1_1.length c1_1), .int .i64 a1_2, (.slice A1_3 l1_3.length c1_3)] 51 (0, 0))) ∧ zb (Below w.heap.size w w'))
    case atStart => exact ⟨(0), (by first | rfl | (simp; done) | (simp [*]; done)), H', ⟨Nat.le_refl _⟩, ⟨ul BK426.out⟩, ⟨ul BK427.out⟩, ⟨by repeat (first | exact ub HB.out | apply zd | apply zc | apply ze | refine zh ?_ ‹_›)⟩⟩
    case round =>
     clear H'
     try clear c1
     try clear c2
     try clear p2
     try clear c6
     try clear c6b0
     try clear c6b1
     try clear c8
     try clear c9
     try clear c15
     try clear c19
     try clear c21
     try clear c22
     try clear c23
     try clear hcz10_0 hcz10_1 hcz10_2 hcz10_3
     try clear hcz11_0 hcz11_1 hcz11_2 hcz11_3
     try clear hcz13_0 hcz13_1 hcz13_2 hcz13_3
     try clear hcz14_0 hcz14_1 hcz14_2 hcz14_3
     try clear hcz16_0 hcz16_1 hcz16_2 hcz16_3
     try clear hcz17_0 hcz17_1 hcz17_2 hcz17_3
     try clear hcz20_0 hcz20_1 hcz20_2 hcz20_3
     try clear hcz21_0 hcz21_1 hcz21_2 hcz21_3
     try clear hcz24_0 hcz24_1 hcz24_2 hcz24_3
     try clear hfz10_0 hfz10_1 hfz10_2 hfz10_3
     try clear hfz11_0 hfz11_1 hfz11_2 hfz11_3
     try clear hfz13_0 hfz13_1 hfz13_2 hfz13_3
     try clear hfz14_0 hfz14_1 hfz14_2 hfz14_3
     try clear hfz16_0 hfz16_1 hfz16_2 hfz16_3
     try clear hfz17_0 hfz17_1 hfz17_2 hfz17_3
     try clear hfz20_0 hfz20_1 hfz20_2 hfz20_3
     try clear hfz21_0 hfz21_1 hfz21_2 hfz21_3
     try clear hfz24_0 hfz24_1 hfz24_2 hfz24_3
     try clear p2
     obtain ⟨x33_2, rfl, HA, HK2, BK426, BK427, HB⟩ := hrel
     cases gk with
     | zero => exact absurd HA.out (by simp [zj.l0])
     | succ k2 =>
      have H := HA.out
      clear HA
      simp only [zj.l0] at H
      by_cases c25 : x33_2 < (l0_3.length : Int)
      ·rw [if_pos c25] at H
       have c25b0 : decide (x33_2 < (l0_3.length : Int)) = true := decide_eq_true c25
       clear c25
       by_cases c26 : 0 ≤ x33_2
       ·rw [if_pos c26] at H
        have c26b0 : decide (0 ≤ x33_2) = true := decide_eq_true c26
        clear c26
        by_cases c27 : x33_2 < (l0_3.length : Int)
        ·rw [if_pos c27] at H
         have c27b0 : decide (x33_2 < (l0_3.length : Int)) = true := decide_eq_true c27
         clear c27
         by_cases c28 : x33_2 < (l1_3.length : Int)
         ·rw [if_pos c28] at H
          have c28b0 : decide (x33_2 < (l1_3.length : Int)) = true := decide_eq_true c28
          clear c28
          by_cases c29 : ((za l0_3 x33_2).f0) = ((za l1_3 x33_2).f0)
          ·rw [if_pos c29] at H
           have c29b0 : (((za l0_3 x33_2).f0) == ((za l1_3 x33_2).f0)) = true := beq_iff_eq.mpr c29
           have c29b1 : (((za l0_3 x33_2).f0) != ((za l1_3 x33_2).f0)) = false := bne_eq_false_iff_eq.mpr c29
           clear c29
           by_cases c30 : ((za l0_3 x33_2).f2).toList = ((za l1_3 x33_2).f2).toList
           ·rw [if_pos c30] at H
            have c30b0 : (((za l0_3 x33_2).f2).toList == ((za l1_3 x33_2).f2).toList) = true := beq_iff_eq.mpr c30
            have c30b1 : (((za l0_3 x33_2).f2).toList != ((za l1_3 x33_2).f2).toList) = false := bne_eq_false_iff_eq.mpr c30
            clear c30
            by_cases c31 : (!((((za l0_3 x33_2).f3.f0).toList) == (((za l1_3 x33_2).f3.f0).toList)) || ((!(((za l0_3 x33_2).f3.f1.f0) == ((za l1_3 x33_2).f3.f1.f0)) || (!(((za l0_3 x33_2).f3.f1.f1) == ((za l1_3 x33_2).f3.f1.f1)) || (!((((za l0_3 x33_2).f3.f1.f2).toList) == (((za l1_3 x33_2).f3.f1.f2).toList))))))) = true
            ·rw [if_pos c31] at H
             exact absurd H (by simp)
            ·rw [if_neg c31] at H
             have c31b0 : (!((((za l0_3 x33_2).f3.f0).toList) == (((za l1_3 x33_2).f3.f0).toList)) || ((!(((za l0_3 x33_2).f3.f1.f0) == ((za l1_3 x33_2).f3.f1.f0)) || (!(((za l0_3 x33_2).f3.f1.f1) == ((za l1_3 x33_2).f3.f1.f1)) || (!((((za l0_3 x33_2).f3.f1.f2).toList) == (((za l1_3 x33_2).f3.f1.f2).toList))))))) = false := by simpa using c31
             clear c31
             by_cases c32 : (!((((za l0_3 x33_2).f4.f0).toList) == (((za l1_3 x33_2).f4.f0).toList)) || ((!(((za l0_3 x33_2).f4.f1.f0) == ((za l1_3 x33_2).f4.f1.f0)) || (!(((za l0_3 x33_2).f4.f1.f1) == ((za l1_3 x33_2).f4.f1.f1)) || (!((((za l0_3 x33_2).f4.f1.f2).toList) == (((za l1_3 x33_2).f4.f1.f2).toList))))))) = true
             ·rw [if_pos c32] at H
              exact absurd H (by simp)
             ·rw [if_neg c32] at H
              have c32b0 : (!((((za l0_3 x33_2).f4.f0).toList) == (((za l1_3 x33_2).f4.f0).toList)) || ((!(((za l0_3 x33_2).f4.f1.f0) == ((za l1_3 x33_2).f4.f1.f0)) || (!(((za l0_3 x33_2).f4.f1.f1) == ((za l1_3 x33_2).f4.f1.f1)) || (!((((za l0_3 x33_2).f4.f1.f2).toList) == (((za l1_3 x33_2).f4.f1.f2).toList))))))) = false := by simpa using c32
              clear c32
              by_cases c33 : (!((((za l0_3 x33_2).f5.f0).toList) == (((za l1_3 x33_2).f5.f0).toList)) || ((!(((za l0_3 x33_2).f5.f1.f0) == ((za l1_3 x33_2).f5.f1.f0)) || (!(((za l0_3 x33_2).f5.f1.f1) == ((za l1_3 x33_2).f5.f1.f1)) || (!((((za l0_3 x33_2).f5.f1.f2).toList) == (((za l1_3 x33_2).f5.f1.f2).toList))))))) = true
              ·rw [if_pos c33] at H
               exact absurd H (by simp)
              ·rw [if_neg c33] at H
               have c33b0 : (!((((za l0_3 x33_2).f5.f0).toList) == (((za l1_3 x33_2).f5.f0).toList)) || ((!(((za l0_3 x33_2).f5.f1.f0) == ((za l1_3 x33_2).f5.f1.f0)) || (!(((za l0_3 x33_2).f5.f1.f1) == ((za l1_3 x33_2).f5.f1.f1)) || (!((((za l0_3 x33_2).f5.f1.f2).toList) == (((za l1_3 x33_2).f5.f1.f2).toList))))))) = false := by simpa using c33
               clear c33
               replace H := Option.bind_eq_some_iff.mp H
               obtain ⟨t433, A340, H⟩ := H
               replace H : (if t433 = true then ((zH.f k2 ((za l0_3 x33_2).f6) ((za l1_3 x33_2).f6)).bind fun t434 => (if t434 = true then (zj.l0 k2 (l0_3.length : Int) (wrap64 (x33_2 + 1)) a0_0 l0_1 a0_2 l0_3 a1_0 l1_1 a1_2 l1_3) else (none))) else (none)) = some r := H
               have A34 := zb.mk A340
               clear A340
               by_cases c35 : t433 = true
               ·subst c35
                have H1 : ((zH.f k2 ((za l0_3 x33_2).f6) ((za l1_3 x33_2).f6)).bind fun t434 => (if t434 = true then (zj.l0 k2 (l0_3.length : Int) (wrap64 (x33_2 + 1)) a0_0 l0_1 a0_2 l0_3 a1_0 l1_1 a1_2 l1_3) else (none))) = some r := by rw [if_pos rfl] at H; exact H
                clear H
                have H := H1
                clear H1
                replace H := Option.bind_eq_some_iff.mp H
                obtain ⟨t434, A360, H⟩ := H
                replace H : (if t434 = true then (zj.l0 k2 (l0_3.length : Int) (wrap64 (x33_2 + 1)) a0_0 l0_1 a0_2 l0_3 a1_0 l1_1 a1_2 l1_3) else (none)) = some r := H
                have A36 := zb.mk A360
                clear A360
                by_cases c37 : t434 = true
                ·subst c37
                 have H1 : (zj.l0 k2 (l0_3.length : Int) (wrap64 (x33_2 + 1)) a0_0 l0_1 a0_2 l0_3 a1_0 l1_1 a1_2 l1_3) = some r := by rw [if_pos rfl] at H; exact H
                 clear H
                 have H := H1
                 clear H1
                 have H' := zb.mk H
                 clear H
                 try go_wp2
                 have n0_ := zb.mk (zD BK426.out)
                 have n1_ := zb.mk (zD BK427.out)
                 have n2_ := zb.mk (ze HB.out)
                 clear BK426
                 clear BK427
                 clear HB
                 have BK426 := n0_
                 have BK427 := n1_
                 have HB := n2_
                 clear n0_ n1_ n2_
                 have p429 : 0 ≤ (x33_2 : Int) := zdd
                 have q429 : x33_2 < (l0_3.length : Int) := zdd
                 obtain ⟨ad429, A429_2, c429_2, A429_16, c429_16, e429, hx429_0, hx429_1, hx429_2, hx429_3, hx429_4, hx429_5, hx429_6, hx429_7, hx429_8, hx429_9, hx429_10, hx429_11, hx429_12, hx429_13, hx429_14, hx429_15, hx429_16, hl429_2, hi429_2, hl429_16, hi429_16⟩ := qv HR0_3.out x33_2 p429 q429
                 have hw429_16 := hx429_16
                 have hw429_15 := hx429_15
                 have hw429_14 := hx429_14
                 have hw429_13 := hx429_13
                 have hw429_12 := hx429_12
                 have hw429_11 := hx429_11
                 have hw429_10 := hx429_10
                 have hw429_9 := hx429_9
                 have hw429_8 := hx429_8
                 have hw429_7 := hx429_7
                 have hw429_6 := hx429_6
                 have hw429_5 := hx429_5
                 have hw429_4 := hx429_4
                 have hw429_3 := hx429_3
                 have hw429_2 := hx429_2
                 have hw429_1 := hx429_1
                 have hw429_0 := hx429_0
                 cases e429
                 obtain ⟨hx429_0, hx429_1, hx429_2, hx429_3, hx429_4, hx429_5, hx429_6, hx429_7, hx429_8, hx429_9, hx429_10, hx429_11, hx429_12, hx429_13, hx429_14, hx429_15, hx429_16⟩ := lift17 HB.out hx429_0 hx429_1 hx429_2 hx429_3 hx429_4 hx429_5 hx429_6 hx429_7 hx429_8 hx429_9 hx429_10 hx429_11 hx429_12 hx429_13 hx429_14 hx429_15 hx429_16
                 have HR429_2 := zb.mk hi429_2
                 have HC429_2 := zb.mk hl429_2
                 clear hi429_2 hl429_2
                 have HR429_16 := zb.mk hi429_16
                 have HC429_16 := zb.mk hl429_16
                 clear hi429_16 hl429_16
                 replace p429 := eq_true p429
                 replace q429 := eq_true q429
                 have p430 : 0 ≤ (x33_2 : Int) := zdd
                 have q430 : x33_2 < (l1_3.length : Int) := zdd
                 obtain ⟨ad430, A430_2, c430_2, A430_16, c430_16, e430, hx430_0, hx430_1, hx430_2, hx430_3, hx430_4, hx430_5, hx430_6, hx430_7, hx430_8, hx430_9, hx430_10, hx430_11, hx430_12, hx430_13, hx430_14, hx430_15, hx430_16, hl430_2, hi430_2, hl430_16, hi430_16⟩ := qv HR1_3.out x33_2 p430 q430
                 have hw430_16 := hx430_16
                 have hw430_15 := hx430_15
                 have hw430_14 := hx430_14
                 have hw430_13 := hx430_13
                 have hw430_12 := hx430_12
                 have hw430_11 := hx430_11
                 have hw430_10 := hx430_10
                 have hw430_9 := hx430_9
                 have hw430_8 := hx430_8
                 have hw430_7 := hx430_7
                 have hw430_6 := hx430_6
                 have hw430_5 := hx430_5
                 have hw430_4 := hx430_4
                 have hw430_3 := hx430_3
                 have hw430_2 := hx430_2
                 have hw430_1 := hx430_1
                 have hw430_0 := hx430_0
                 cases e430
                 obtain ⟨hx430_0, hx430_1, hx430_2, hx430_3, hx430_4, hx430_5, hx430_6, hx430_7, hx430_8, hx430_9, hx430_10, hx430_11, hx430_12, hx430_13, hx430_14, hx430_15, hx430_16⟩ := lift17 HB.out hx430_0 hx430_1 hx430_2 hx430_3 hx430_4 hx430_5 hx430_6 hx430_7 hx430_8 hx430_9 hx430_10 hx430_11 hx430_12 hx430_13 hx430_14 hx430_15 hx430_16
                 have HR430_2 := zb.mk hi430_2
                 have HC430_2 := zb.mk hl430_2
                 clear hi430_2 hl430_2
                 have HR430_16 := zb.mk hi430_16
                 have HC430_16 := zb.mk hl430_16
                 clear hi430_16 hl430_16
                 replace p430 := eq_true p430
                 replace q430 := eq_true q430
                 refine start_ (n := 14) (S := fun w' => w'.cell? ⟨gb426, 0, none⟩ = some (.string a0_0) ∧ w'.cell? ⟨gb426, 1, none⟩ = some (.slice A0_1 l0_1.length c0_1) ∧ w'.cell? ⟨gb426, 2, none⟩ = some (.int .i64 a0_2) ∧ w'.cell? ⟨gb426, 3, none⟩ = some (.slice (some ad429) l0_3.length c0_3) ∧ w'.cell? ⟨gb427, 0, none⟩ = some (.string a1_0) ∧ w'.cell? ⟨gb427, 1, none⟩ = some (.slice A1_1 l1_1.length c1_1) ∧ w'.cell? ⟨gb427, 2, none⟩ = some (.int .i64 a1_2) ∧ w'.cell? ⟨gb427, 3, none⟩ = some (.slice (some ad430) l1_3.length c1_3) ∧ w'.cell? (ad429.add ((x33_2).toNat * 17)) = some (.int .i64 ((za l0_3 x33_2).f0)) ∧ w'.cell? ⟨(ad429.add ((x33_2).toNat * 17)).block, (ad429.add ((x33_2).toNat * 17)).off + 1, none⟩ = some (.string ((za l0_3 x33_2).f1.f0)) ∧ w'.cell? ⟨(ad429.add ((x33_2).toNat * 17)).block, (ad429.add ((x33_2).toNat * 17)).off + 2, none⟩ = some (.slice A429_2 ((za l0_3 x33_2).f1.f1).length c429_2) ∧ w'.cell? ⟨(ad429.add ((x33_2).toNat * 17)).block, (ad429.add ((x33_2).toNat * 17)).off + 3, none⟩ = some (.string ((za l0_3 x33_2).f2)) ∧ w'.cell? ⟨(ad429.add ((x33_2).toNat * 17)).block, (ad429.add ((x33_2).toNat * 17)).off + 4, none⟩ = some (.string ((za l0_3 x33_2).f3.f0)) ∧ w'.cell? ⟨(ad429.add ((x33_2).toNat * 17)).block, (ad429.add ((x33_2).toNat * 17)).off + 5, none⟩ = some (.int .i64 ((za l0_3 x33_2).f3.f1.f0)) ∧ w'.cell? ⟨(ad429.add ((x33_2).toNat * 17)).block, (ad429.add ((x33_2).toNat * 17)).off + 6, none⟩ = some (.int .i64 ((za l0_3 x33_2).f3.f1.f1)) ∧ w'.cell? ⟨(ad429.add ((x33_2).toNat * 17)).block, (ad429.add ((x33_2).toNat * 17)).off + 7, none⟩ = some (.string ((za l0_3 x33_2).f3.f1.f2)) ∧ w'.cell? ⟨(ad429.add ((x33_2).toNat * 17)).block, (ad429.add ((x33_2).toNat * 17)).off + 8, none⟩ = some (.string ((za l0_3 x33_2).f4.f0)) ∧ w'.cell? ⟨(ad429.add ((x33_2).toNat * 17)).block, (ad429.add ((x33_2).toNat * 17)).off + 9, none⟩ = some (.int .i64 ((za l0_3 x33_2).f4.f1.f0)) ∧ w'.cell? ⟨(ad429.add ((x33_2).toNat * 17)).block, (ad429.add ((x33_2).toNat * 17)).off + 10, none⟩ = some (.int .i64 ((za l0_3 x33_2).f4.f1.f1)) ∧ w'.cell? ⟨(ad429.add ((x33_2).toNat * 17)).block, (ad429.add ((x33_2).toNat * 17)).off + 11, none⟩ = some (.string ((za l0_3 x33_2).f4.f1.f2)) ∧ w'.cell? ⟨(ad429.add ((x33_2).toNat * 17)).block, (ad429.add ((x33_2).toNat * 17)).off + 12, none⟩ = some (.string ((za l0_3 x33_2).f5.f0)) ∧ w'.cell? ⟨(ad429.add ((x33_2).toNat * 17)).block, (ad429.add ((x33_2).toNat * 17)).off + 13, none⟩ = some (.int .i64 ((za l0_3 x33_2).f5.f1.f0)) ∧ w'.cell? ⟨(ad429.add ((x33_2).toNat * 17)).block, (ad429.add ((x33_2).toNat * 17)).off + 14, none⟩ = some (.int .i64 ((za l0_3 x33_2).f5.f1.f1)) ∧ w'.cell? ⟨(ad429.add ((x33_2).toNat * 17)).block, (ad429.add ((x33_2).toNat * 17)).off + 15, none⟩ = some (.string ((za l0_3 x33_2).f5.f1.f2)) ∧ w'.cell? ⟨(ad429.add ((x33_2).toNat * 17)).block, (ad429.add ((x33_2).toNat * 17)).off + 16, none⟩ = some (.slice A429_16 ((za l0_3 x33_2).f6).length c429_16) ∧ w'.cell? (ad430.add ((x33_2).toNat * 17)) = some (.int .i64 ((za l1_3 x33_2).f0)) ∧ w'.cell? ⟨(ad430.add ((x33_2).toNat * 17)).block, (ad430.add ((x33_2).toNat * 17)).off + 1, none⟩ = some (.string ((za l1_3 x33_2).f1.f0)) ∧ w'.cell? ⟨(ad430.add ((x33_2).toNat * 17)).block, (ad430.add ((x33_2).toNat * 17)).off + 2, none⟩ = some (.slice A430_2 ((za l1_3 x33_2).f1.f1).length c430_2) ∧ w'.cell? ⟨(ad430.add ((x33_2).toNat * 17)).block, (ad430.add ((x33_2).toNat * 17)).off + 3, none⟩ = some (.string ((za l1_3 x33_2).f2)) ∧ w'.cell? ⟨(ad430.add ((x33_2).toNat * 17)).block, (ad430.add ((x33_2).toNat * 17)).off + 4, none⟩ = some (.string ((za l1_3 x33_2).f3.f0)) ∧ w'.cell? ⟨(ad430.add ((x33_2).toNat * 17)).block, (ad430.add ((x33_2).toNat * 17)).off + 5, none⟩ = some (.int .i64 ((za l1_3 x33_2).f3.f1.f0)) ∧ w'.cell? ⟨(ad430.add ((x33_2).toNat * 17)).block, (ad430.add ((x33_2).toNat * 17)).off + 6, none⟩ = some (.int .i64 ((za l1_3 x33_2).f3.f1.f1)) ∧ w'.cell? ⟨(ad430.add ((x33_2).toNat * 17)).block, (ad430.add ((x33_2).toNat * 17)).off + 7, none⟩ = some (.string ((za l1_3 x33_2).f3.f1.f2)) ∧ w'.cell? ⟨(ad430.add ((x33_2).toNat * 17)).block, (ad430.add ((x33_2).toNat * 17)).off + 8, none⟩ = some (.string ((za l1_3 x33_2).f4.f0)) ∧ w'.cell? ⟨(ad430.add ((x33_2).toNat * 17)).block, (ad430.add ((x33_2).toNat * 17)).off + 9, none⟩ = some (.int .i64 ((za l1_3 x33_2).f4.f1.f0)) ∧ w'.cell? ⟨(ad430.add ((x33_2).toNat * 17)).block, (ad430.add ((x33_2).toNat * 17)).off + 10, none⟩ = some (.int .i64 ((za l1_3 x33_2).f4.f1.f1)) ∧ w'.cell? ⟨(ad430.add ((x33_2).toNat * 17)).block, (ad430.add ((x33_2).toNat * 17)).off + 11, none⟩ = some (.string ((za l1_3 x33_2).f4.f1.f2)) ∧ w'.cell? ⟨(ad430.add ((x33_2).toNat * 17)).block, (ad430.add ((x33_2).toNat * 17)).off + 12, none⟩ = some (.string ((za l1_3 x33_2).f5.f0)) ∧ w'.cell? ⟨(ad430.add ((x33_2).toNat * 17)).block, (ad430.add ((x33_2).toNat * 17)).off + 13, none⟩ = some (.int .i64 ((za l1_3 x33_2).f5.f1.f0)) ∧ w'.cell? ⟨(ad430.add ((x33_2).toNat * 17)).block, (ad430.add ((x33_2).toNat * 17)).off + 14, none⟩ = some (.int .i64 ((za l1_3 x33_2).f5.f1.f1)) ∧ w'.cell? ⟨(ad430.add ((x33_2).toNat * 17)).block, (ad430.add ((x33_2).toNat * 17)).off + 15, none⟩ = some (.string ((za l1_3 x33_2).f5.f1.f2)) ∧ w'.cell? ⟨(ad430.add ((x33_2).toNat * 17)).block, (ad430.add ((x33_2).toNat * 17)).off + 16, none⟩ = some (.slice A430_16 ((za l1_3 x33_2).f6).length c430_16)) (ds := []) #[false, false, false, false, false, false, false, false, false, false, false, false, false, false] (by kernel_rfl) rfl rfl ⟨(zf BK426.out 0).trans rfl, (zf BK426.out 1).trans rfl, (zf BK426.out 2).trans rfl, (zf BK426.out 3).trans rfl, (zf BK427.out 0).trans rfl, (zf BK427.out 1).trans rfl, (zf BK427.out 2).trans rfl, (zf BK427.out 3).trans rfl, (zg HB.out hw429_0), (zg HB.out hw429_1), (zg HB.out hw429_2), (zg HB.out hw429_3), (zg HB.out hw429_4), (zg HB.out hw429_5), (zg HB.out hw429_6), (zg HB.out hw429_7), (zg HB.out hw429_8), (zg HB.out hw429_9), (zg HB.out hw429_10), (zg HB.out hw429_11), (zg HB.out hw429_12), (zg HB.out hw429_13), (zg HB.out hw429_14), (zg HB.out hw429_15), (zg HB.out hw429_16), (zg HB.out hw430_0), (zg HB.out hw430_1), (zg HB.out hw430_2), (zg HB.out hw430_3), (zg HB.out hw430_4), (zg HB.out hw430_5), (zg HB.out hw430_6), (zg HB.out hw430_7), (zg HB.out hw430_8), (zg HB.out hw430_9), (zg HB.out hw430_10), (zg HB.out hw430_11), (zg HB.out hw430_12), (zg HB.out hw430_13), (zg HB.out hw430_14), (zg HB.out hw430_15), (zg HB.out hw430_16)⟩ (fun hHeld => ?_); refine qw zj.tab6 zj.bits6 (fun HT_ HW_ => ?_)
                 generalize wr.drew = w38 at BK426 BK427 HB HR429_16 HR429_2 HR430_16 HR430_2 hx429_0 hx429_1 hx429_10 hx429_11 hx429_12 hx429_13 hx429_14 hx429_15 hx429_16 hx429_2 hx429_3 hx429_4 hx429_5 hx429_6 hx429_7 hx429_8 hx429_9 hx430_0 hx430_1 hx430_10 hx430_11 hx430_12 hx430_13 hx430_14 hx430_15 hx430_16 hx430_2 hx430_3 hx430_4 hx430_5 hx430_6 hx430_7 hx430_8 hx430_9 hHeld ⊢
                 refine pure_ (i := 0) (N := some 36) (v := ?_) (a' := ?_) #[true, false, false, false, false, false, false, false, false, false, false, false, false, false] rfl rfl (yn HT_.out (by kernel_rfl)) (fun _ _ _ h => h) (Or.inl ⟨by rfl, ?_⟩) ?_ ?_
                 rotate_left
                 ·intro w'
                  go_simp
                  with_reducible rfl
                 rotate_left
                 ·simp only [Act.put, List.setIfInBounds_toArray, List.set_cons_zero, List.set_cons_succ, i64_w, i32_w]
                  rfl
                 refine pure_ (i := 2) (N := some 38) (v := ?_) (a' := ?_) #[true, false, true, false, false, false, false, false, false, false, false, false, false, false] rfl rfl (yn HT_.out (by kernel_rfl)) (fun _ _ _ h => h) (Or.inl ⟨by rfl, ?_⟩) ?_ ?_
                 rotate_left
                 ·intro w'
                  go_simp
                  with_reducible rfl
                 rotate_left
                 ·simp only [Act.put, List.setIfInBounds_toArray, List.set_cons_zero, List.set_cons_succ, i64_w, i32_w]
                  rfl
                 refine pure_ (i := 5) (N := some 41) (v := ?_) (a' := ?_) #[true, false, true, false, false, true, false, false, false, false, false, false, false, false] rfl rfl (yn HT_.out (by kernel_rfl)) (fun _ _ _ h => h) (Or.inl ⟨by rfl, ?_⟩) ?_ ?_
                 rotate_left
                 ·intro w'
                  go_simp
                  with_reducible rfl
                 rotate_left
                 ·simp only [Act.put, List.setIfInBounds_toArray, List.set_cons_zero, List.set_cons_succ, i64_w, i32_w]
                  rfl
                 refine pure_ (i := 7) (N := some 43) (v := ?_) (a' := ?_) #[true, false, true, false, false, true, false, true, false, false, false, false, false, false] rfl rfl (yn HT_.out (by kernel_rfl)) (fun _ _ _ h => h) (Or.inl ⟨by rfl, ?_⟩) ?_ ?_
                 rotate_left
                 ·intro w'
                  go_simp
                  with_reducible rfl
                 rotate_left
                 ·simp only [Act.put, List.setIfInBounds_toArray, List.set_cons_zero, List.set_cons_succ, i64_w, i32_w]
                  rfl
                 refine take_ (i := 1) (N := some 37) (v := ?_) (a' := ?_) #[true, true, true, false, false, true, false, true, false, false, false, false, false, false] rfl rfl (yF HT_.out HW_.out (by kernel_rfl)) (fun _ _ _ h => h) (Or.inl ⟨by rfl, ?_⟩) hHeld ?_ ?_
                 rotate_left
                 ·rintro w' ⟨s0, s1, s2, s3, s4, s5, s6, s7, s8, s9, s10, s11, s12, s13, s14, s15, s16, s17, s18, s19, s20, s21, s22, s23, s24, s25, s26, s27, s28, s29, s30, s31, s32, s33, s34, s35, s36, s37, s38, s39, s40, s41⟩
                  go_simp
                  with_reducible rfl
                 rotate_left
                 ·simp only [Act.put, List.setIfInBounds_toArray, List.set_cons_zero, List.set_cons_succ, i64_w, i32_w]
                  rfl
                 refine pure_ (i := 3) (N := some 39) (v := ?_) (a' := ?_) #[true, true, true, true, false, true, false, true, false, false, false, false, false, false] rfl rfl (yn HT_.out (by kernel_rfl)) (fun _ _ _ h => h) (Or.inl ⟨by rfl, ?_⟩) ?_ ?_
                 rotate_left
                 ·intro w'
                  go_simp
                  with_reducible rfl
                 rotate_left
                 ·simp only [Act.put, List.setIfInBounds_toArray, List.set_cons_zero, List.set_cons_succ, i64_w, i32_w]
                  rfl
                 refine take_ (i := 4) (N := some 40) (v := ?_) (a' := ?_) #[true, true, true, true, true, true, false, true, false, false, false, false, false, false] rfl rfl (yF HT_.out HW_.out (by kernel_rfl)) (fun _ _ _ h => h) (Or.inl ⟨by rfl, ?_⟩) hHeld ?_ ?_
                 rotate_left
                 ·rintro w' ⟨s0, s1, s2, s3, s4, s5, s6, s7, s8, s9, s10, s11, s12, s13, s14, s15, s16, s17, s18, s19, s20, s21, s22, s23, s24, s25, s26, s27, s28, s29, s30, s31, s32, s33, s34, s35, s36, s37, s38, s39, s40, s41⟩
                  (refine exec_load_cells (ty := 43) (x := .tmp 39) (p := (ad429.add ((x33_2).toNat * 17))) (cs := [.int .i64 ((za l0_3 x33_2).f0), .string ((za l0_3 x33_2).f1.f0), .slice A429_2 ((za l0_3 x33_2).f1.f1).length c429_2, .string ((za l0_3 x33_2).f2), .string ((za l0_3 x33_2).f3.f0), .int .i64 ((za l0_3 x33_2).f3.f1.f0), .int .i64 ((za l0_3 x33_2).f3.f1.f1), .string ((za l0_3 x33_2).f3.f1.f2), .string ((za l0_3 x33_2).f4.f0), .int .i64 ((za l0_3 x33_2).f4.f1.f0), .int .i64 ((za l0_3 x33_2).f4.f1.f1), .string ((za l0_3 x33_2).f4.f1.f2), .string ((za l0_3 x33_2).f5.f0), .int .i64 ((za l0_3 x33_2).f5.f1.f0), .int .i64 ((za l0_3 x33_2).f5.f1.f1), .string ((za l0_3 x33_2).f5.f1.f2), .slice A429_16 ((za l0_3 x33_2).f6).length c429_16]) ?_ ?_ ?_ hu43 ?_ ?_; exact rfl; (first | with_reducible rfl | rfl); exact ⟨s8, ⟨s9, ⟨s10, ⟨s11, ⟨s12, ⟨s13, ⟨s14, ⟨s15, ⟨s16, ⟨s17, ⟨s18, ⟨s19, ⟨s20, ⟨s21, ⟨s22, ⟨s23, ⟨s24, trivial⟩⟩⟩⟩⟩⟩⟩⟩⟩⟩⟩⟩⟩⟩⟩⟩⟩; exact rfl; (as_aux_lemma => kernel_rfl))
                 rotate_left
                 ·simp only [Act.put, List.setIfInBounds_toArray, List.set_cons_zero, List.set_cons_succ, i64_w, i32_w]
                  rfl
                 refine take_ (i := 6) (N := some 42) (v := ?_) (a' := ?_) #[true, true, true, true, true, true, true, true, false, false, false, false, false, false] rfl rfl (yF HT_.out HW_.out (by kernel_rfl)) (fun _ _ _ h => h) (Or.inl ⟨by rfl, ?_⟩) hHeld ?_ ?_
                 rotate_left
                 ·rintro w' ⟨s0, s1, s2, s3, s4, s5, s6, s7, s8, s9, s10, s11, s12, s13, s14, s15, s16, s17, s18, s19, s20, s21, s22, s23, s24, s25, s26, s27, s28, s29, s30, s31, s32, s33, s34, s35, s36, s37, s38, s39, s40, s41⟩
                  go_simp
                  with_reducible rfl
                 rotate_left
                 ·simp only [Act.put, List.setIfInBounds_toArray, List.set_cons_zero, List.set_cons_succ, i64_w, i32_w]
                  rfl
                 refine pure_ (i := 8) (N := some 44) (v := ?_) (a' := ?_) #[true, true, true, true, true, true, true, true, true, false, false, false, false, false] rfl rfl (yn HT_.out (by kernel_rfl)) (fun _ _ _ h => h) (Or.inl ⟨by rfl, ?_⟩) ?_ ?_
                 rotate_left
                 ·intro w'
                  go_simp
                  with_reducible rfl
                 rotate_left
                 ·simp only [Act.put, List.setIfInBounds_toArray, List.set_cons_zero, List.set_cons_succ, i64_w, i32_w]
                  rfl
                 refine take_ (i := 9) (N := some 45) (v := ?_) (a' := ?_) #[true, true, true, true, true, true, true, true, true, true, false, false, false, false] rfl rfl (yF HT_.out HW_.out (by kernel_rfl)) (fun _ _ _ h => h) (Or.inl ⟨by rfl, ?_⟩) hHeld ?_ ?_
                 rotate_left
                 ·rintro w' ⟨s0, s1, s2, s3, s4, s5, s6, s7, s8, s9, s10, s11, s12, s13, s14, s15, s16, s17, s18, s19, s20, s21, s22, s23, s24, s25, s26, s27, s28, s29, s30, s31, s32, s33, s34, s35, s36, s37, s38, s39, s40, s41⟩
                  (refine exec_load_cells (ty := 43) (x := .tmp 44) (p := (ad430.add ((x33_2).toNat * 17))) (cs := [.int .i64 ((za l1_3 x33_2).f0), .string ((za l1_3 x33_2).f1.f0), .slice A430_2 ((za l1_3 x33_2).f1.f1).length c430_2, .string ((za l1_3 x33_2).f2), .string ((za l1_3 x33_2).f3.f0), .int .i64 ((za l1_3 x33_2).f3.f1.f0), .int .i64 ((za l1_3 x33_2).f3.f1.f1), .string ((za l1_3 x33_2).f3.f1.f2), .string ((za l1_3 x33_2).f4.f0), .int .i64 ((za l1_3 x33_2).f4.f1.f0), .int .i64 ((za l1_3 x33_2).f4.f1.f1), .string ((za l1_3 x33_2).f4.f1.f2), .string ((za l1_3 x33_2).f5.f0), .int .i64 ((za l1_3 x33_2).f5.f1.f0), .int .i64 ((za l1_3 x33_2).f5.f1.f1), .string ((za l1_3 x33_2).f5.f1.f2), .slice A430_16 ((za l1_3 x33_2).f6).length c430_16]) ?_ ?_ ?_ hu43 ?_ ?_; exact rfl; (first | with_reducible rfl | rfl); exact ⟨s25, ⟨s26, ⟨s27, ⟨s28, ⟨s29, ⟨s30, ⟨s31, ⟨s32, ⟨s33, ⟨s34, ⟨s35, ⟨s36, ⟨s37, ⟨s38, ⟨s39, ⟨s40, ⟨s41, trivial⟩⟩⟩⟩⟩⟩⟩⟩⟩⟩⟩⟩⟩⟩⟩⟩⟩; exact rfl; (as_aux_lemma => kernel_rfl))
                 rotate_left
                 ·simp only [Act.put, List.setIfInBounds_toArray, List.set_cons_zero, List.set_cons_succ, i64_w, i32_w]
                  rfl
                 refine join_ (σ := Nat × Nat) 2 #[true, true, true, true, true, true, true, true, true, true, true, true, false, false] (fun s_ => [(6, .pointer (some ⟨s_.1, 0, none⟩)), (7, .pointer (some ⟨s_.2, 0, none⟩))]) (fun s_ w' => (w'.cell? ⟨gb426, 0, none⟩ = some (.string a0_0) ∧ w'.cell? ⟨gb426, 1, none⟩ = some (.slice A0_1 l0_1.length c0_1) ∧ w'.cell? ⟨gb426, 2, none⟩ = some (.int .i64 a0_2) ∧ w'.cell? ⟨gb426, 3, none⟩ = some (.slice (some ad429) l0_3.length c0_3) ∧ w'.cell? ⟨gb427, 0, none⟩ = some (.string a1_0) ∧ w'.cell? ⟨gb427, 1, none⟩ = some (.slice A1_1 l1_1.length c1_1) ∧ w'.cell? ⟨gb427, 2, none⟩ = some (.int .i64 a1_2) ∧ w'.cell? ⟨gb427, 3, none⟩ = some (.slice (some ad430) l1_3.length c1_3) ∧ w'.cell? (ad429.add ((x33_2).toNat * 17)) = some (.int .i64 ((za l0_3 x33_2).f0)) ∧ w'.cell? ⟨(ad429.add ((x33_2).toNat * 17)).block, (ad429.add ((x33_2).toNat * 17)).off + 1, none⟩ = some (.string ((za l0_3 x33_2).f1.f0)) ∧ w'.cell? ⟨(ad429.add ((x33_2).toNat * 17)).block, (ad429.add ((x33_2).toNat * 17)).off + 2, none⟩ = some (.slice A429_2 ((za l0_3 x33_2).f1.f1).length c429_2) ∧ w'.cell? ⟨(ad429.add ((x33_2).toNat * 17)).block, (ad429.add ((x33_2).toNat * 17)).off + 3, none⟩ = some (.string ((za l0_3 x33_2).f2)) ∧ w'.cell? ⟨(ad429.add ((x33_2).toNat * 17)).block, (ad429.add ((x33_2).toNat * 17)).off + 4, none⟩ = some (.string ((za l0_3 x33_2).f3.f0)) ∧ w'.cell? ⟨(ad429.add ((x33_2).toNat * 17)).block, (ad429.add ((x33_2).toNat * 17)).off + 5, none⟩ = some (.int .i64 ((za l0_3 x33_2).f3.f1.f0)) ∧ w'.cell? ⟨(ad429.add ((x33_2).toNat * 17)).block, (ad429.add ((x33_2).toNat * 17)).off + 6, none⟩ = some (.int .i64 ((za l0_3 x33_2).f3.f1.f1)) ∧ w'.cell? ⟨(ad429.add ((x33_2).toNat * 17)).block, (ad429.add ((x33_2).toNat * 17)).off + 7, none⟩ = some (.string ((za l0_3 x33_2).f3.f1.f2)) ∧ w'.cell? ⟨(ad429.add ((x33_2).toNat * 17)).block, (ad429.add ((x33_2).toNat * 17)).off + 8, none⟩ = some (.string ((za l0_3 x33_2).f4.f0)) ∧ w'.cell? ⟨(ad429.add ((x33_2).toNat * 17)).block, (ad429.add ((x33_2).toNat * 17)).off + 9, none⟩ = some (.int .i64 ((za l0_3 x33_2).f4.f1.f0)) ∧ w'.cell? ⟨(ad429.add ((x33_2).toNat * 17)).block, (ad429.add ((x33_2).toNat * 17)).off + 10, none⟩ = some (.int .i64 ((za l0_3 x33_2).f4.f1.f1)) ∧ w'.cell? ⟨(ad429.add ((x33_2).toNat * 17)).block, (ad429.add ((x33_2).toNat * 17)).off + 11, none⟩ = some (.string ((za l0_3 x33_2).f4.f1.f2)) ∧ w'.cell? ⟨(ad429.add ((x33_2).toNat * 17)).block, (ad429.add ((x33_2).toNat * 17)).off + 12, none⟩ = some (.string ((za l0_3 x33_2).f5.f0)) ∧ w'.cell? ⟨(ad429.add ((x33_2).toNat * 17)).block, (ad429.add ((x33_2).toNat * 17)).off + 13, none⟩ = some (.int .i64 ((za l0_3 x33_2).f5.f1.f0)) ∧ w'.cell? ⟨(ad429.add ((x33_2).toNat * 17)).block, (ad429.add ((x33_2).toNat * 17)).off + 14, none⟩ = some (.int .i64 ((za l0_3 x33_2).f5.f1.f1)) ∧ w'.cell? ⟨(ad429.add ((x33_2).toNat * 17)).block, (ad429.add ((x33_2).toNat * 17)).off + 15, none⟩ = some (.string ((za l0_3 x33_2).f5.f1.f2)) ∧ w'.cell? ⟨(ad429.add ((x33_2).toNat * 17)).block, (ad429.add ((x33_2).toNat * 17)).off + 16, none⟩ = some (.slice A429_16 ((za l0_3 x33_2).f6).length c429_16) ∧ w'.cell? (ad430.add ((x33_2).toNat * 17)) = some (.int .i64 ((za l1_3 x33_2).f0)) ∧ w'.cell? ⟨(ad430.add ((x33_2).toNat * 17)).block, (ad430.add ((x33_2).toNat * 17)).off + 1, none⟩ = some (.string ((za l1_3 x33_2).f1.f0)) ∧ w'.cell? ⟨(ad430.add ((x33_2).toNat * 17)).block, (ad430.add ((x33_2).toNat * 17)).off + 2, none⟩ = some (.slice A430_2 ((za l1_3 x33_2).f1.f1).length c430_2) ∧ w'.cell? ⟨(ad430.add ((x33_2).toNat * 17)).block, (ad430.add ((x33_2).toNat * 17)).off + 3, none⟩ = some (.string ((za l1_3 x33_2).f2)) ∧ w'.cell? ⟨(ad430.add ((x33_2).toNat * 17)).block, (ad430.add ((x33_2).toNat * 17)).off + 4, none⟩ = some (.string ((za l1_3 x33_2).f3.f0)) ∧ w'.cell? ⟨(ad430.add ((x33_2).toNat * 17)).block, (ad430.add ((x33_2).toNat * 17)).off + 5, none⟩ = some (.int .i64 ((za l1_3 x33_2).f3.f1.f0)) ∧ w'.cell? ⟨(ad430.add ((x33_2).toNat * 17)).block, (ad430.add ((x33_2).toNat * 17)).off + 6, none⟩ = some (.int .i64 ((za l1_3 x33_2).f3.f1.f1)) ∧ w'.cell? ⟨(ad430.add ((x33_2).toNat * 17)).block, (ad430.add ((x33_2).toNat * 17)).off + 7, none⟩ = some (.string ((za l1_3 x33_2).f3.f1.f2)) ∧ w'.cell? ⟨(ad430.add ((x33_2).toNat * 17)).block, (ad430.add ((x33_2).toNat * 17)).off + 8, none⟩ = some (.string ((za l1_3 x33_2).f4.f0)) ∧ w'.cell? ⟨(ad430.add ((x33_2).toNat * 17)).block, (ad430.add ((x33_2).toNat * 17)).off + 9, none⟩ = some (.int .i64 ((za l1_3 x33_2).f4.f1.f0)) ∧ w'.cell? ⟨(ad430.add ((x33_2).toNat * 17)).block, (ad430.add ((x33_2).toNat * 17)).off + 10, none⟩ = some (.int .i64 ((za l1_3 x33_2).f4.f1.f1)) ∧ w'.cell? ⟨(ad430.add ((x33_2).toNat * 17)).block, (ad430.add ((x33_2).toNat * 17)).off + 11, none⟩ = some (.string ((za l1_3 x33_2).f4.f1.f2)) ∧ w'.cell? ⟨(ad430.add ((x33_2).toNat * 17)).block, (ad430.add ((x33_2).toNat * 17)).off + 12, none⟩ = some (.string ((za l1_3 x33_2).f5.f0)) ∧ w'.cell? ⟨(ad430.add ((x33_2).toNat * 17)).block, (ad430.add ((x33_2).toNat * 17)).off + 13, none⟩ = some (.int .i64 ((za l1_3 x33_2).f5.f1.f0)) ∧ w'.cell? ⟨(ad430.add ((x33_2).toNat * 17)).block, (ad430.add ((x33_2).toNat * 17)).off + 14, none⟩ = some (.int .i64 ((za l1_3 x33_2).f5.f1.f1)) ∧ w'.cell? ⟨(ad430.add ((x33_2).toNat * 17)).block, (ad430.add ((x33_2).toNat * 17)).off + 15, none⟩ = some (.string ((za l1_3 x33_2).f5.f1.f2)) ∧ w'.cell? ⟨(ad430.add ((x33_2).toNat * 17)).block, (ad430.add ((x33_2).toNat * 17)).off + 16, none⟩ = some (.slice A430_16 ((za l1_3 x33_2).f6).length c430_16)) ∧ (w'.heap[gb426]? = some (.cells #[.string a0_0, .slice A0_1 l0_1.length c0_1, .int .i64 a0_2, .slice (some ad429) l0_3.length c0_3] 51 (0, 0))) ∧ (w'.heap[gb427]? = some (.cells #[.string a1_0, .slice A1_1 l1_1.length c1_1, .int .i64 a1_2, .slice (some ad430) l1_3.length c1_3] 51 (0, 0))) ∧ (w'.heap[s_.1]? = some (.cells #[.int .i64 0, .string (⟨#[]⟩ : ByteArray), .slice none 0 0, .string (⟨#[]⟩ : ByteArray), .string (⟨#[]⟩ : ByteArray), .int .i64 0, .int .i64 0, .string (⟨#[]⟩ : ByteArray), .string (⟨#[]⟩ : ByteArray), .int .i64 0, .int .i64 0, .string (⟨#[]⟩ : ByteArray), .string (⟨#[]⟩ : ByteArray), .int .i64 0, .int .i64 0, .string (⟨#[]⟩ : ByteArray), .slice none 0 0] 43 (0, 0))) ∧ (w'.heap[s_.2]? = some (.cells #[.int .i64 0, .string (⟨#[]⟩ : ByteArray), .slice none 0 0, .string (⟨#[]⟩ : ByteArray), .string (⟨#[]⟩ : ByteArray), .int .i64 0, .int .i64 0, .string (⟨#[]⟩ : ByteArray), .string (⟨#[]⟩ : ByteArray), .int .i64 0, .int .i64 0, .string (⟨#[]⟩ : ByteArray), .string (⟨#[]⟩ : ByteArray), .int .i64 0, .int .i64 0, .string (⟨#[]⟩ : ByteArray), .slice none 0 0] 43 (0, 0))) ∧ (w.heap.size ≤ s_.1) ∧ (w.heap.size ≤ s_.1) ∧ (gb426 ≠ s_.1) ∧ (s_.1 ≠ gb426) ∧ (gb427 ≠ s_.1) ∧ (s_.1 ≠ gb427) ∧ (s_.2 ≠ s_.1) ∧ (s_.1 ≠ s_.2) ∧ (w.heap.size ≤ s_.2) ∧ (w.heap.size ≤ s_.2) ∧ (gb426 ≠ s_.2) ∧ (s_.2 ≠ gb426) ∧ (gb427 ≠ s_.2) ∧ (s_.2 ≠ gb427) ∧ (Below w.heap.size w w')) ?_ ?_
                 rotate_left
                 ·intro hCont
                  refine two_ (i := 10) (j := 11) (Ni := some 6) (Nj := some 7) #[true, true, true, true, true, true, true, true, true, true, true, false, false, false] #[true, true, true, true, true, true, true, true, true, true, false, true, false, false] rfl rfl rfl rfl (two_of HT_.out (by kernel_rfl)) (by decide) (by decide) (fun K hK => ?_) (fun K hK => ?_)
                  ·skip
                   refine box_step ?hg (N := 6) ?hd (cs := #[.int .i64 0, .string (⟨#[]⟩ : ByteArray), .slice none 0 0, .string (⟨#[]⟩ : ByteArray), .string (⟨#[]⟩ : ByteArray), .int .i64 0, .int .i64 0, .string (⟨#[]⟩ : ByteArray), .string (⟨#[]⟩ : ByteArray), .int .i64 0, .int .i64 0, .string (⟨#[]⟩ : ByteArray), .string (⟨#[]⟩ : ByteArray), .int .i64 0, .int .i64 0, .string (⟨#[]⟩ : ByteArray), .slice none 0 0]) (t := 43) ?hr ?_; (case hd => rfl); (case hg => rfl); (case hr => first | (go_simp; done) | (go_simp; rfl))
                   intro gb431 hg w39 hbox hb
                   have n0_ := zb.mk (zo (ul BK426.out) hb)
                   have n1_ := zb.mk (zo (ul BK427.out) hb)
                   have n2_ := zb.mk (zn (by repeat (first | exact ub HB.out | apply zd | apply zc | apply ze | refine zh ?_ ‹_›)) hb)
                   have n3_ := zb.mk (hbox)
                   have n4_ := zb.mk ((by rw [hg]; exact (zi (by repeat (first | exact ub HB.out | apply zd | apply zc | apply ze | refine zh ?_ ‹_›))) : w.heap.size ≤ gb431))
                   have n5_ := zb.mk ((by rw [hg]; exact (zi (by repeat (first | exact ub HB.out | apply zd | apply zc | apply ze | refine zh ?_ ‹_›))) : w.heap.size ≤ gb431))
                   have n6_ := zb.mk ((by rw [hg]; exact Nat.ne_of_lt (zO (ul BK426.out)) : gb426 ≠ gb431))
                   have n7_ := zb.mk ((by rw [hg]; exact Nat.ne_of_gt (zO (ul BK426.out)) : gb431 ≠ gb426))
                   have n8_ := zb.mk ((by rw [hg]; exact Nat.ne_of_lt (zO (ul BK427.out)) : gb427 ≠ gb431))
                   have n9_ := zb.mk ((by rw [hg]; exact Nat.ne_of_gt (zO (ul BK427.out)) : gb431 ≠ gb427))
                   clear BK426
                   clear BK427
                   clear HB
                   have BK426 := n0_
                   have BK427 := n1_
                   have HB := n2_
                   have BK431 := n3_
                   have GW431 := n4_
                   have GE431 := n5_
                   have NB426_431 := n6_
                   have NB431_426 := n7_
                   have NB427_431 := n8_
                   have NB431_427 := n9_
                   clear n0_ n1_ n2_ n3_ n4_ n5_ n6_ n7_ n8_ n9_
                   clear hb hbox hg
                   refine hK.out _ _ ⟨(zf BK426.out 0).trans rfl, (zf BK426.out 1).trans rfl, (zf BK426.out 2).trans rfl, (zf BK426.out 3).trans rfl, (zf BK427.out 0).trans rfl, (zf BK427.out 1).trans rfl, (zf BK427.out 2).trans rfl, (zf BK427.out 3).trans rfl, (zg HB.out hw429_0), (zg HB.out hw429_1), (zg HB.out hw429_2), (zg HB.out hw429_3), (zg HB.out hw429_4), (zg HB.out hw429_5), (zg HB.out hw429_6), (zg HB.out hw429_7), (zg HB.out hw429_8), (zg HB.out hw429_9), (zg HB.out hw429_10), (zg HB.out hw429_11), (zg HB.out hw429_12), (zg HB.out hw429_13), (zg HB.out hw429_14), (zg HB.out hw429_15), (zg HB.out hw429_16), (zg HB.out hw430_0), (zg HB.out hw430_1), (zg HB.out hw430_2), (zg HB.out hw430_3), (zg HB.out hw430_4), (zg HB.out hw430_5), (zg HB.out hw430_6), (zg HB.out hw430_7), (zg HB.out hw430_8), (zg HB.out hw430_9), (zg HB.out hw430_10), (zg HB.out hw430_11), (zg HB.out hw430_12), (zg HB.out hw430_13), (zg HB.out hw430_14), (zg HB.out hw430_15), (zg HB.out hw430_16)⟩ (fun hHeld => ?_)
                   clear hK K
                   refine norm_ (a' := ?_) ?_ ?_
                   rotate_left
                   ·show Act.put _ (some 6) _ = _
                    simp only [Act.put, List.setIfInBounds_toArray, List.set_cons_zero, List.set_cons_succ, i64_w, i32_w]
                    rfl
                   refine one_ (i := 11) (N := some 7) #[true, true, true, true, true, true, true, true, true, true, true, true, false, false] rfl rfl (ql HT_.out (by kernel_rfl)) (by decide) (fun K hK => ?_)
                   refine box_step ?hg (N := 7) ?hd (cs := #[.int .i64 0, .string (⟨#[]⟩ : ByteArray), .slice none 0 0, .string (⟨#[]⟩ : ByteArray), .string (⟨#[]⟩ : ByteArray), .int .i64 0, .int .i64 0, .string (⟨#[]⟩ : ByteArray), .string (⟨#[]⟩ : ByteArray), .int .i64 0, .int .i64 0, .string (⟨#[]⟩ : ByteArray), .string (⟨#[]⟩ : ByteArray), .int .i64 0, .int .i64 0, .string (⟨#[]⟩ : ByteArray), .slice none 0 0]) (t := 43) ?hr ?_; (case hd => rfl); (case hg => rfl); (case hr => first | (go_simp; done) | (go_simp; rfl))
                   intro gb432 hg w40 hbox hb
                   have n0_ := zb.mk (zo (ul BK426.out) hb)
                   have n1_ := zb.mk (zo (ul BK427.out) hb)
                   have n2_ := zb.mk (zo (ul BK431.out) hb)
                   have n3_ := zb.mk (zn (by repeat (first | exact ub HB.out | apply zd | apply zc | apply ze | refine zh ?_ ‹_›)) hb)
                   have n4_ := zb.mk (hbox)
                   have n5_ := zb.mk ((by rw [hg]; exact (zi (by repeat (first | exact ub HB.out | apply zd | apply zc | apply ze | refine zh ?_ ‹_›))) : w.heap.size ≤ gb432))
                   have n6_ := zb.mk ((by rw [hg]; exact (zi (by repeat (first | exact ub HB.out | apply zd | apply zc | apply ze | refine zh ?_ ‹_›))) : w.heap.size ≤ gb432))
                   have n7_ := zb.mk ((by rw [hg]; exact Nat.ne_of_lt (zO (ul BK426.out)) : gb426 ≠ gb432))
                   have n8_ := zb.mk ((by rw [hg]; exact Nat.ne_of_gt (zO (ul BK426.out)) : gb432 ≠ gb426))
                   have n9_ := zb.mk ((by rw [hg]; exact Nat.ne_of_lt (zO (ul BK427.out)) : gb427 ≠ gb432))
                   have n10_ := zb.mk ((by rw [hg]; exact Nat.ne_of_gt (zO (ul BK427.out)) : gb432 ≠ gb427))
                   have n11_ := zb.mk ((by rw [hg]; exact Nat.ne_of_lt (zO (ul BK431.out)) : gb431 ≠ gb432))
                   have n12_ := zb.mk ((by rw [hg]; exact Nat.ne_of_gt (zO (ul BK431.out)) : gb432 ≠ gb431))
                   clear BK426
                   clear BK427
                   clear BK431
                   clear HB
                   have BK426 := n0_
                   have BK427 := n1_
                   have BK431 := n2_
                   have HB := n3_
                   have BK432 := n4_
                   have GW432 := n5_
                   have GE432 := n6_
                   have NB426_432 := n7_
                   have NB432_426 := n8_
                   have NB427_432 := n9_
                   have NB432_427 := n10_
                   have NB431_432 := n11_
                   have NB432_431 := n12_
                   clear n0_ n1_ n2_ n3_ n4_ n5_ n6_ n7_ n8_ n9_ n10_ n11_ n12_
                   clear hb hbox hg
                   refine hK.out _ _ ⟨(zf BK426.out 0).trans rfl, (zf BK426.out 1).trans rfl, (zf BK426.out 2).trans rfl, (zf BK426.out 3).trans rfl, (zf BK427.out 0).trans rfl, (zf BK427.out 1).trans rfl, (zf BK427.out 2).trans rfl, (zf BK427.out 3).trans rfl, (zg HB.out hw429_0), (zg HB.out hw429_1), (zg HB.out hw429_2), (zg HB.out hw429_3), (zg HB.out hw429_4), (zg HB.out hw429_5), (zg HB.out hw429_6), (zg HB.out hw429_7), (zg HB.out hw429_8), (zg HB.out hw429_9), (zg HB.out hw429_10), (zg HB.out hw429_11), (zg HB.out hw429_12), (zg HB.out hw429_13), (zg HB.out hw429_14), (zg HB.out hw429_15), (zg HB.out hw429_16), (zg HB.out hw430_0), (zg HB.out hw430_1), (zg HB.out hw430_2), (zg HB.out hw430_3), (zg HB.out hw430_4), (zg HB.out hw430_5), (zg HB.out hw430_6), (zg HB.out hw430_7), (zg HB.out hw430_8), (zg HB.out hw430_9), (zg HB.out hw430_10), (zg HB.out hw430_11), (zg HB.out hw430_12), (zg HB.out hw430_13), (zg HB.out hw430_14), (zg HB.out hw430_15), (zg HB.out hw430_16)⟩ (fun hHeld => ?_)
                   clear hK K
                   refine norm_ (a' := ?_) ?_ ?_
                   rotate_left
                   ·show Act.put _ (some 7) _ = _
                    simp only [Act.put, List.setIfInBounds_toArray, List.set_cons_zero, List.set_cons_succ, i64_w, i32_w]
                    rfl
                   exact norm_ (by simp only [putAll, Act.put, List.setIfInBounds_toArray, List.set_cons_zero, List.set_cons_succ]) (hCont (gb431, gb432) _ ⟨hHeld, (ul BK426.out), (ul BK427.out), (ul BK431.out), (ul BK432.out), GW431.out, GE431.out, NB426_431.out, NB431_426.out, NB427_431.out, NB431_427.out, NB432_431.out, NB431_432.out, GW432.out, GE432.out, NB426_432.out, NB432_426.out, NB427_432.out, NB432_427.out, (by repeat (first | exact ub HB.out | apply zd | apply zc | apply ze | refine zh ?_ ‹_›))⟩)
                  ·skip
                   refine box_step ?hg (N := 7) ?hd (cs := #[.int .i64 0, .string (⟨#[]⟩ : ByteArray), .slice none 0 0, .string (⟨#[]⟩ : ByteArray), .string (⟨#[]⟩ : ByteArray), .int .i64 0, .int .i64 0, .string (⟨#[]⟩ : ByteArray), .string (⟨#[]⟩ : ByteArray), .int .i64 0, .int .i64 0, .string (⟨#[]⟩ : ByteArray), .string (⟨#[]⟩ : ByteArray), .int .i64 0, .int .i64 0, .string (⟨#[]⟩ : ByteArray), .slice none 0 0]) (t := 43) ?hr ?_; (case hd => rfl); (case hg => rfl); (case hr => first | (go_simp; done) | (go_simp; rfl))
                   intro gb432 hg w39 hbox hb
                   have n0_ := zb.mk (zo (ul BK426.out) hb)
                   have n1_ := zb.mk (zo (ul BK427.out) hb)
                   have n2_ := zb.mk (zn (by repeat (first | exact ub HB.out | apply zd | apply zc | apply ze | refine zh ?_ ‹_›)) hb)
                   have n3_ := zb.mk (hbox)
                   have n4_ := zb.mk ((by rw [hg]; exact (zi (by repeat (first | exact ub HB.out | apply zd | apply zc | apply ze | refine zh ?_ ‹_›))) : w.heap.size ≤ gb432))
                   have n5_ := zb.mk ((by rw [hg]; exact (zi (by repeat (first | exact ub HB.out | apply zd | apply zc | apply ze | refine zh ?_ ‹_›))) : w.heap.size ≤ gb432))
                   have n6_ := zb.mk ((by rw [hg]; exact Nat.ne_of_lt (zO (ul BK426.out)) : gb426 ≠ gb432))
                   have n7_ := zb.mk ((by rw [hg]; exact Nat.ne_of_gt (zO (ul BK426.out)) : gb432 ≠ gb426))
                   have n8_ := zb.mk ((by rw [hg]; exact Nat.ne_of_lt (zO (ul BK427.out)) : gb427 ≠ gb432))
                   have n9_ := zb.mk ((by rw [hg]; exact Nat.ne_of_gt (zO (ul BK427.out)) : gb432 ≠ gb427))
                   clear BK426
                   clear BK427
                   clear HB
                   have BK426 := n0_
                   have BK427 := n1_
                   have HB := n2_
                   have BK432 := n3_
                   have GW432 := n4_
                   have GE432 := n5_
                   have NB426_432 := n6_
                   have NB432_426 := n7_
                   have NB427_432 := n8_
                   have NB432_427 := n9_
                   clear n0_ n1_ n2_ n3_ n4_ n5_ n6_ n7_ n8_ n9_
                   clear hb hbox hg
                   refine hK.out _ _ ⟨(zf BK426.out 0).trans rfl, (zf BK426.out 1).trans rfl, (zf BK426.out 2).trans rfl, (zf BK426.out 3).trans rfl, (zf BK427.out 0).trans rfl, (zf BK427.out 1).trans rfl, (zf BK427.out 2).trans rfl, (zf BK427.out 3).trans rfl, (zg HB.out hw429_0), (zg HB.out hw429_1), (zg HB.out hw429_2), (zg HB.out hw429_3), (zg HB.out hw429_4), (zg HB.out hw429_5), (zg HB.out hw429_6), (zg HB.out hw429_7), (zg HB.out hw429_8), (zg HB.out hw429_9), (zg HB.out hw429_10), (zg HB.out hw429_11), (zg HB.out hw429_12), (zg HB.out hw429_13), (zg HB.out hw429_14), (zg HB.out hw429_15), (zg HB.out hw429_16), (zg HB.out hw430_0), (zg HB.out hw430_1), (zg HB.out hw430_2), (zg HB.out hw430_3), (zg HB.out hw430_4), (zg HB.out hw430_5), (zg HB.out hw430_6), (zg HB.out hw430_7), (zg HB.out hw430_8), (zg HB.out hw430_9), (zg HB.out hw430_10), (zg HB.out hw430_11), (zg HB.out hw430_12), (zg HB.out hw430_13), (zg HB.out hw430_14), (zg HB.out hw430_15), (zg HB.out hw430_16)⟩ (fun hHeld => ?_)
                   clear hK K
                   refine norm_ (a' := ?_) ?_ ?_
                   rotate_left
                   ·show Act.put _ (some 7) _ = _
                    simp only [Act.put, List.setIfInBounds_toArray, List.set_cons_zero, List.set_cons_succ, i64_w, i32_w]
                    rfl
                   refine one_ (i := 10) (N := some 6) #[true, true, true, true, true, true, true, true, true, true, true, true, false, false] rfl rfl (ql HT_.out (by kernel_rfl)) (by decide) (fun K hK => ?_)
                   refine box_step ?hg (N := 6) ?hd (cs := #[.int .i64 0, .string (⟨#[]⟩ : ByteArray), .slice none 0 0, .string (⟨#[]⟩ : ByteArray), .string (⟨#[]⟩ : ByteArray), .int .i64 0, .int .i64 0, .string (⟨#[]⟩ : ByteArray), .string (⟨#[]⟩ : ByteArray), .int .i64 0, .int .i64 0, .string (⟨#[]⟩ : ByteArray), .string (⟨#[]⟩ : ByteArray), .int .i64 0, .int .i64 0, .string (⟨#[]⟩ : ByteArray), .slice none 0 0]) (t := 43) ?hr ?_; (case hd => rfl); (case hg => rfl); (case hr => first | (go_simp; done) | (go_simp; rfl))
                   intro gb431 hg w40 hbox hb
                   have n0_ := zb.mk (zo (ul BK426.out) hb)
                   have n1_ := zb.mk (zo (ul BK427.out) hb)
                   have n2_ := zb.mk (zo (ul BK432.out) hb)
                   have n3_ := zb.mk (zn (by repeat (first | exact ub HB.out | apply zd | apply zc | apply ze | refine zh ?_ ‹_›)) hb)
                   have n4_ := zb.mk (hbox)
                   have n5_ := zb.mk ((by rw [hg]; exact (zi (by repeat (first | exact ub HB.out | apply zd | apply zc | apply ze | refine zh ?_ ‹_›))) : w.heap.size ≤ gb431))
                   have n6_ := zb.mk ((by rw [hg]; exact (zi (by repeat (first | exact ub HB.out | apply zd | apply zc | apply ze | refine zh ?_ ‹_›))) : w.heap.size ≤ gb431))
                   have n7_ := zb.mk ((by rw [hg]; exact Nat.ne_of_lt (zO (ul BK426.out)) : gb426 ≠ gb431))
                   have n8_ := zb.mk ((by rw [hg]; exact Nat.ne_of_gt (zO (ul BK426.out)) : gb431 ≠ gb426))
                   have n9_ := zb.mk ((by rw [hg]; exact Nat.ne_of_lt (zO (ul BK427.out)) : gb427 ≠ gb431))
                   have n10_ := zb.mk ((by rw [hg]; exact Nat.ne_of_gt (zO (ul BK427.out)) : gb431 ≠ gb427))
                   have n11_ := zb.mk ((by rw [hg]; exact Nat.ne_of_lt (zO (ul BK432.out)) : gb432 ≠ gb431))
                   have n12_ := zb.mk ((by rw [hg]; exact Nat.ne_of_gt (zO (ul BK432.out)) : gb431 ≠ gb432))
                   clear BK426
                   clear BK427
                   clear BK432
                   clear HB
                   have BK426 := n0_
                   have BK427 := n1_
                   have BK432 := n2_
                   have HB := n3_
                   have BK431 := n4_
                   have GW431 := n5_
                   have GE431 := n6_
                   have NB426_431 := n7_
                   have NB431_426 := n8_
                   have NB427_431 := n9_
                   have NB431_427 := n10_
                   have NB432_431 := n11_
                   have NB431_432 := n12_
                   clear n0_ n1_ n2_ n3_ n4_ n5_ n6_ n7_ n8_ n9_ n10_ n11_ n12_
                   clear hb hbox hg
                   refine hK.out _ _ ⟨(zf BK426.out 0).trans rfl, (zf BK426.out 1).trans rfl, (zf BK426.out 2).trans rfl, (zf BK426.out 3).trans rfl, (zf BK427.out 0).trans rfl, (zf BK427.out 1).trans rfl, (zf BK427.out 2).trans rfl, (zf BK427.out 3).trans rfl, (zg HB.out hw429_0), (zg HB.out hw429_1), (zg HB.out hw429_2), (zg HB.out hw429_3), (zg HB.out hw429_4), (zg HB.out hw429_5), (zg HB.out hw429_6), (zg HB.out hw429_7), (zg HB.out hw429_8), (zg HB.out hw429_9), (zg HB.out hw429_10), (zg HB.out hw429_11), (zg HB.out hw429_12), (zg HB.out hw429_13), (zg HB.out hw429_14), (zg HB.out hw429_15), (zg HB.out hw429_16), (zg HB.out hw430_0), (zg HB.out hw430_1), (zg HB.out hw430_2), (zg HB.out hw430_3), (zg HB.out hw430_4), (zg HB.out hw430_5), (zg HB.out hw430_6), (zg HB.out hw430_7), (zg HB.out hw430_8), (zg HB.out hw430_9), (zg HB.out hw430_10), (zg HB.out hw430_11), (zg HB.out hw430_12), (zg HB.out hw430_13), (zg HB.out hw430_14), (zg HB.out hw430_15), (zg HB.out hw430_16)⟩ (fun hHeld => ?_)
                   clear hK K
                   refine norm_ (a' := ?_) ?_ ?_
                   rotate_left
                   ·show Act.put _ (some 6) _ = _
                    simp only [Act.put, List.setIfInBounds_toArray, List.set_cons_zero, List.set_cons_succ, i64_w, i32_w]
                    rfl
                   exact norm_ (by simp only [putAll, Act.put, List.setIfInBounds_toArray, List.set_cons_zero, List.set_cons_succ]) (hCont (gb431, gb432) _ ⟨hHeld, (ul BK426.out), (ul BK427.out), (ul BK431.out), (ul BK432.out), GW431.out, GE431.out, NB426_431.out, NB431_426.out, NB427_431.out, NB431_427.out, NB432_431.out, NB431_432.out, GW432.out, GE432.out, NB426_432.out, NB432_426.out, NB427_432.out, NB432_427.out, (by repeat (first | exact ub HB.out | apply zd | apply zc | apply ze | refine zh ?_ ‹_›))⟩)
                 rintro ⟨gb431, gb432⟩ w41 ⟨hS_, h0_, h1_, h2_, h3_, h4_, h5_, h6_, h7_, h8_, h9_, h10_, h11_, h12_, h13_, h14_, h15_, h16_, h17_, h18_⟩
                 have n0_ : zb (w41.heap[gb426]? = some (.cells #[.string a0_0, .slice A0_1 l0_1.length c0_1, .int .i64 a0_2, .slice (some ad429) l0_3.length c0_3] 51 (0, 0))) := ⟨h0_⟩
                 have n1_ : zb (w41.heap[gb427]? = some (.cells #[.string a1_0, .slice A1_1 l1_1.length c1_1, .int .i64 a1_2, .slice (some ad430) l1_3.length c1_3] 51 (0, 0))) := ⟨h1_⟩
                 have n2_ : zb (w41.heap[gb431]? = some (.cells #[.int .i64 0, .string (⟨#[]⟩ : ByteArray), .slice none 0 0, .string (⟨#[]⟩ : ByteArray), .string (⟨#[]⟩ : ByteArray), .int .i64 0, .int .i64 0, .string (⟨#[]⟩ : ByteArray), .string (⟨#[]⟩ : ByteArray), .int .i64 0, .int .i64 0, .string (⟨#[]⟩ : ByteArray), .string (⟨#[]⟩ : ByteArray), .int .i64 0, .int .i64 0, .string (⟨#[]⟩ : ByteArray), .slice none 0 0] 43 (0, 0))) := ⟨h2_⟩
                 have n3_ : zb (w41.heap[gb432]? = some (.cells #[.int .i64 0, .string (⟨#[]⟩ : ByteArray), .slice none 0 0, .string (⟨#[]⟩ : ByteArray), .string (⟨#[]⟩ : ByteArray), .int .i64 0, .int .i64 0, .string (⟨#[]⟩ : ByteArray), .string (⟨#[]⟩ : ByteArray), .int .i64 0, .int .i64 0, .string (⟨#[]⟩ : ByteArray), .string (⟨#[]⟩ : ByteArray), .int .i64 0, .int .i64 0, .string (⟨#[]⟩ : ByteArray), .slice none 0 0] 43 (0, 0))) := ⟨h3_⟩
                 have n4_ : zb (w.heap.size ≤ gb431) := ⟨h4_⟩
                 have n5_ : zb (w.heap.size ≤ gb431) := ⟨h5_⟩
                 have n6_ : zb (gb426 ≠ gb431) := ⟨h6_⟩
                 have n7_ : zb (gb431 ≠ gb426) := ⟨h7_⟩
                 have n8_ : zb (gb427 ≠ gb431) := ⟨h8_⟩
                 have n9_ : zb (gb431 ≠ gb427) := ⟨h9_⟩
                 have n10_ : zb (gb432 ≠ gb431) := ⟨h10_⟩
                 have n11_ : zb (gb431 ≠ gb432) := ⟨h11_⟩
                 have n12_ : zb (w.heap.size ≤ gb432) := ⟨h12_⟩
                 have n13_ : zb (w.heap.size ≤ gb432) := ⟨h13_⟩
                 have n14_ : zb (gb426 ≠ gb432) := ⟨h14_⟩
                 have n15_ : zb (gb432 ≠ gb426) := ⟨h15_⟩
                 have n16_ : zb (gb427 ≠ gb432) := ⟨h16_⟩
                 have n17_ : zb (gb432 ≠ gb427) := ⟨h17_⟩
                 have n18_ : zb (Below w.heap.size w w41) := ⟨h18_⟩
                 clear BK426
                 clear BK427
                 clear HB
                 clear h0_ h1_ h2_ h3_ h4_ h5_ h6_ h7_ h8_ h9_ h10_ h11_ h12_ h13_ h14_ h15_ h16_ h17_ h18_
                 have BK426 := n0_
                 have BK427 := n1_
                 have BK431 := n2_
                 have BK432 := n3_
                 have GW431 := n4_
                 have GE431 := n5_
                 have NB426_431 := n6_
                 have NB431_426 := n7_
                 have NB427_431 := n8_
                 have NB431_427 := n9_
                 have NB432_431 := n10_
                 have NB431_432 := n11_
                 have GW432 := n12_
                 have GE432 := n13_
                 have NB426_432 := n14_
                 have NB432_426 := n15_
                 have NB427_432 := n16_
                 have NB432_427 := n17_
                 have HB := n18_
                 clear n0_ n1_ n2_ n3_ n4_ n5_ n6_ n7_ n8_ n9_ n10_ n11_ n12_ n13_ n14_ n15_ n16_ n17_ n18_
                 have hHeld : w41.cell? ⟨gb426, 0, none⟩ = some (.string a0_0) ∧ w41.cell? ⟨gb426, 1, none⟩ = some (.slice A0_1 l0_1.length c0_1) ∧ w41.cell? ⟨gb426, 2, none⟩ = some (.int .i64 a0_2) ∧ w41.cell? ⟨gb426, 3, none⟩ = some (.slice (some ad429) l0_3.length c0_3) ∧ w41.cell? ⟨gb427, 0, none⟩ = some (.string a1_0) ∧ w41.cell? ⟨gb427, 1, none⟩ = some (.slice A1_1 l1_1.length c1_1) ∧ w41.cell? ⟨gb427, 2, none⟩ = some (.int .i64 a1_2) ∧ w41.cell? ⟨gb427, 3, none⟩ = some (.slice (some ad430) l1_3.length c1_3) ∧ w41.cell? (ad429.add ((x33_2).toNat * 17)) = some (.int .i64 ((za l0_3 x33_2).f0)) ∧ w41.cell? ⟨(ad429.add ((x33_2).toNat * 17)).block, (ad429.add ((x33_2).toNat * 17)).off + 1, none⟩ = some (.string ((za l0_3 x33_2).f1.f0)) ∧ w41.cell? ⟨(ad429.add ((x33_2).toNat * 17)).block, (ad429.add ((x33_2).toNat * 17)).off + 2, none⟩ = some (.slice A429_2 ((za l0_3 x33_2).f1.f1).length c429_2) ∧ w41.cell? ⟨(ad429.add ((x33_2).toNat * 17)).block, (ad429.add ((x33_2).toNat * 17)).off + 3, none⟩ = some (.string ((za l0_3 x33_2).f2)) ∧ w41.cell? ⟨(ad429.add ((x33_2).toNat * 17)).block, (ad429.add ((x33_2).toNat * 17)).off + 4, none⟩ = some (.string ((za l0_3 x33_2).f3.f0)) ∧ w41.cell? ⟨(ad429.add ((x33_2).toNat * 17)).block, (ad429.add ((x33_2).toNat * 17)).off + 5, none⟩ = some (.int .i64 ((za l0_3 x33_2).f3.f1.f0)) ∧ w41.cell? ⟨(ad429.add ((x33_2).toNat * 17)).block, (ad429.add ((x33_2).toNat * 17)).off + 6, none⟩ = some (.int .i64 ((za l0_3 x33_2).f3.f1.f1)) ∧ w41.cell? ⟨(ad429.add ((x33_2).toNat * 17)).block, (ad429.add ((x33_2).toNat * 17)).off + 7, none⟩ = some (.string ((za l0_3 x33_2).f3.f1.f2)) ∧ w41.cell? ⟨(ad429.add ((x33_2).toNat * 17)).block, (ad429.add ((x33_2).toNat * 17)).off + 8, none⟩ = some (.string ((za l0_3 x33_2).f4.f0)) ∧ w41.cell? ⟨(ad429.add ((x33_2).toNat * 17)).block, (ad429.add ((x33_2).toNat * 17)).off + 9, none⟩ = some (.int .i64 ((za l0_3 x33_2).f4.f1.f0)) ∧ w41.cell? ⟨(ad429.add ((x33_2).toNat * 17)).block, (ad429.add ((x33_2).toNat * 17)).off + 10, none⟩ = some (.int .i64 ((za l0_3 x33_2).f4.f1.f1)) ∧ w41.cell? ⟨(ad429.add ((x33_2).toNat * 17)).block, (ad429.add ((x33_2).toNat * 17)).off + 11, none⟩ = some (.string ((za l0_3 x33_2).f4.f1.f2)) ∧ w41.cell? ⟨(ad429.add ((x33_2).toNat * 17)).block, (ad429.add ((x33_2).toNat * 17)).off + 12, none⟩ = some (.string ((za l0_3 x33_2).f5.f0)) ∧ w41.cell? ⟨(ad429.add ((x33_2).toNat * 17)).block, (ad429.add ((x33_2).toNat * 17)).off + 13, none⟩ = some (.int .i64 ((za l0_3 x33_2).f5.f1.f0)) ∧ w41.cell? ⟨(ad429.add ((x33_2).toNat * 17)).block, (ad429.add ((x33_2).toNat * 17)).off + 14, none⟩ = some (.int .i64 ((za l0_3 x33_2).f5.f1.f1)) ∧ w41.cell? ⟨(ad429.add ((x33_2).toNat * 17)).block, (ad429.add ((x33_2).toNat * 17)).off + 15, none⟩ = some (.string ((za l0_3 x33_2).f5.f1.f2)) ∧ w41.cell? ⟨(ad429.add ((x33_2).toNat * 17)).block, (ad429.add ((x33_2).toNat * 17)).off + 16, none⟩ = some (.slice A429_16 ((za l0_3 x33_2).f6).length c429_16) ∧ w41.cell? (ad430.add ((x33_2).toNat * 17)) = some (.int .i64 ((za l1_3 x33_2).f0)) ∧ w41.cell? ⟨(ad430.add ((x33_2).toNat * 17)).block, (ad430.add ((x33_2).toNat * 17)).off + 1, none⟩ = some (.string ((za l1_3 x33_2).f1.f0)) ∧ w41.cell? ⟨(ad430.add ((x33_2).toNat * 17)).block, (ad430.add ((x33_2).toNat * 17)).off + 2, none⟩ = some (.slice A430_2 ((za l1_3 x33_2).f1.f1).length c430_2) ∧ w41.cell? ⟨(ad430.add ((x33_2).toNat * 17)).block, (ad430.add ((x33_2).toNat * 17)).off + 3, none⟩ = some (.string ((za l1_3 x33_2).f2)) ∧ w41.cell? ⟨(ad430.add ((x33_2).toNat * 17)).block, (ad430.add ((x33_2).toNat * 17)).off + 4, none⟩ = some (.string ((za l1_3 x33_2).f3.f0)) ∧ w41.cell? ⟨(ad430.add ((x33_2).toNat * 17)).block, (ad430.add ((x33_2).toNat * 17)).off + 5, none⟩ = some (.int .i64 ((za l1_3 x33_2).f3.f1.f0)) ∧ w41.cell? ⟨(ad430.add ((x33_2).toNat * 17)).block, (ad430.add ((x33_2).toNat * 17)).off + 6, none⟩ = some (.int .i64 ((za l1_3 x33_2).f3.f1.f1)) ∧ w41.cell? ⟨(ad430.add ((x33_2).toNat * 17)).block, (ad430.add ((x33_2).toNat * 17)).off + 7, none⟩ = some (.string ((za l1_3 x33_2).f3.f1.f2)) ∧ w41.cell? ⟨(ad430.add ((x33_2).toNat * 17)).block, (ad430.add ((x33_2).toNat * 17)).off + 8, none⟩ = some (.string ((za l1_3 x33_2).f4.f0)) ∧ w41.cell? ⟨(ad430.add ((x33_2).toNat * 17)).block, (ad430.add ((x33_2).toNat * 17)).off + 9, none⟩ = some (.int .i64 ((za l1_3 x33_2).f4.f1.f0)) ∧ w41.cell? ⟨(ad430.add ((x33_2).toNat * 17)).block, (ad430.add ((x33_2).toNat * 17)).off + 10, none⟩ = some (.int .i64 ((za l1_3 x33_2).f4.f1.f1)) ∧ w41.cell? ⟨(ad430.add ((x33_2).toNat * 17)).block, (ad430.add ((x33_2).toNat * 17)).off + 11, none⟩ = some (.string ((za l1_3 x33_2).f4.f1.f2)) ∧ w41.cell? ⟨(ad430.add ((x33_2).toNat * 17)).block, (ad430.add ((x33_2).toNat * 17)).off + 12, none⟩ = some (.string ((za l1_3 x33_2).f5.f0)) ∧ w41.cell? ⟨(ad430.add ((x33_2).toNat * 17)).block, (ad430.add ((x33_2).toNat * 17)).off + 13, none⟩ = some (.int .i64 ((za l1_3 x33_2).f5.f1.f0)) ∧ w41.cell? ⟨(ad430.add ((x33_2).toNat * 17)).block, (ad430.add ((x33_2).toNat * 17)).off + 14, none⟩ = some (.int .i64 ((za l1_3 x33_2).f5.f1.f1)) ∧ w41.cell? ⟨(ad430.add ((x33_2).toNat * 17)).block, (ad430.add ((x33_2).toNat * 17)).off + 15, none⟩ = some (.string ((za l1_3 x33_2).f5.f1.f2)) ∧ w41.cell? ⟨(ad430.add ((x33_2).toNat * 17)).block, (ad430.add ((x33_2).toNat * 17)).off + 16, none⟩ = some (.slice A430_16 ((za l1_3 x33_2).f6).length c430_16) := hS_
                 refine norm_ (a' := ?_) ?_ ?_
                 rotate_left
                 ·simp only [putAll, Act.put, List.setIfInBounds_toArray, List.set_cons_zero, List.set_cons_succ]
                  rfl
                 refine one_ (i := 12) (N := none) #[true, true, true, true, true, true, true, true, true, true, true, true, true, false] rfl rfl (ql HT_.out (by kernel_rfl)) (by decide) (fun K hK => ?_)
                 have NR429_gb431 : (ad429.add ((x33_2).toNat * 17)).block ≠ gb431 := (by first | exact Nat.ne_of_lt (Nat.lt_of_lt_of_le (by have := World.block_lt_of_cell? _ _ hw429_0; first | rwa [add_block] at this | exact this) GW431.out) | (rw [add_block]; exact Nat.ne_of_lt (Nat.lt_of_lt_of_le (by have := World.block_lt_of_cell? _ _ hw429_0; first | rwa [add_block] at this | exact this) GW431.out)) | (show (Addr.add _ _).block ≠ _; rw [add_block]; exact Nat.ne_of_lt (Nat.lt_of_lt_of_le (by have := World.block_lt_of_cell? _ _ hw429_0; first | rwa [add_block] at this | exact this) GW431.out)) | (dsimp only; exact Nat.ne_of_lt (Nat.lt_of_lt_of_le (by have := World.block_lt_of_cell? _ _ hw429_0; first | rwa [add_block] at this | exact this) GW431.out)))
                 have NR430_gb431 : (ad430.add ((x33_2).toNat * 17)).block ≠ gb431 := (by first | exact Nat.ne_of_lt (Nat.lt_of_lt_of_le (by have := World.block_lt_of_cell? _ _ hw430_0; first | rwa [add_block] at this | exact this) GW431.out) | (rw [add_block]; exact Nat.ne_of_lt (Nat.lt_of_lt_of_le (by have := World.block_lt_of_cell? _ _ hw430_0; first | rwa [add_block] at this | exact this) GW431.out)) | (show (Addr.add _ _).block ≠ _; rw [add_block]; exact Nat.ne_of_lt (Nat.lt_of_lt_of_le (by have := World.block_lt_of_cell? _ _ hw430_0; first | rwa [add_block] at this | exact this) GW431.out)) | (dsimp only; exact Nat.ne_of_lt (Nat.lt_of_lt_of_le (by have := World.block_lt_of_cell? _ _ hw430_0; first | rwa [add_block] at this | exact this) GW431.out)))
                 with_reducible refine skip_ (w1 := ?_) ?_ ?_ ?_ ?_
                 rotate_left
                 ·rfl
                 ·rfl
                 ·refine exec_store_cells (ty := 43) (x := .tmp 6) (y := .tmp 40) (g := gb431) (vs := [.int .i64 ((za l0_3 x33_2).f0), .string ((za l0_3 x33_2).f1.f0), .slice A429_2 ((za l0_3 x33_2).f1.f1).length c429_2, .string ((za l0_3 x33_2).f2), .string ((za l0_3 x33_2).f3.f0), .int .i64 ((za l0_3 x33_2).f3.f1.f0), .int .i64 ((za l0_3 x33_2).f3.f1.f1), .string ((za l0_3 x33_2).f3.f1.f2), .string ((za l0_3 x33_2).f4.f0), .int .i64 ((za l0_3 x33_2).f4.f1.f0), .int .i64 ((za l0_3 x33_2).f4.f1.f1), .string ((za l0_3 x33_2).f4.f1.f2), .string ((za l0_3 x33_2).f5.f0), .int .i64 ((za l0_3 x33_2).f5.f1.f0), .int .i64 ((za l0_3 x33_2).f5.f1.f1), .string ((za l0_3 x33_2).f5.f1.f2), .slice A429_16 ((za l0_3 x33_2).f6).length c429_16]) (t := 43) ?_ ?_ ?_ BK431.out ?_ ?_ ?_
                  ·rfl
                  ·first | with_reducible rfl | rfl
                  ·first | with_reducible rfl | rfl
                  ·as_aux_lemma => kernel_rfl
                  ·rfl
                  ·rfl
                 refine hK.out _ _ ⟨((farS (a := ⟨gb426, 0, none⟩) NB426_431.out).trans hHeld.1), ((farS (a := ⟨gb426, 1, none⟩) NB426_431.out).trans hHeld.2.1), ((farS (a := ⟨gb426, 2, none⟩) NB426_431.out).trans hHeld.2.2.1), ((farS (a := ⟨gb426, 3, none⟩) NB426_431.out).trans hHeld.2.2.2.1), ((farS (a := ⟨gb427, 0, none⟩) NB427_431.out).trans hHeld.2.2.2.2.1), ((farS (a := ⟨gb427, 1, none⟩) NB427_431.out).trans hHeld.2.2.2.2.2.1), ((farS (a := ⟨gb427, 2, none⟩) NB427_431.out).trans hHeld.2.2.2.2.2.2.1), ((farS (a := ⟨gb427, 3, none⟩) NB427_431.out).trans hHeld.2.2.2.2.2.2.2.1), ((farS (a := (ad429.add ((x33_2).toNat * 17))) NR429_gb431).trans hHeld.2.2.2.2.2.2.2.2.1), ((farS (a := ⟨(ad429.add ((x33_2).toNat * 17)).block, (ad429.add ((x33_2).toNat * 17)).off + 1, none⟩) NR429_gb431).trans hHeld.2.2.2.2.2.2.2.2.2.1), ((farS (a := ⟨(ad429.add ((x33_2).toNat * 17)).block, (ad429.add ((x33_2).toNat * 17)).off + 2, none⟩) NR429_gb431).trans hHeld.2.2.2.2.2.2.2.2.2.2.1), ((farS (a := ⟨(ad429.add ((x33_2).toNat * 17)).block, (ad429.add ((x33_2).toNat * 17)).off + 3, none⟩) NR429_gb431).trans hHeld.2.2.2.2.2.2.2.2.2.2.2.1), ((farS (a := ⟨(ad429.add ((x33_2).toNat * 17)).block, (ad429.add ((x33_2).toNat * 17)).off + 4, none⟩) NR429_gb431).trans hHeld.2.2.2.2.2.2.2.2.2.2.2.2.1), ((farS (a := ⟨(ad429.add ((x33_2).toNat * 17)).block, (ad429.add ((x33_2).toNat * 17)).off + 5, none⟩) NR429_gb431).trans hHeld.2.2.2.2.2.2.2.2.2.2.2.2.2.1), ((farS (a := ⟨(ad429.add ((x33_2).toNat * 17)).block, (ad429.add ((x33_2).toNat * 17)).off + 6, none⟩) NR429_gb431).trans hHeld.2.2.2.2.2.2.2.2.2.2.2.2.2.2.1), ((farS (a := ⟨(ad429.add ((x33_2).toNat * 17)).block, (ad429.add ((x33_2).toNat * 17)).off + 7, none⟩) NR429_gb431).trans hHeld.2.2.2.2.2.2.2.2.2.2.2.2.2.2.2.1), ((farS (a := ⟨(ad429.add ((x33_2).toNat * 17)).block, (ad429.add ((x33_2).toNat * 17)).off + 8, none⟩) NR429_gb431).trans hHeld.2.2.2.2.2.2.2.2.2.2.2.2.2.2.2.2.1), ((farS (a := ⟨(ad429.add ((x33_2).toNat * 17)).block, (ad429.add ((x33_2).toNat * 17)).off + 9, none⟩) NR429_gb431).trans hHeld.2.2.2.2.2.2.2.2.2.2.2.2.2.2.2.2.2.1), ((farS (a := ⟨(ad429.add ((x33_2).toNat * 17)).block, (ad429.add ((x33_2).toNat * 17)).off + 10, none⟩) NR429_gb431).trans hHeld.2.2.2.2.2.2.2.2.2.2.2.2.2.2.2.2.2.2.1), ((farS (a := ⟨(ad429.add ((x33_2).toNat * 17)).block, (ad429.add ((x33_2).toNat * 17)).off + 11, none⟩) NR429_gb431).trans hHeld.2.2.2.2.2.2.2.2.2.2.2.2.2.2.2.2.2.2.2.1), ((farS (a := ⟨(ad429.add ((x33_2).toNat * 17)).block, (ad429.add ((x33_2).toNat * 17)).off + 12, none⟩) NR429_gb431).trans hHeld.2.2.2.2.2.2.2.2.2.2.2.2.2.2.2.2.2.2.2.2.1), ((farS (a := ⟨(ad429.add ((x33_2).toNat * 17)).block, (ad429.add ((x33_2).toNat * 17)).off + 13, none⟩) NR429_gb431).trans hHeld.2.2.2.2.2.2.2.2.2.2.2.2.2.2.2.2.2.2.2.2.2.1), ((farS (a := ⟨(ad429.add ((x33_2).toNat * 17)).block, (ad429.add ((x33_2).toNat * 17)).off + 14, none⟩) NR429_gb431).trans hHeld.2.2.2.2.2.2.2.2.2.2.2.2.2.2.2.2.2.2.2.2.2.2.1), ((farS (a := ⟨(ad429.add ((x33_2).toNat * 17)).block, (ad429.add ((x33_2).toNat * 17)).off + 15, none⟩) NR429_gb431).trans hHeld.2.2.2.2.2.2.2.2.2.2.2.2.2.2.2.2.2.2.2.2.2.2.2.1), ((farS (a := ⟨(ad429.add ((x33_2).toNat * 17)).block, (ad429.add ((x33_2).toNat * 17)).off + 16, none⟩) NR429_gb431).trans hHeld.2.2.2.2.2.2.2.2.2.2.2.2.2.2.2.2.2.2.2.2.2.2.2.2.1), ((farS (a := (ad430.add ((x33_2).toNat * 17))) NR430_gb431).trans hHeld.2.2.2.2.2.2.2.2.2.2.2.2.2.2.2.2.2.2.2.2.2.2.2.2.2.1), ((farS (a := ⟨(ad430.add ((x33_2).toNat * 17)).block, (ad430.add ((x33_2).toNat * 17)).off + 1, none⟩) NR430_gb431).trans hHeld.2.2.2.2.2.2.2.2.2.2.2.2.2.2.2.2.2.2.2.2.2.2.2.2.2.2.1), ((farS (a := ⟨(ad430.add ((x33_2).toNat * 17)).block, (ad430.add ((x33_2).toNat * 17)).off + 2, none⟩) NR430_gb431).trans hHeld.2.2.2.2.2.2.2.2.2.2.2.2.2.2.2.2.2.2.2.2.2.2.2.2.2.2.2.1), ((farS (a := ⟨(ad430.add ((x33_2).toNat * 17)).block, (ad430.add ((x33_2).toNat * 17)).off + 3, none⟩) NR430_gb431).trans hHeld.2.2.2.2.2.2.2.2.2.2.2.2.2.2.2.2.2.2.2.2.2.2.2.2.2.2.2.2.1), ((farS (a := ⟨(ad430.add ((x33_2).toNat * 17)).block, (ad430.add ((x33_2).toNat * 17)).off + 4, none⟩) NR430_gb431).trans hHeld.2.2.2.2.2.2.2.2.2.2.2.2.2.2.2.2.2.2.2.2.2.2.2.2.2.2.2.2.2.1), ((farS (a := ⟨(ad430.add ((x33_2).toNat * 17)).block, (ad430.add ((x33_2).toNat * 17)).off + 5, none⟩) NR430_gb431).trans hHeld.2.2.2.2.2.2.2.2.2.2.2.2.2.2.2.2.2.2.2.2.2.2.2.2.2.2.2.2.2.2.1), ((farS (a := ⟨(ad430.add ((x33_2).toNat * 17)).block, (ad430.add ((x33_2).toNat * 17)).off + 6, none⟩) NR430_gb431).trans hHeld.2.2.2.2.2.2.2.2.2.2.2.2.2.2.2.2.2.2.2.2.2.2.2.2.2.2.2.2.2.2.2.1), ((farS (a := ⟨(ad430.add ((x33_2).toNat * 17)).block, (ad430.add ((x33_2).toNat * 17)).off + 7, none⟩) NR430_gb431).trans hHeld.2.2.2.2.2.2.2.2.2.2.2.2.2.2.2.2.2.2.2.2.2.2.2.2.2.2.2.2.2.2.2.2.1), ((farS (a := ⟨(ad430.add ((x33_2).toNat * 17)).block, (ad430.add ((x33_2).toNat * 17)).off + 8, none⟩) NR430_gb431).trans hHeld.2.2.2.2.2.2.2.2.2.2.2.2.2.2.2.2.2.2.2.2.2.2.2.2.2.2.2.2.2.2.2.2.2.1), ((farS (a := ⟨(ad430.add ((x33_2).toNat * 17)).block, (ad430.add ((x33_2).toNat * 17)).off + 9, none⟩) NR430_gb431).trans hHeld.2.2.2.2.2.2.2.2.2.2.2.2.2.2.2.2.2.2.2.2.2.2.2.2.2.2.2.2.2.2.2.2.2.2.1), ((farS (a := ⟨(ad430.add ((x33_2).toNat * 17)).block, (ad430.add ((x33_2).toNat * 17)).off + 10, none⟩) NR430_gb431).trans hHeld.2.2.2.2.2.2.2.2.2.2.2.2.2.2.2.2.2.2.2.2.2.2.2.2.2.2.2.2.2.2.2.2.2.2.2.1), ((farS (a := ⟨(ad430.add ((x33_2).toNat * 17)).block, (ad430.add ((x33_2).toNat * 17)).off + 11, none⟩) NR430_gb431).trans hHeld.2.2.2.2.2.2.2.2.2.2.2.2.2.2.2.2.2.2.2.2.2.2.2.2.2.2.2.2.2.2.2.2.2.2.2.2.1), ((farS (a := ⟨(ad430.add ((x33_2).toNat * 17)).block, (ad430.add ((x33_2).toNat * 17)).off + 12, none⟩) NR430_gb431).trans hHeld.2.2.2.2.2.2.2.2.2.2.2.2.2.2.2.2.2.2.2.2.2.2.2.2.2.2.2.2.2.2.2.2.2.2.2.2.2.1), ((farS (a := ⟨(ad430.add ((x33_2).toNat * 17)).block, (ad430.add ((x33_2).toNat * 17)).off + 13, none⟩) NR430_gb431).trans hHeld.2.2.2.2.2.2.2.2.2.2.2.2.2.2.2.2.2.2.2.2.2.2.2.2.2.2.2.2.2.2.2.2.2.2.2.2.2.2.1), ((farS (a := ⟨(ad430.add ((x33_2).toNat * 17)).block, (ad430.add ((x33_2).toNat * 17)).off + 14, none⟩) NR430_gb431).trans hHeld.2.2.2.2.2.2.2.2.2.2.2.2.2.2.2.2.2.2.2.2.2.2.2.2.2.2.2.2.2.2.2.2.2.2.2.2.2.2.2.1), ((farS (a := ⟨(ad430.add ((x33_2).toNat * 17)).block, (ad430.add ((x33_2).toNat * 17)).off + 15, none⟩) NR430_gb431).trans hHeld.2.2.2.2.2.2.2.2.2.2.2.2.2.2.2.2.2.2.2.2.2.2.2.2.2.2.2.2.2.2.2.2.2.2.2.2.2.2.2.2.1), ((farS (a := ⟨(ad430.add ((x33_2).toNat * 17)).block, (ad430.add ((x33_2).toNat * 17)).off + 16, none⟩) NR430_gb431).trans hHeld.2.2.2.2.2.2.2.2.2.2.2.2.2.2.2.2.2.2.2.2.2.2.2.2.2.2.2.2.2.2.2.2.2.2.2.2.2.2.2.2.2)⟩ (fun hHeld => ?_)
                 clear hK K
                 refine one_ (i := 13) (N := none) #[true, true, true, true, true, true, true, true, true, true, true, true, true, true] rfl rfl (ql HT_.out (by kernel_rfl)) (by decide) (fun K hK => ?_)
                 have NR429_gb432 : (ad429.add ((x33_2).toNat * 17)).block ≠ gb432 := (by first | exact Nat.ne_of_lt (Nat.lt_of_lt_of_le (by have := World.block_lt_of_cell? _ _ hw429_0; first | rwa [add_block] at this | exact this) GW432.out) | (rw [add_block]; exact Nat.ne_of_lt (Nat.lt_of_lt_of_le (by have := World.block_lt_of_cell? _ _ hw429_0; first | rwa [add_block] at this | exact this) GW432.out)) | (show (Addr.add _ _).block ≠ _; rw [add_block]; exact Nat.ne_of_lt (Nat.lt_of_lt_of_le (by have := World.block_lt_of_cell? _ _ hw429_0; first | rwa [add_block] at this | exact this) GW432.out)) | (dsimp only; exact Nat.ne_of_lt (Nat.lt_of_lt_of_le (by have := World.block_lt_of_cell? _ _ hw429_0; first | rwa [add_block] at this | exact this) GW432.out)))
                 have NR430_gb432 : (ad430.add ((x33_2).toNat * 17)).block ≠ gb432 := (by first | exact Nat.ne_of_lt (Nat.lt_of_lt_of_le (by have := World.block_lt_of_cell? _ _ hw430_0; first | rwa [add_block] at this | exact this) GW432.out) | (rw [add_block]; exact Nat.ne_of_lt (Nat.lt_of_lt_of_le (by have := World.block_lt_of_cell? _ _ hw430_0; first | rwa [add_block] at this | exact this) GW432.out)) | (show (Addr.add _ _).block ≠ _; rw [add_block]; exact Nat.ne_of_lt (Nat.lt_of_lt_of_le (by have := World.block_lt_of_cell? _ _ hw430_0; first | rwa [add_block] at this | exact this) GW432.out)) | (dsimp only; exact Nat.ne_of_lt (Nat.lt_of_lt_of_le (by have := World.block_lt_of_cell? _ _ hw430_0; first | rwa [add_block] at this | exact this) GW432.out)))
                 have G432_ := (yJ [.int .i64 ((za l0_3 x33_2).f0), .string ((za l0_3 x33_2).f1.f0), .slice A429_2 ((za l0_3 x33_2).f1.f1).length c429_2, .string ((za l0_3 x33_2).f2), .string ((za l0_3 x33_2).f3.f0), .int .i64 ((za l0_3 x33_2).f3.f1.f0), .int .i64 ((za l0_3 x33_2).f3.f1.f1), .string ((za l0_3 x33_2).f3.f1.f2), .string ((za l0_3 x33_2).f4.f0), .int .i64 ((za l0_3 x33_2).f4.f1.f0), .int .i64 ((za l0_3 x33_2).f4.f1.f1), .string ((za l0_3 x33_2).f4.f1.f2), .string ((za l0_3 x33_2).f5.f0), .int .i64 ((za l0_3 x33_2).f5.f1.f0), .int .i64 ((za l0_3 x33_2).f5.f1.f1), .string ((za l0_3 x33_2).f5.f1.f2), .slice A429_16 ((za l0_3 x33_2).f6).length c429_16] 0 w41 NB432_431.out).trans BK432.out
                 with_reducible refine skip_ (w1 := ?_) ?_ ?_ ?_ ?_
                 rotate_left
                 ·rfl
                 ·rfl
                 ·refine exec_store_cells (ty := 43) (x := .tmp 7) (y := .tmp 45) (g := gb432) (vs := [.int .i64 ((za l1_3 x33_2).f0), .string ((za l1_3 x33_2).f1.f0), .slice A430_2 ((za l1_3 x33_2).f1.f1).length c430_2, .string ((za l1_3 x33_2).f2), .string ((za l1_3 x33_2).f3.f0), .int .i64 ((za l1_3 x33_2).f3.f1.f0), .int .i64 ((za l1_3 x33_2).f3.f1.f1), .string ((za l1_3 x33_2).f3.f1.f2), .string ((za l1_3 x33_2).f4.f0), .int .i64 ((za l1_3 x33_2).f4.f1.f0), .int .i64 ((za l1_3 x33_2).f4.f1.f1), .string ((za l1_3 x33_2).f4.f1.f2), .string ((za l1_3 x33_2).f5.f0), .int .i64 ((za l1_3 x33_2).f5.f1.f0), .int .i64 ((za l1_3 x33_2).f5.f1.f1), .string ((za l1_3 x33_2).f5.f1.f2), .slice A430_16 ((za l1_3 x33_2).f6).length c430_16]) (t := 43) ?_ ?_ ?_ G432_ ?_ ?_ ?_
                  ·rfl
                  ·first | with_reducible rfl | rfl
                  ·first | with_reducible rfl | rfl
                  ·as_aux_lemma => kernel_rfl
                  ·rfl
                  ·rfl
                 refine hK.out _ _ ⟨((farS (a := ⟨gb426, 0, none⟩) NB426_432.out).trans hHeld.1), ((farS (a := ⟨gb426, 1, none⟩) NB426_432.out).trans hHeld.2.1), ((farS (a := ⟨gb426, 2, none⟩) NB426_432.out).trans hHeld.2.2.1), ((farS (a := ⟨gb426, 3, none⟩) NB426_432.out).trans hHeld.2.2.2.1), ((farS (a := ⟨gb427, 0, none⟩) NB427_432.out).trans hHeld.2.2.2.2.1), ((farS (a := ⟨gb427, 1, none⟩) NB427_432.out).trans hHeld.2.2.2.2.2.1), ((farS (a := ⟨gb427, 2, none⟩) NB427_432.out).trans hHeld.2.2.2.2.2.2.1), ((farS (a := ⟨gb427, 3, none⟩) NB427_432.out).trans hHeld.2.2.2.2.2.2.2.1), ((farS (a := (ad429.add ((x33_2).toNat * 17))) NR429_gb432).trans hHeld.2.2.2.2.2.2.2.2.1), ((farS (a := ⟨(ad429.add ((x33_2).toNat * 17)).block, (ad429.add ((x33_2).toNat * 17)).off + 1, none⟩) NR429_gb432).trans hHeld.2.2.2.2.2.2.2.2.2.1), ((farS (a := ⟨(ad429.add ((x33_2).toNat * 17)).block, (ad429.add ((x33_2).toNat * 17)).off + 2, none⟩) NR429_gb432).trans hHeld.2.2.2.2.2.2.2.2.2.2.1), ((farS (a := ⟨(ad429.add ((x33_2).toNat * 17)).block, (ad429.add ((x33_2).toNat * 17)).off + 3, none⟩) NR429_gb432).trans hHeld.2.2.2.2.2.2.2.2.2.2.2.1), ((farS (a := ⟨(ad429.add ((x33_2).toNat * 17)).block, (ad429.add ((x33_2).toNat * 17)).off + 4, none⟩) NR429_gb432).trans hHeld.2.2.2.2.2.2.2.2.2.2.2.2.1), ((farS (a := ⟨(ad429.add ((x33_2).toNat * 17)).block, (ad429.add ((x33_2).toNat * 17)).off + 5, none⟩) NR429_gb432).trans hHeld.2.2.2.2.2.2.2.2.2.2.2.2.2.1), ((farS (a := ⟨(ad429.add ((x33_2).toNat * 17)).block, (ad429.add ((x33_2).toNat * 17)).off + 6, none⟩) NR429_gb432).trans hHeld.2.2.2.2.2.2.2.2.2.2.2.2.2.2.1), ((farS (a := ⟨(ad429.add ((x33_2).toNat * 17)).block, (ad429.add ((x33_2).toNat * 17)).off + 7, none⟩) NR429_gb432).trans hHeld.2.2.2.2.2.2.2.2.2.2.2.2.2.2.2.1), ((farS (a := ⟨(ad429.add ((x33_2).toNat * 17)).block, (ad429.add ((x33_2).toNat * 17)).off + 8, none⟩) NR429_gb432).trans hHeld.2.2.2.2.2.2.2.2.2.2.2.2.2.2.2.2.1), ((farS (a := ⟨(ad429.add ((x33_2).toNat * 17)).block, (ad429.add ((x33_2).toNat * 17)).off + 9, none⟩) NR429_gb432).trans hHeld.2.2.2.2.2.2.2.2.2.2.2.2.2.2.2.2.2.1), ((farS (a := ⟨(ad429.add ((x33_2).toNat * 17)).block, (ad429.add ((x33_2).toNat * 17)).off + 10, none⟩) NR429_gb432).trans hHeld.2.2.2.2.2.2.2.2.2.2.2.2.2.2.2.2.2.2.1), ((farS (a := ⟨(ad429.add ((x33_2).toNat * 17)).block, (ad429.add ((x33_2).toNat * 17)).off + 11, none⟩) NR429_gb432).trans hHeld.2.2.2.2.2.2.2.2.2.2.2.2.2.2.2.2.2.2.2.1), ((farS (a := ⟨(ad429.add ((x33_2).toNat * 17)).block, (ad429.add ((x33_2).toNat * 17)).off + 12, none⟩) NR429_gb432).trans hHeld.2.2.2.2.2.2.2.2.2.2.2.2.2.2.2.2.2.2.2.2.1), ((farS (a := ⟨(ad429.add ((x33_2).toNat * 17)).block, (ad429.add ((x33_2).toNat * 17)).off + 13, none⟩) NR429_gb432).trans hHeld.2.2.2.2.2.2.2.2.2.2.2.2.2.2.2.2.2.2.2.2.2.1), ((farS (a := ⟨(ad429.add ((x33_2).toNat * 17)).block, (ad429.add ((x33_2).toNat * 17)).off + 14, none⟩) NR429_gb432).trans hHeld.2.2.2.2.2.2.2.2.2.2.2.2.2.2.2.2.2.2.2.2.2.2.1), ((farS (a := ⟨(ad429.add ((x33_2).toNat * 17)).block, (ad429.add ((x33_2).toNat * 17)).off + 15, none⟩) NR429_gb432).trans hHeld.2.2.2.2.2.2.2.2.2.2.2.2.2.2.2.2.2.2.2.2.2.2.2.1), ((farS (a := ⟨(ad429.add ((x33_2).toNat * 17)).block, (ad429.add ((x33_2).toNat * 17)).off + 16, none⟩) NR429_gb432).trans hHeld.2.2.2.2.2.2.2.2.2.2.2.2.2.2.2.2.2.2.2.2.2.2.2.2.1), ((farS (a := (ad430.add ((x33_2).toNat * 17))) NR430_gb432).trans hHeld.2.2.2.2.2.2.2.2.2.2.2.2.2.2.2.2.2.2.2.2.2.2.2.2.2.1), ((farS (a := ⟨(ad430.add ((x33_2).toNat * 17)).block, (ad430.add ((x33_2).toNat * 17)).off + 1, none⟩) NR430_gb432).trans hHeld.2.2.2.2.2.2.2.2.2.2.2.2.2.2.2.2.2.2.2.2.2.2.2.2.2.2.1), ((farS (a := ⟨(ad430.add ((x33_2).toNat * 17)).block, (ad430.add ((x33_2).toNat * 17)).off + 2, none⟩) NR430_gb432).trans hHeld.2.2.2.2.2.2.2.2.2.2.2.2.2.2.2.2.2.2.2.2.2.2.2.2.2.2.2.1), ((farS (a := ⟨(ad430.add ((x33_2).toNat * 17)).block, (ad430.add ((x33_2).toNat * 17)).off + 3, none⟩) NR430_gb432).trans hHeld.2.2.2.2.2.2.2.2.2.2.2.2.2.2.2.2.2.2.2.2.2.2.2.2.2.2.2.2.1), ((farS (a := ⟨(ad430.add ((x33_2).toNat * 17)).block, (ad430.add ((x33_2).toNat * 17)).off + 4, none⟩) NR430_gb432).trans hHeld.2.2.2.2.2.2.2.2.2.2.2.2.2.2.2.2.2.2.2.2.2.2.2.2.2.2.2.2.2.1), ((farS (a := ⟨(ad430.add ((x33_2).toNat * 17)).block, (ad430.add ((x33_2).toNat * 17)).off + 5, none⟩) NR430_gb432).trans hHeld.2.2.2.2.2.2.2.2.2.2.2.2.2.2.2.2.2.2.2.2.2.2.2.2.2.2.2.2.2.2.1), ((farS (a := ⟨(ad430.add ((x33_2).toNat * 17)).block, (ad430.add ((x33_2).toNat * 17)).off + 6, none⟩) NR430_gb432).trans hHeld.2.2.2.2.2.2.2.2.2.2.2.2.2.2.2.2.2.2.2.2.2.2.2.2.2.2.2.2.2.2.2.1), ((farS (a := ⟨(ad430.add ((x33_2).toNat * 17)).block, (ad430.add ((x33_2).toNat * 17)).off + 7, none⟩) NR430_gb432).trans hHeld.2.2.2.2.2.2.2.2.2.2.2.2.2.2.2.2.2.2.2.2.2.2.2.2.2.2.2.2.2.2.2.2.1), ((farS (a := ⟨(ad430.add ((x33_2).toNat * 17)).block, (ad430.add ((x33_2).toNat * 17)).off + 8, none⟩) NR430_gb432).trans hHeld.2.2.2.2.2.2.2.2.2.2.2.2.2.2.2.2.2.2.2.2.2.2.2.2.2.2.2.2.2.2.2.2.2.1), ((farS (a := ⟨(ad430.add ((x33_2).toNat * 17)).block, (ad430.add ((x33_2).toNat * 17)).off + 9, none⟩) NR430_gb432).trans hHeld.2.2.2.2.2.2.2.2.2.2.2.2.2.2.2.2.2.2.2.2.2.2.2.2.2.2.2.2.2.2.2.2.2.2.1), ((farS (a := ⟨(ad430.add ((x33_2).toNat * 17)).block, (ad430.add ((x33_2).toNat * 17)).off + 10, none⟩) NR430_gb432).trans hHeld.2.2.2.2.2.2.2.2.2.2.2.2.2.2.2.2.2.2.2.2.2.2.2.2.2.2.2.2.2.2.2.2.2.2.2.1), ((farS (a := ⟨(ad430.add ((x33_2).toNat * 17)).block, (ad430.add ((x33_2).toNat * 17)).off + 11, none⟩) NR430_gb432).trans hHeld.2.2.2.2.2.2.2.2.2.2.2.2.2.2.2.2.2.2.2.2.2.2.2.2.2.2.2.2.2.2.2.2.2.2.2.2.1), ((farS (a := ⟨(ad430.add ((x33_2).toNat * 17)).block, (ad430.add ((x33_2).toNat * 17)).off + 12, none⟩) NR430_gb432).trans hHeld.2.2.2.2.2.2.2.2.2.2.2.2.2.2.2.2.2.2.2.2.2.2.2.2.2.2.2.2.2.2.2.2.2.2.2.2.2.1), ((farS (a := ⟨(ad430.add ((x33_2).toNat * 17)).block, (ad430.add ((x33_2).toNat * 17)).off + 13, none⟩) NR430_gb432).trans hHeld.2.2.2.2.2.2.2.2.2.2.2.2.2.2.2.2.2.2.2.2.2.2.2.2.2.2.2.2.2.2.2.2.2.2.2.2.2.2.1), ((farS (a := ⟨(ad430.add ((x33_2).toNat * 17)).block, (ad430.add ((x33_2).toNat * 17)).off + 14, none⟩) NR430_gb432).trans hHeld.2.2.2.2.2.2.2.2.2.2.2.2.2.2.2.2.2.2.2.2.2.2.2.2.2.2.2.2.2.2.2.2.2.2.2.2.2.2.2.1), ((farS (a := ⟨(ad430.add ((x33_2).toNat * 17)).block, (ad430.add ((x33_2).toNat * 17)).off + 15, none⟩) NR430_gb432).trans hHeld.2.2.2.2.2.2.2.2.2.2.2.2.2.2.2.2.2.2.2.2.2.2.2.2.2.2.2.2.2.2.2.2.2.2.2.2.2.2.2.2.1), ((farS (a := ⟨(ad430.add ((x33_2).toNat * 17)).block, (ad430.add ((x33_2).toNat * 17)).off + 16, none⟩) NR430_gb432).trans hHeld.2.2.2.2.2.2.2.2.2.2.2.2.2.2.2.2.2.2.2.2.2.2.2.2.2.2.2.2.2.2.2.2.2.2.2.2.2.2.2.2.2)⟩ (fun hHeld => ?_)
                 clear hK K
                 refine done_ (done_of HT_.out (by kernel_rfl)) ?_
                 have Z426 := zb.mk ((yJ [.int .i64 ((za l1_3 x33_2).f0), .string ((za l1_3 x33_2).f1.f0), .slice A430_2 ((za l1_3 x33_2).f1.f1).length c430_2, .string ((za l1_3 x33_2).f2), .string ((za l1_3 x33_2).f3.f0), .int .i64 ((za l1_3 x33_2).f3.f1.f0), .int .i64 ((za l1_3 x33_2).f3.f1.f1), .string ((za l1_3 x33_2).f3.f1.f2), .string ((za l1_3 x33_2).f4.f0), .int .i64 ((za l1_3 x33_2).f4.f1.f0), .int .i64 ((za l1_3 x33_2).f4.f1.f1), .string ((za l1_3 x33_2).f4.f1.f2), .string ((za l1_3 x33_2).f5.f0), .int .i64 ((za l1_3 x33_2).f5.f1.f0), .int .i64 ((za l1_3 x33_2).f5.f1.f1), .string ((za l1_3 x33_2).f5.f1.f2), .slice A430_16 ((za l1_3 x33_2).f6).length c430_16] 0 (w41.setCells gb431 0 [.int .i64 ((za l0_3 x33_2).f0), .string ((za l0_3 x33_2).f1.f0), .slice A429_2 ((za l0_3 x33_2).f1.f1).length c429_2, .string ((za l0_3 x33_2).f2), .string ((za l0_3 x33_2).f3.f0), .int .i64 ((za l0_3 x33_2).f3.f1.f0), .int .i64 ((za l0_3 x33_2).f3.f1.f1), .string ((za l0_3 x33_2).f3.f1.f2), .string ((za l0_3 x33_2).f4.f0), .int .i64 ((za l0_3 x33_2).f4.f1.f0), .int .i64 ((za l0_3 x33_2).f4.f1.f1), .string ((za l0_3 x33_2).f4.f1.f2), .string ((za l0_3 x33_2).f5.f0), .int .i64 ((za l0_3 x33_2).f5.f1.f0), .int .i64 ((za l0_3 x33_2).f5.f1.f1), .string ((za l0_3 x33_2).f5.f1.f2), .slice A429_16 ((za l0_3 x33_2).f6).length c429_16]) NB426_432.out).trans ((yJ [.int .i64 ((za l0_3 x33_2).f0), .string ((za l0_3 x33_2).f1.f0), .slice A429_2 ((za l0_3 x33_2).f1.f1).length c429_2, .string ((za l0_3 x33_2).f2), .string ((za l0_3 x33_2).f3.f0), .int .i64 ((za l0_3 x33_2).f3.f1.f0), .int .i64 ((za l0_3 x33_2).f3.f1.f1), .string ((za l0_3 x33_2).f3.f1.f2), .string ((za l0_3 x33_2).f4.f0), .int .i64 ((za l0_3 x33_2).f4.f1.f0), .int .i64 ((za l0_3 x33_2).f4.f1.f1), .string ((za l0_3 x33_2).f4.f1.f2), .string ((za l0_3 x33_2).f5.f0), .int .i64 ((za l0_3 x33_2).f5.f1.f0), .int .i64 ((za l0_3 x33_2).f5.f1.f1), .string ((za l0_3 x33_2).f5.f1.f2), .slice A429_16 ((za l0_3 x33_2).f6).length c429_16] 0 w41 NB426_431.out).trans BK426.out))
                 have Z427 := zb.mk ((yJ [.int .i64 ((za l1_3 x33_2).f0), .string ((za l1_3 x33_2).f1.f0), .slice A430_2 ((za l1_3 x33_2).f1.f1).length c430_2, .string ((za l1_3 x33_2).f2), .string ((za l1_3 x33_2).f3.f0), .int .i64 ((za l1_3 x33_2).f3.f1.f0), .int .i64 ((za l1_3 x33_2).f3.f1.f1), .string ((za l1_3 x33_2).f3.f1.f2), .string ((za l1_3 x33_2).f4.f0), .int .i64 ((za l1_3 x33_2).f4.f1.f0), .int .i64 ((za l1_3 x33_2).f4.f1.f1), .string ((za l1_3 x33_2).f4.f1.f2), .string ((za l1_3 x33_2).f5.f0), .int .i64 ((za l1_3 x33_2).f5.f1.f0), .int .i64 ((za l1_3 x33_2).f5.f1.f1), .string ((za l1_3 x33_2).f5.f1.f2), .slice A430_16 ((za l1_3 x33_2).f6).length c430_16] 0 (w41.setCells gb431 0 [.int .i64 ((za l0_3 x33_2).f0), .string ((za l0_3 x33_2).f1.f0), .slice A429_2 ((za l0_3 x33_2).f1.f1).length c429_2, .string ((za l0_3 x33_2).f2), .string ((za l0_3 x33_2).f3.f0), .int .i64 ((za l0_3 x33_2).f3.f1.f0), .int .i64 ((za l0_3 x33_2).f3.f1.f1), .string ((za l0_3 x33_2).f3.f1.f2), .string ((za l0_3 x33_2).f4.f0), .int .i64 ((za l0_3 x33_2).f4.f1.f0), .int .i64 ((za l0_3 x33_2).f4.f1.f1), .string ((za l0_3 x33_2).f4.f1.f2), .string ((za l0_3 x33_2).f5.f0), .int .i64 ((za l0_3 x33_2).f5.f1.f0), .int .i64 ((za l0_3 x33_2).f5.f1.f1), .string ((za l0_3 x33_2).f5.f1.f2), .slice A429_16 ((za l0_3 x33_2).f6).length c429_16]) NB427_432.out).trans ((yJ [.int .i64 ((za l0_3 x33_2).f0), .string ((za l0_3 x33_2).f1.f0), .slice A429_2 ((za l0_3 x33_2).f1.f1).length c429_2, .string ((za l0_3 x33_2).f2), .string ((za l0_3 x33_2).f3.f0), .int .i64 ((za l0_3 x33_2).f3.f1.f0), .int .i64 ((za l0_3 x33_2).f3.f1.f1), .string ((za l0_3 x33_2).f3.f1.f2), .string ((za l0_3 x33_2).f4.f0), .int .i64 ((za l0_3 x33_2).f4.f1.f0), .int .i64 ((za l0_3 x33_2).f4.f1.f1), .string ((za l0_3 x33_2).f4.f1.f2), .string ((za l0_3 x33_2).f5.f0), .int .i64 ((za l0_3 x33_2).f5.f1.f0), .int .i64 ((za l0_3 x33_2).f5.f1.f1), .string ((za l0_3 x33_2).f5.f1.f2), .slice A429_16 ((za l0_3 x33_2).f6).length c429_16] 0 w41 NB427_431.out).trans BK427.out))
                 have Z431 := zb.mk ((yJ [.int .i64 ((za l1_3 x33_2).f0), .string ((za l1_3 x33_2).f1.f0), .slice A430_2 ((za l1_3 x33_2).f1.f1).length c430_2, .string ((za l1_3 x33_2).f2), .string ((za l1_3 x33_2).f3.f0), .int .i64 ((za l1_3 x33_2).f3.f1.f0), .int .i64 ((za l1_3 x33_2).f3.f1.f1), .string ((za l1_3 x33_2).f3.f1.f2), .string ((za l1_3 x33_2).f4.f0), .int .i64 ((za l1_3 x33_2).f4.f1.f0), .int .i64 ((za l1_3 x33_2).f4.f1.f1), .string ((za l1_3 x33_2).f4.f1.f2), .string ((za l1_3 x33_2).f5.f0), .int .i64 ((za l1_3 x33_2).f5.f1.f0), .int .i64 ((za l1_3 x33_2).f5.f1.f1), .string ((za l1_3 x33_2).f5.f1.f2), .slice A430_16 ((za l1_3 x33_2).f6).length c430_16] 0 (w41.setCells gb431 0 [.int .i64 ((za l0_3 x33_2).f0), .string ((za l0_3 x33_2).f1.f0), .slice A429_2 ((za l0_3 x33_2).f1.f1).length c429_2, .string ((za l0_3 x33_2).f2), .string ((za l0_3 x33_2).f3.f0), .int .i64 ((za l0_3 x33_2).f3.f1.f0), .int .i64 ((za l0_3 x33_2).f3.f1.f1), .string ((za l0_3 x33_2).f3.f1.f2), .string ((za l0_3 x33_2).f4.f0), .int .i64 ((za l0_3 x33_2).f4.f1.f0), .int .i64 ((za l0_3 x33_2).f4.f1.f1), .string ((za l0_3 x33_2).f4.f1.f2), .string ((za l0_3 x33_2).f5.f0), .int .i64 ((za l0_3 x33_2).f5.f1.f0), .int .i64 ((za l0_3 x33_2).f5.f1.f1), .string ((za l0_3 x33_2).f5.f1.f2), .slice A429_16 ((za l0_3 x33_2).f6).length c429_16]) NB431_432.out).trans (blkS (vs := [.int .i64 ((za l0_3 x33_2).f0), .string ((za l0_3 x33_2).f1.f0), .slice A429_2 ((za l0_3 x33_2).f1.f1).length c429_2, .string ((za l0_3 x33_2).f2), .string ((za l0_3 x33_2).f3.f0), .int .i64 ((za l0_3 x33_2).f3.f1.f0), .int .i64 ((za l0_3 x33_2).f3.f1.f1), .string ((za l0_3 x33_2).f3.f1.f2), .string ((za l0_3 x33_2).f4.f0), .int .i64 ((za l0_3 x33_2).f4.f1.f0), .int .i64 ((za l0_3 x33_2).f4.f1.f1), .string ((za l0_3 x33_2).f4.f1.f2), .string ((za l0_3 x33_2).f5.f0), .int .i64 ((za l0_3 x33_2).f5.f1.f0), .int .i64 ((za l0_3 x33_2).f5.f1.f1), .string ((za l0_3 x33_2).f5.f1.f2), .slice A429_16 ((za l0_3 x33_2).f6).length c429_16]) BK431.out rfl))
                 have Z432 := zb.mk (blkS (vs := [.int .i64 ((za l1_3 x33_2).f0), .string ((za l1_3 x33_2).f1.f0), .slice A430_2 ((za l1_3 x33_2).f1.f1).length c430_2, .string ((za l1_3 x33_2).f2), .string ((za l1_3 x33_2).f3.f0), .int .i64 ((za l1_3 x33_2).f3.f1.f0), .int .i64 ((za l1_3 x33_2).f3.f1.f1), .string ((za l1_3 x33_2).f3.f1.f2), .string ((za l1_3 x33_2).f4.f0), .int .i64 ((za l1_3 x33_2).f4.f1.f0), .int .i64 ((za l1_3 x33_2).f4.f1.f1), .string ((za l1_3 x33_2).f4.f1.f2), .string ((za l1_3 x33_2).f5.f0), .int .i64 ((za l1_3 x33_2).f5.f1.f0), .int .i64 ((za l1_3 x33_2).f5.f1.f1), .string ((za l1_3 x33_2).f5.f1.f2), .slice A430_16 ((za l1_3 x33_2).f6).length c430_16]) ((yJ [.int .i64 ((za l0_3 x33_2).f0), .string ((za l0_3 x33_2).f1.f0), .slice A429_2 ((za l0_3 x33_2).f1.f1).length c429_2, .string ((za l0_3 x33_2).f2), .string ((za l0_3 x33_2).f3.f0), .int .i64 ((za l0_3 x33_2).f3.f1.f0), .int .i64 ((za l0_3 x33_2).f3.f1.f1), .string ((za l0_3 x33_2).f3.f1.f2), .string ((za l0_3 x33_2).f4.f0), .int .i64 ((za l0_3 x33_2).f4.f1.f0), .int .i64 ((za l0_3 x33_2).f4.f1.f1), .string ((za l0_3 x33_2).f4.f1.f2), .string ((za l0_3 x33_2).f5.f0), .int .i64 ((za l0_3 x33_2).f5.f1.f0), .int .i64 ((za l0_3 x33_2).f5.f1.f1), .string ((za l0_3 x33_2).f5.f1.f2), .slice A429_16 ((za l0_3 x33_2).f6).length c429_16] 0 w41 NB432_431.out).trans BK432.out) rfl)
                 have ZB := zb.mk (belowS (vs := [.int .i64 ((za l1_3 x33_2).f0), .string ((za l1_3 x33_2).f1.f0), .slice A430_2 ((za l1_3 x33_2).f1.f1).length c430_2, .string ((za l1_3 x33_2).f2), .string ((za l1_3 x33_2).f3.f0), .int .i64 ((za l1_3 x33_2).f3.f1.f0), .int .i64 ((za l1_3 x33_2).f3.f1.f1), .string ((za l1_3 x33_2).f3.f1.f2), .string ((za l1_3 x33_2).f4.f0), .int .i64 ((za l1_3 x33_2).f4.f1.f0), .int .i64 ((za l1_3 x33_2).f4.f1.f1), .string ((za l1_3 x33_2).f4.f1.f2), .string ((za l1_3 x33_2).f5.f0), .int .i64 ((za l1_3 x33_2).f5.f1.f0), .int .i64 ((za l1_3 x33_2).f5.f1.f1), .string ((za l1_3 x33_2).f5.f1.f2), .slice A430_16 ((za l1_3 x33_2).f6).length c430_16]) (i := 0) GE432.out (belowS (vs := [.int .i64 ((za l0_3 x33_2).f0), .string ((za l0_3 x33_2).f1.f0), .slice A429_2 ((za l0_3 x33_2).f1.f1).length c429_2, .string ((za l0_3 x33_2).f2), .string ((za l0_3 x33_2).f3.f0), .int .i64 ((za l0_3 x33_2).f3.f1.f0), .int .i64 ((za l0_3 x33_2).f3.f1.f1), .string ((za l0_3 x33_2).f3.f1.f2), .string ((za l0_3 x33_2).f4.f0), .int .i64 ((za l0_3 x33_2).f4.f1.f0), .int .i64 ((za l0_3 x33_2).f4.f1.f1), .string ((za l0_3 x33_2).f4.f1.f2), .string ((za l0_3 x33_2).f5.f0), .int .i64 ((za l0_3 x33_2).f5.f1.f0), .int .i64 ((za l0_3 x33_2).f5.f1.f1), .string ((za l0_3 x33_2).f5.f1.f2), .slice A429_16 ((za l0_3 x33_2).f6).length c429_16]) (i := 0) GE431.out HB.out))
                 clear hHeld HB BK426 BK427 BK431 BK432
                 generalize ((w41.setCells gb431 0 [.int .i64 ((za l0_3 x33_2).f0), .string ((za l0_3 x33_2).f1.f0), .slice A429_2 ((za l0_3 x33_2).f1.f1).length c429_2, .string ((za l0_3 x33_2).f2), .string ((za l0_3 x33_2).f3.f0), .int .i64 ((za l0_3 x33_2).f3.f1.f0), .int .i64 ((za l0_3 x33_2).f3.f1.f1), .string ((za l0_3 x33_2).f3.f1.f2), .string ((za l0_3 x33_2).f4.f0), .int .i64 ((za l0_3 x33_2).f4.f1.f0), .int .i64 ((za l0_3 x33_2).f4.f1.f1), .string ((za l0_3 x33_2).f4.f1.f2), .string ((za l0_3 x33_2).f5.f0), .int .i64 ((za l0_3 x33_2).f5.f1.f0), .int .i64 ((za l0_3 x33_2).f5.f1.f1), .string ((za l0_3 x33_2).f5.f1.f2), .slice A429_16 ((za l0_3 x33_2).f6).length c429_16]).setCells gb432 0 [.int .i64 ((za l1_3 x33_2).f0), .string ((za l1_3 x33_2).f1.f0), .slice A430_2 ((za l1_3 x33_2).f1.f1).length c430_2, .string ((za l1_3 x33_2).f2), .string ((za l1_3 x33_2).f3.f0), .int .i64 ((za l1_3 x33_2).f3.f1.f0), .int .i64 ((za l1_3 x33_2).f3.f1.f1), .string ((za l1_3 x33_2).f3.f1.f2), .string ((za l1_3 x33_2).f4.f0), .int .i64 ((za l1_3 x33_2).f4.f1.f0), .int .i64 ((za l1_3 x33_2).f4.f1.f1), .string ((za l1_3 x33_2).f4.f1.f2), .string ((za l1_3 x33_2).f5.f0), .int .i64 ((za l1_3 x33_2).f5.f1.f0), .int .i64 ((za l1_3 x33_2).f5.f1.f1), .string ((za l1_3 x33_2).f5.f1.f2), .slice A430_16 ((za l1_3 x33_2).f6).length c430_16]) = wz at Z431 Z432 ZB Z426 Z427 ⊢
                 have BK426 := Z426
                 have BK427 := Z427
                 have BK431 := Z431
                 have BK432 := Z432
                 have HB := ZB
                 clear ZB Z426 Z427 Z431 Z432
                 obtain ⟨hcy431_0, hcy431_1, hcy431_2, hcy431_3, hcy431_4, hcy431_5, hcy431_6, hcy431_7, hcy431_8, hcy431_9, hcy431_10, hcy431_11, hcy431_12, hcy431_13, hcy431_14, hcy431_15, hcy431_16⟩ := blk17 BK431.out
                 obtain ⟨hcy432_0, hcy432_1, hcy432_2, hcy432_3, hcy432_4, hcy432_5, hcy432_6, hcy432_7, hcy432_8, hcy432_9, hcy432_10, hcy432_11, hcy432_12, hcy432_13, hcy432_14, hcy432_15, hcy432_16⟩ := blk17 BK432.out
                 try go_wp2_with (first | (go_at_call 36; (with_reducible refine (zx.calls k2 ((za l0_3 x33_2).f1.f0) _ _ ((za l0_3 x33_2).f1.f1) ((za l1_3 x33_2).f1.f0) _ _ ((za l1_3 x33_2).f1.f1) true _ ?side1 ?side2 ?side3 ?side4 A34.out).mono ?_); (case side1 => exact Kd.zL HR429_2.out HB.out); (case side2 => exact HC429_2.out); (case side3 => exact Kd.zL HR430_2.out HB.out); (case side4 => exact HC430_2.out); rintro e w83 ⟨rfl, hb⟩; have n0_ := zb.mk (zo BK426.out hb); have n1_ := zb.mk (zo BK427.out hb); have n2_ := zb.mk (zo BK431.out hb); have n3_ := zb.mk (zo BK432.out hb); have nb_ := zb.mk (zn HB.out hb); clear HB BK426 BK427 BK431 BK432 hcy431_0 hcy431_1 hcy431_2 hcy431_3 hcy431_4 hcy431_5 hcy431_6 hcy431_7 hcy431_8 hcy431_9 hcy431_10 hcy431_11 hcy431_12 hcy431_13 hcy431_14 hcy431_15 hcy431_16 hcy432_0 hcy432_1 hcy432_2 hcy432_3 hcy432_4 hcy432_5 hcy432_6 hcy432_7 hcy432_8 hcy432_9 hcy432_10 hcy432_11 hcy432_12 hcy432_13 hcy432_14 hcy432_15 hcy432_16; have BK426 := n0_; have BK427 := n1_; have BK431 := n2_; have BK432 := n3_; have HB := nb_; clear nb_ hb n0_ n1_ n2_ n3_; obtain ⟨hcy431_0, hcy431_1, hcy431_2, hcy431_3, hcy431_4, hcy431_5, hcy431_6, hcy431_7, hcy431_8, hcy431_9, hcy431_10, hcy431_11, hcy431_12, hcy431_13, hcy431_14, hcy431_15, hcy431_16⟩ := blk17 BK431.out; obtain ⟨hcy432_0, hcy432_1, hcy432_2, hcy432_3, hcy432_4, hcy432_5, hcy432_6, hcy432_7, hcy432_8, hcy432_9, hcy432_10, hcy432_11, hcy432_12, hcy432_13, hcy432_14, hcy432_15, hcy432_16⟩ := blk17 BK432.out) | (go_at_call 37; (with_reducible refine (zH.calls k2 _ _ ((za l0_3 x33_2).f6) _ _ ((za l1_3 x33_2).f6) true _ ?side1 ?side2 ?side3 ?side4 A36.out).mono ?_); (case side1 => exact Kd.zL HR429_16.out HB.out); (case side2 => exact HC429_16.out); (case side3 => exact Kd.zL HR430_16.out HB.out); (case side4 => exact HC430_16.out); rintro e w' ⟨rfl, ⟨nd, rfl⟩⟩))
                 go_roundg k2
                 case measure => have := HJ2.out; have := HK2.out; omega
                 case rel => exact ⟨(wrap64 (x33_2 + 1)), (by first | rfl | (simp; done) | (simp [*]; done)), H', ⟨by have := HJ2.out; have := HK2.out; omega⟩, ⟨ul BK426.out⟩, ⟨ul BK427.out⟩, ⟨by repeat (first | exact ub HB.out | apply zd | apply zc | apply ze | refine zh ?_ ‹_›)⟩⟩
                ·replace c37 := Bool.eq_false_iff.mpr c37
                 subst c37
                 have H1 : (none) = some r := by rw [if_neg (show ¬ (false = true) by decide)] at H; exact H
                 clear H
                 have H := H1
                 clear H1
                 exact absurd H (by simp)
               ·replace c35 := Bool.eq_false_iff.mpr c35
                subst c35
                have H1 : (none) = some r := by rw [if_neg (show ¬ (false = true) by decide)] at H; exact H
                clear H
                have H := H1
                clear H1
                exact absurd H (by simp)
           ·rw [if_neg c30] at H
            exact absurd H (by simp)
          ·rw [if_neg c29] at H
           exact absurd H (by simp)
         ·rw [if_neg c28] at H
          exact absurd H (by simp)
        ·rw [if_neg c27] at H
         exact absurd H (by simp)
       ·rw [if_neg c26] at H
        exact absurd H (by simp)
      ·rw [if_neg c25] at H
       have c25b0 : decide (x33_2 < (l0_3.length : Int)) = false := decide_eq_false c25
       clear c25
       obtain rfl := Option.some.inj H
       go_wp2
       go_ret
       exact ⟨by first | rfl | (simp [zA, zz] <;> rfl) | (simp [*, zA, zz] <;> rfl), by repeat (first | exact ub HB.out | apply zd | apply zc | apply ze | refine zh ?_ ‹_›)⟩
end Go.Proofs.Ytmgbfgloegcloaa.Ps
