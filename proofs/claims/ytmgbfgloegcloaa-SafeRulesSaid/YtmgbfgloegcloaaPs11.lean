import Derived.Test.YtmgbfgloegcloaaZip
import Derived.Test.YtmgbfgloegcloaaPsD
namespace Go.Proofs.Ytmgbfgloegcloaa.Ps
open Go.RowKit Go.Proofs.YtmgbfgloegcloaaW.PrintWords Go.Proofs.YtmgbfgloegcloaaW.PrintLast Go.Proofs.YtmgbfgloegcloaaW.PrintMore
attribute [local go_sem] yD yB yR yQ ym yl yC yA
set_option linter.unusedVariables false
set_option linter.unusedSimpArgs false
set_option maxHeartbeats 8000000 in
set_option maxRecDepth 100000 in
theorem zl.calls (k : Nat) (A0_0 : Option Addr) (c0_0 : Nat) (l0_0 : List (S51)) (a0_1 : ByteArray) (A0_2 : Option Addr) (c0_2 : Nat) (l0_2 : List (S40)) (a1 : Int) (a2 : Int) (r : Bool) (w : World) (hr0_0 : Kd.C k51 w A0_0 l0_0.length l0_0) (hc0_0 : l0_0.length ≤ c0_0) (hr0_2 : Kd.C k40 w A0_2 l0_2.length l0_2) (hc0_2 : l0_2.length ≤ c0_2) (h : zl.f k l0_0 a0_1 l0_2 a1 a2 = some r) :
  Calls Try.prog 22 #[.agg #[.slice A0_0 l0_0.length c0_0, .string a0_1, .slice A0_2 l0_2.length c0_2], .int .i64 a1, .int .i64 a2] w fun e w' => e = .returned (.bool r) ∧ Below w.heap.size w w' := by
 have hu59 := Try.underlying59
 have hu51 := Try.underlying51
 have HR0_0 := zb.mk hr0_0
 have HC0_0 := zb.mk hc0_0
 clear hr0_0 hc0_0
 have HR0_2 := zb.mk hr0_2
 have HC0_2 := zb.mk hc0_2
 clear hr0_2 hc0_2
 have HB := zb.mk (Below.refl w.heap.size w)
 have H : (if (l0_0.length : Int) > a1 then (zl.j0 k a2 true l0_0 a0_1 l0_2) else (zl.j0 k a2 (decide ((l0_2.length : Int) > 10)) l0_0 a0_1 l0_2)) = some r := h
 clear h
 have HC4 := zb.mk H
 clear H
 go_enter Try.func22, Try.ntmps22
 go_upto_region 1 with (first | ((with_reducible refine zQ (N := 3) rfl ?_); (try (refine yT (by rfl) ?_; dsimp only)); refine zM ?hg (N := 3) ?hd (cs := #[.slice A0_0 l0_0.length c0_0, .string a0_1, .slice A0_2 l0_2.length c0_2]) (t := 59) ?hr ?_; (case hd => rfl); (case hg => rfl); (case hr => first | (go_simp; done) | (go_simp; rfl)); intro gb216 hg w5 hbox hb; have n0_ := zb.mk (zn (ub HB.out) hb); have n1_ := zb.mk (hbox); have n2_ := zb.mk ((by rw [hg]; exact (zi (ub HB.out)) : w.heap.size ≤ gb216)); have n3_ := zb.mk ((by rw [hg]; exact (zi (ub HB.out)) : w.heap.size ≤ gb216)); clear HB; have HB := n0_; have BK216 := n1_; have GW216 := n2_; have GE216 := n3_; clear n0_ n1_ n2_ n3_; clear hb hbox hg))
 (try simp only [Act.put, List.setIfInBounds_toArray, List.set_cons_zero, List.set_cons_succ])
 go_cut [22] (fun v22 wc => ∃ (kq : Nat) (x22_3 : Bool), v22 = .bool x22_3 ∧ zb (zl.j0 kq a2 x22_3 l0_0 a0_1 l0_2 = some r) ∧ zb (kq ≤ k) ∧ zb (wc.heap[gb216]? = some (.cells #[(.slice A0_0 l0_0.length c0_0), .string a0_1, (.slice A0_2 l0_2.length c0_2)] 59 (0, 0))) ∧ zb (Below w.heap.size w wc))
 case first =>
  have H := HC4.out
  clear HC4
  by_cases c6 : (l0_0.length : Int) > a1
  ·rw [if_pos c6] at H
   have c6b0 : decide (a1 < (l0_0.length : Int)) = true := decide_eq_true c6
   clear c6
   (first | rw [c6b0] | (simp only [i64_w, i32_w]; rw [c6b0]) | skip)
   have H' := zb.mk H
   clear H
   obtain ⟨hcz7_0, hcz7_1, hcz7_2⟩ := blk3 BK216.out
   obtain ⟨hfz7_0, hfz7_1, hfz7_2⟩ := frz3 BK216.out
   go_wp2
   go_meet
   case rel => exact ⟨_, (true), (by first | rfl | (simp; done) | (simp [*]; done)), H', ⟨by first | omega | exact Nat.le_refl _⟩, ⟨ul BK216.out⟩, ⟨by repeat (first | exact ub HB.out | apply zd | apply zc | apply ze | refine zh ?_ ‹_›)⟩⟩
  ·rw [if_neg c6] at H
   have c6b0 : decide (a1 < (l0_0.length : Int)) = false := decide_eq_false c6
   clear c6
   (first | rw [c6b0] | (simp only [i64_w, i32_w]; rw [c6b0]) | skip)
   have H' := zb.mk H
   clear H
   obtain ⟨hcz8_0, hcz8_1, hcz8_2⟩ := blk3 BK216.out
   obtain ⟨hfz8_0, hfz8_1, hfz8_2⟩ := frz3 BK216.out
   go_wp2
   go_meet
   case rel => exact ⟨_, (decide ((l0_2.length : Int) > 10)), (by first | rfl | (simp; done) | (simp [*]; done)), H', ⟨by first | omega | exact Nat.le_refl _⟩, ⟨ul BK216.out⟩, ⟨by repeat (first | exact ub HB.out | apply zd | apply zc | apply ze | refine zh ?_ ‹_›)⟩⟩
 case rest =>
  clear HC4
  try clear c2
  try clear p2
  try clear c6
  try clear c6b0
  try clear hcz7_0 hcz7_1 hcz7_2
  try clear hcz8_0 hcz8_1 hcz8_2
  try clear hfz7_0 hfz7_1 hfz7_2
  try clear hfz8_0 hfz8_1 hfz8_2
  obtain ⟨kq, x22_3, rfl, HA, HJ3, BK216, HB⟩ := hcut
  cases kq with
  | zero => exact absurd HA.out (by simp [zl.j0])
  | succ kj3 =>
   have H := HA.out
   clear HA
   simp only [zl.j0] at H
   by_cases c9 : x22_3 = true
   ·subst c9
    have H1 : (some false) = some r := by rw [if_pos rfl] at H; exact H
    clear H
    have H := H1
    clear H1
    obtain rfl := Option.some.inj H
    go_wp2
    go_ret
    exact ⟨by first | rfl | (simp [zA, zz] <;> rfl) | (simp [*, zA, zz] <;> rfl), by repeat (first | exact ub HB.out | apply zd | apply zc | apply ze | refine zh ?_ ‹_›)⟩
   ·replace c9 := Bool.eq_false_iff.mpr c9
    subst c9
    have H1 : (zl.l0 kj3 a2 0 (l0_0.length : Int) 0 l0_0 a0_1 l0_2) = some r := by rw [if_neg (show ¬ (false = true) by decide)] at H; exact H
    clear H
    have H := H1
    clear H1
    have H' := zb.mk H
    clear H
    obtain ⟨hcz10_0, hcz10_1, hcz10_2⟩ := blk3 BK216.out
    obtain ⟨hfz10_0, hfz10_1, hfz10_2⟩ := frz3 BK216.out
    go_wp2
    go_loopg [7, 26] kj3 (fun kq v7 v26 w' => ∃ (x7_2 : Int) (x26_2 : Int), v7 = .int .i64 x7_2 ∧ v26 = .int .i64 x26_2 ∧ zb (zl.l0 kq a2 x7_2 (l0_0.length : Int) x26_2 l0_0 a0_1 l0_2 = some r) ∧ zb (kq ≤ kj3) ∧ zb (w'.heap[gb216]? = some (.cells #[(.slice A0_0 l0_0.length c0_0), .string a0_1, (.slice A0_2 l0_2.length c0_2)] 59 (0, 0))) ∧ zb (Below w.heap.size w w'))
    case atStart => exact ⟨(0), (0), (by first | rfl | (simp; done) | (simp [*]; done)), (by first | rfl | (simp; done) | (simp [*]; done)), H', ⟨Nat.le_refl _⟩, ⟨ul BK216.out⟩, ⟨by repeat (first | exact ub HB.out | apply zd | apply zc | apply ze | refine zh ?_ ‹_›)⟩⟩
    case round =>
     clear H'
     try clear c2
     try clear p2
     try clear c6
     try clear c6b0
     try clear c9
     try clear hcz10_0 hcz10_1 hcz10_2
     try clear hcz7_0 hcz7_1 hcz7_2
     try clear hcz8_0 hcz8_1 hcz8_2
     try clear hfz10_0 hfz10_1 hfz10_2
     try clear hfz7_0 hfz7_1 hfz7_2
     try clear hfz8_0 hfz8_1 hfz8_2
     try clear p2
     obtain ⟨x7_2, x26_2, rfl, rfl, HA, HK2, BK216, HB⟩ := hrel
     cases gk with
     | zero => exact absurd HA.out (by simp [zl.l0])
     | succ k2 =>
      have H := HA.out
      clear HA
      simp only [zl.l0] at H
      by_cases c11 : x26_2 < (l0_0.length : Int)
      ·rw [if_pos c11] at H
       have c11b0 : decide (x26_2 < (l0_0.length : Int)) = true := decide_eq_true c11
       clear c11
       by_cases c12 : 0 ≤ x26_2
       ·rw [if_pos c12] at H
        have c12b0 : decide (0 ≤ x26_2) = true := decide_eq_true c12
        clear c12
        by_cases c13 : x26_2 < (l0_0.length : Int)
        ·rw [if_pos c13] at H
         have c13b0 : decide (x26_2 < (l0_0.length : Int)) = true := decide_eq_true c13
         clear c13
         have HC14 := zb.mk H
         clear H
         obtain ⟨hcz15_0, hcz15_1, hcz15_2⟩ := blk3 BK216.out
         obtain ⟨hfz15_0, hfz15_1, hfz15_2⟩ := frz3 BK216.out
         have p217 : 0 ≤ (x26_2 : Int) := zdd
         have q217 : x26_2 < (l0_0.length : Int) := zdd
         obtain ⟨ad217, A217_1, c217_1, A217_3, c217_3, e217, hx217_0, hx217_1, hx217_2, hx217_3, hl217_1, hi217_1, hl217_3, hi217_3⟩ := at_T51 HR0_0.out x26_2 p217 q217
         cases e217
         obtain ⟨hx217_0, hx217_1, hx217_2, hx217_3⟩ := lift4 HB.out hx217_0 hx217_1 hx217_2 hx217_3
         have HR217_1 := zb.mk hi217_1
         have HC217_1 := zb.mk hl217_1
         clear hi217_1 hl217_1
         have HR217_3 := zb.mk hi217_3
         have HC217_3 := zb.mk hl217_3
         clear hi217_3 hl217_3
         replace p217 := eq_true p217
         replace q217 := eq_true q217
         go_upto_region 8 with (first | ((with_reducible refine zQ (N := 9) rfl ?_); (try (refine yT (by rfl) ?_; dsimp only)); refine zM ?hg (N := 9) ?hd (cs := #[.string (⟨#[]⟩ : ByteArray), .slice none 0 0, .int .i64 0, .slice none 0 0]) (t := 51) ?hr ?_; (case hd => rfl); (case hg => rfl); (case hr => first | (go_simp; done) | (go_simp; rfl)); intro gb218 hg w16 hbox hb; have n0_ := zb.mk (zo (ul BK216.out) hb); have n1_ := zb.mk (zn (by repeat (first | exact ub HB.out | apply zd | apply zc | apply ze | refine zh ?_ ‹_›)) hb); have n2_ := zb.mk (hbox); have n3_ := zb.mk ((by rw [hg]; exact (zi (by repeat (first | exact ub HB.out | apply zd | apply zc | apply ze | refine zh ?_ ‹_›))) : w.heap.size ≤ gb218)); have n4_ := zb.mk ((by rw [hg]; exact (zi (by repeat (first | exact ub HB.out | apply zd | apply zc | apply ze | refine zh ?_ ‹_›))) : w.heap.size ≤ gb218)); have n5_ := zb.mk ((by rw [hg]; exact Nat.ne_of_lt (zO (ul BK216.out)) : gb216 ≠ gb218)); have n6_ := zb.mk ((by rw [hg]; exact Nat.ne_of_gt (zO (ul BK216.out)) : gb218 ≠ gb216)); clear BK216; clear HB; have BK216 := n0_; have HB := n1_; have BK218 := n2_; have GW218 := n3_; have GE218 := n4_; have NB216_218 := n5_; have NB218_216 := n6_; clear n0_ n1_ n2_ n3_ n4_ n5_ n6_; clear hb hbox hg; have hnb17 := NB218_216.out; have hnc17 := NB216_218.out; obtain ⟨hcz18_0, hcz18_1, hcz18_2, hcz18_3⟩ := blk4 BK218.out; obtain ⟨hfz18_0, hfz18_1, hfz18_2, hfz18_3⟩ := frz4 BK218.out))
         (try simp only [Act.put, List.setIfInBounds_toArray, List.set_cons_zero, List.set_cons_succ])
         go_cut [45] (fun v45 wc => ∃ (kq : Nat) (x45_13 : Bool), v45 = .bool x45_13 ∧ zb (zl.j2 kq a2 x7_2 (l0_0.length : Int) x26_2 x45_13 l0_0 a0_1 l0_2 ((zq l0_0 x26_2).f0.f0) ((zq l0_0 x26_2).f0.f1) ((zq l0_0 x26_2).f1) ((zq l0_0 x26_2).f2) = some r) ∧ zb (kq ≤ k2) ∧ zb (wc.heap[gb216]? = some (.cells #[(.slice (some ad217) l0_0.length c0_0), .string a0_1, (.slice A0_2 l0_2.length c0_2)] 59 (0, 0))) ∧ zb (wc.heap[gb218]? = some (.cells #[.string ((zq l0_0 x26_2).f0.f0), (.slice A217_1 ((zq l0_0 x26_2).f0.f1).length c217_1), .int .i64 ((zq l0_0 x26_2).f1), (.slice A217_3 ((zq l0_0 x26_2).f2).length c217_3)] 51 (0, 0))) ∧ zb (Below w.heap.size w wc))
         case first =>
          have H := HC14.out
          clear HC14
          by_cases c19 : (((zq l0_0 x26_2).f2).length : Int) > a2
          ·rw [if_pos c19] at H
           have c19b0 : decide (a2 < (((zq l0_0 x26_2).f2).length : Int)) = true := decide_eq_true c19
           clear c19
           (first | rw [c19b0] | (simp only [i64_w, i32_w]; rw [c19b0]) | skip)
           have H' := zb.mk H
           clear H
           have hnb20 := NB218_216.out
           have hnc20 := NB216_218.out
           obtain ⟨hcz21_0, hcz21_1, hcz21_2, hcz21_3⟩ := blk4 BK218.out
           obtain ⟨hfz21_0, hfz21_1, hfz21_2, hfz21_3⟩ := frz4 BK218.out
           go_wp2
           go_meet
           case rel => exact ⟨_, (true), (by first | rfl | (simp; done) | (simp [*]; done)), H', ⟨by have := HJ3.out; have := HK2.out; first | omega | exact Nat.le_refl _⟩, ⟨by (with_reducible repeat (first | refine ye ?_ NB216_218.out _ | refine zC ?_ _ | refine zD ?_ | refine zw ?_ _)); exact BK216.out⟩, ⟨by (with_reducible repeat (first | refine zC ?_ _ | refine zD ?_ | refine zw ?_ _)); exact zB (zB (zB (zB (ul BK218.out) 0 _ rfl) 1 _ rfl) 2 _ rfl) 3 _ rfl⟩, ⟨by repeat (first | exact ub HB.out | apply zd | apply zc | apply ze | refine zh ?_ ‹_›)⟩⟩
          ·rw [if_neg c19] at H
           have c19b0 : decide (a2 < (((zq l0_0 x26_2).f2).length : Int)) = false := decide_eq_false c19
           clear c19
           (first | rw [c19b0] | (simp only [i64_w, i32_w]; rw [c19b0]) | skip)
           have H' := zb.mk H
           clear H
           have hnb22 := NB218_216.out
           have hnc22 := NB216_218.out
           obtain ⟨hcz23_0, hcz23_1, hcz23_2, hcz23_3⟩ := blk4 BK218.out
           obtain ⟨hfz23_0, hfz23_1, hfz23_2, hfz23_3⟩ := frz4 BK218.out
           go_wp2
           go_meet
           case rel => exact ⟨_, (decide ((((zq l0_0 x26_2).f0.f1).length : Int) > 10)), (by first | rfl | (simp; done) | (simp [*]; done)), H', ⟨by have := HJ3.out; have := HK2.out; first | omega | exact Nat.le_refl _⟩, ⟨by (with_reducible repeat (first | refine ye ?_ NB216_218.out _ | refine zC ?_ _ | refine zD ?_ | refine zw ?_ _)); exact BK216.out⟩, ⟨by (with_reducible repeat (first | refine zC ?_ _ | refine zD ?_ | refine zw ?_ _)); exact zB (zB (zB (zB (ul BK218.out) 0 _ rfl) 1 _ rfl) 2 _ rfl) 3 _ rfl⟩, ⟨by repeat (first | exact ub HB.out | apply zd | apply zc | apply ze | refine zh ?_ ‹_›)⟩⟩
         case rest =>
          clear HC14
          try clear c1
          try clear c2
          try clear p2
          try clear q2
          try clear hx2
          try clear c6
          try clear c6b0
          try clear c9
          try clear c11
          try clear c11b0
          try clear c12
          try clear c12b0
          try clear c13
          try clear c13b0
          try clear c17
          try clear c19
          try clear c19b0
          try clear c20
          try clear c21
          try clear p21
          try clear q21
          try clear hx21
          try clear c22
          try clear hcz10_0 hcz10_1 hcz10_2
          try clear hcz15_0 hcz15_1 hcz15_2
          try clear hcz18_0 hcz18_1 hcz18_2 hcz18_3
          try clear hcz21_0 hcz21_1 hcz21_2 hcz21_3
          try clear hcz23_0 hcz23_1 hcz23_2 hcz23_3
          try clear hcz7_0 hcz7_1 hcz7_2
          try clear hcz8_0 hcz8_1 hcz8_2
          try clear hfz10_0 hfz10_1 hfz10_2
          try clear hfz15_0 hfz15_1 hfz15_2
          try clear hfz18_0 hfz18_1 hfz18_2 hfz18_3
          try clear hfz21_0 hfz21_1 hfz21_2 hfz21_3
          try clear hfz23_0 hfz23_1 hfz23_2 hfz23_3
          try clear hfz7_0 hfz7_1 hfz7_2
          try clear hfz8_0 hfz8_1 hfz8_2
          try clear hx217_0
          try clear hx217_1
          try clear hx217_2
          try clear hx217_3
          try clear p2
          try clear p217
          try clear q217
          obtain ⟨kq, x45_13, rfl, HA, HJ13, BK216, BK218, HB⟩ := hcut
          cases kq with
          | zero => exact absurd HA.out (by simp [zl.j2])
          | succ kj13 =>
           have H := HA.out
           clear HA
           simp only [zl.j2] at H
           by_cases c24 : x45_13 = true
           ·subst c24
            have H1 : (some false) = some r := by rw [if_pos rfl] at H; exact H
            clear H
            have H := H1
            clear H1
            obtain rfl := Option.some.inj H
            go_wp2
            go_ret
            exact ⟨by first | rfl | (simp [zA, zz] <;> rfl) | (simp [*, zA, zz] <;> rfl), by repeat (first | exact ub HB.out | apply zd | apply zc | apply ze | refine zh ?_ ‹_›)⟩
           ·replace c24 := Bool.eq_false_iff.mpr c24
            subst c24
            have H1 : (zl.l1 kj13 a2 x7_2 (l0_0.length : Int) x26_2 (((zq l0_0 x26_2).f2).length : Int) 0 l0_0 a0_1 l0_2 ((zq l0_0 x26_2).f0.f0) ((zq l0_0 x26_2).f0.f1) ((zq l0_0 x26_2).f1) ((zq l0_0 x26_2).f2)) = some r := by rw [if_neg (show ¬ (false = true) by decide)] at H; exact H
            clear H
            have H := H1
            clear H1
            have H' := zb.mk H
            clear H
            have hnb25 := NB218_216.out
            have hnc25 := NB216_218.out
            obtain ⟨hcz26_0, hcz26_1, hcz26_2, hcz26_3⟩ := blk4 BK218.out
            obtain ⟨hfz26_0, hfz26_1, hfz26_2, hfz26_3⟩ := frz4 BK218.out
            go_wp2
            go_loopg [7, 49] kj13 (fun kq v7 v49 w' => ∃ (x7_4 : Int) (x49_4 : Int), v7 = .int .i64 x7_4 ∧ v49 = .int .i64 x49_4 ∧ zb (zl.l1 kq a2 x7_4 (l0_0.length : Int) x26_2 (((zq l0_0 x26_2).f2).length : Int) x49_4 l0_0 a0_1 l0_2 ((zq l0_0 x26_2).f0.f0) ((zq l0_0 x26_2).f0.f1) ((zq l0_0 x26_2).f1) ((zq l0_0 x26_2).f2) = some r) ∧ zb (kq ≤ kj13) ∧ zb (w'.heap[gb216]? = some (.cells #[(.slice (some ad217) l0_0.length c0_0), .string a0_1, (.slice A0_2 l0_2.length c0_2)] 59 (0, 0))) ∧ zb (w'.heap[gb218]? = some (.cells #[.string ((zq l0_0 x26_2).f0.f0), (.slice A217_1 ((zq l0_0 x26_2).f0.f1).length c217_1), .int .i64 ((zq l0_0 x26_2).f1), (.slice A217_3 ((zq l0_0 x26_2).f2).length c217_3)] 51 (0, 0))) ∧ zb (Below w.heap.size w w'))
            case atStart => exact ⟨(x7_2), (0), (by first | rfl | (simp; done) | (simp [*]; done)), (by first | rfl | (simp; done) | (simp [*]; done)), H', ⟨Nat.le_refl _⟩, ⟨ul BK216.out⟩, ⟨ul BK218.out⟩, ⟨by repeat (first | exact ub HB.out | apply zd | apply zc | apply ze | refine zh ?_ ‹_›)⟩⟩
            case round =>
             clear H'
             try clear c1
             try clear c2
             try clear p2
             try clear q2
             try clear hx2
             try clear c6
             try clear c6b0
             try clear c9
             try clear c11
             try clear c11b0
             try clear c12
             try clear c12b0
             try clear c13
             try clear c13b0
             try clear c17
             try clear c19
             try clear c19b0
             try clear c20
             try clear c21
             try clear p21
             try clear q21
             try clear hx21
             try clear c22
             try clear c24
             try clear c25
             try clear hcz10_0 hcz10_1 hcz10_2
             try clear hcz15_0 hcz15_1 hcz15_2
             try clear hcz18_0 hcz18_1 hcz18_2 hcz18_3
             try clear hcz21_0 hcz21_1 hcz21_2 hcz21_3
             try clear hcz23_0 hcz23_1 hcz23_2 hcz23_3
             try clear hcz26_0 hcz26_1 hcz26_2 hcz26_3
             try clear hcz7_0 hcz7_1 hcz7_2
             try clear hcz8_0 hcz8_1 hcz8_2
             try clear hfz10_0 hfz10_1 hfz10_2
             try clear hfz15_0 hfz15_1 hfz15_2
             try clear hfz18_0 hfz18_1 hfz18_2 hfz18_3
             try clear hfz21_0 hfz21_1 hfz21_2 hfz21_3
             try clear hfz23_0 hfz23_1 hfz23_2 hfz23_3
             try clear hfz26_0 hfz26_1 hfz26_2 hfz26_3
             try clear hfz7_0 hfz7_1 hfz7_2
             try clear hfz8_0 hfz8_1 hfz8_2
             try clear hx217_0
             try clear hx217_1
             try clear hx217_2
             try clear hx217_3
             try clear p2
             try clear p21
             try clear p217
             try clear q2
             try clear q21
             try clear q217
             obtain ⟨x7_4, x49_4, rfl, rfl, HA, HK4, BK216, BK218, HB⟩ := hrel
             cases gk with
             | zero => exact absurd HA.out (by simp [zl.l1])
             | succ k4 =>
              have H := HA.out
              clear HA
              simp only [zl.l1] at H
              by_cases c27 : x49_4 < (((zq l0_0 x26_2).f2).length : Int)
              ·rw [if_pos c27] at H
               have c27b0 : decide (x49_4 < (((zq l0_0 x26_2).f2).length : Int)) = true := decide_eq_true c27
               clear c27
               by_cases c28 : 0 ≤ x49_4
               ·rw [if_pos c28] at H
                have c28b0 : decide (0 ≤ x49_4) = true := decide_eq_true c28
                clear c28
                by_cases c29 : x49_4 < (((zq l0_0 x26_2).f2).length : Int)
                ·rw [if_pos c29] at H
                 have c29b0 : decide (x49_4 < (((zq l0_0 x26_2).f2).length : Int)) = true := decide_eq_true c29
                 clear c29
                 by_cases c30 : (((za ((zq l0_0 x26_2).f2) x49_4).f6).length : Int) > 30
                 ·rw [if_pos c30] at H
                  have c30b0 : decide (30 < (((za ((zq l0_0 x26_2).f2) x49_4).f6).length : Int)) = true := decide_eq_true c30
                  have c30b1 : decide (30 < ((za ((zq l0_0 x26_2).f2) x49_4).f6).length) = true := decide_eq_true (by omega)
                  clear c30
                  obtain rfl := Option.some.inj H
                  have hnb31 := NB218_216.out
                  have hnc31 := NB216_218.out
                  obtain ⟨hcz32_0, hcz32_1, hcz32_2, hcz32_3⟩ := blk4 BK218.out
                  obtain ⟨hfz32_0, hfz32_1, hfz32_2, hfz32_3⟩ := frz4 BK218.out
                  have p219 : 0 ≤ (x49_4 : Int) := zdd
                  have q219 : x49_4 < (((zq l0_0 x26_2).f2).length : Int) := zdd
                  obtain ⟨ad219, A219_2, c219_2, A219_16, c219_16, e219, hx219_0, hx219_1, hx219_2, hx219_3, hx219_4, hx219_5, hx219_6, hx219_7, hx219_8, hx219_9, hx219_10, hx219_11, hx219_12, hx219_13, hx219_14, hx219_15, hx219_16, hl219_2, hi219_2, hl219_16, hi219_16⟩ := qv HR217_3.out x49_4 p219 q219
                  cases e219
                  obtain ⟨hx219_0, hx219_1, hx219_2, hx219_3, hx219_4, hx219_5, hx219_6, hx219_7, hx219_8, hx219_9, hx219_10, hx219_11, hx219_12, hx219_13, hx219_14, hx219_15, hx219_16⟩ := lift17 HB.out hx219_0 hx219_1 hx219_2 hx219_3 hx219_4 hx219_5 hx219_6 hx219_7 hx219_8 hx219_9 hx219_10 hx219_11 hx219_12 hx219_13 hx219_14 hx219_15 hx219_16
                  have HR219_2 := zb.mk hi219_2
                  have HC219_2 := zb.mk hl219_2
                  clear hi219_2 hl219_2
                  have HR219_16 := zb.mk hi219_16
                  have HC219_16 := zb.mk hl219_16
                  clear hi219_16 hl219_16
                  replace p219 := eq_true p219
                  replace q219 := eq_true q219
                  have p220 : 0 ≤ (x49_4 : Int) := zdd
                  have q220 : x49_4 < (((zq l0_0 x26_2).f2).length : Int) := zdd
                  obtain ⟨ad220, A220_2, c220_2, A220_16, c220_16, e220, hx220_0, hx220_1, hx220_2, hx220_3, hx220_4, hx220_5, hx220_6, hx220_7, hx220_8, hx220_9, hx220_10, hx220_11, hx220_12, hx220_13, hx220_14, hx220_15, hx220_16, hl220_2, hi220_2, hl220_16, hi220_16⟩ := qv HR217_3.out x49_4 p220 q220
                  obtain rfl : ad219 = ad220 := (by injection e220)
                  obtain ⟨hx220_0, hx220_1, hx220_2, hx220_3, hx220_4, hx220_5, hx220_6, hx220_7, hx220_8, hx220_9, hx220_10, hx220_11, hx220_12, hx220_13, hx220_14, hx220_15, hx220_16⟩ := lift17 HB.out hx220_0 hx220_1 hx220_2 hx220_3 hx220_4 hx220_5 hx220_6 hx220_7 hx220_8 hx220_9 hx220_10 hx220_11 hx220_12 hx220_13 hx220_14 hx220_15 hx220_16
                  have HR220_2 := zb.mk hi220_2
                  have HC220_2 := zb.mk hl220_2
                  clear hi220_2 hl220_2
                  have HR220_16 := zb.mk hi220_16
                  have HC220_16 := zb.mk hl220_16
                  clear hi220_16 hl220_16
                  replace p220 := eq_true p220
                  replace q220 := eq_true q220
                  have ea_ := Option.some.inj (hx219_2.symm.trans hx220_2)
                  injection ea_ with ea_ en_ ec_
                  subst ea_
                  subst ec_
                  clear en_
                  have ea_ := Option.some.inj (hx219_16.symm.trans hx220_16)
                  injection ea_ with ea_ en_ ec_
                  subst ea_
                  subst ec_
                  clear en_
                  go_wp2
                  go_ret
                  exact ⟨by first | rfl | (simp [zA, zz] <;> rfl) | (simp [*, zA, zz] <;> rfl), by repeat (first | exact ub HB.out | apply zd | apply zc | apply ze | refine zh ?_ ‹_›)⟩
                 ·rw [if_neg c30] at H
                  have c30b0 : decide (30 < (((za ((zq l0_0 x26_2).f2) x49_4).f6).length : Int)) = false := decide_eq_false c30
                  have c30b1 : decide (30 < ((za ((zq l0_0 x26_2).f2) x49_4).f6).length) = false := decide_eq_false (by omega)
                  clear c30
                  by_cases c33 : (((za ((zq l0_0 x26_2).f2) x49_4).f1.f1).length : Int) > 10
                  ·rw [if_pos c33] at H
                   have c33b0 : decide (10 < (((za ((zq l0_0 x26_2).f2) x49_4).f1.f1).length : Int)) = true := decide_eq_true c33
                   have c33b1 : decide (10 < ((za ((zq l0_0 x26_2).f2) x49_4).f1.f1).length) = true := decide_eq_true (by omega)
                   clear c33
                   obtain rfl := Option.some.inj H
                   have hnb34 := NB218_216.out
                   have hnc34 := NB216_218.out
                   obtain ⟨hcz35_0, hcz35_1, hcz35_2, hcz35_3⟩ := blk4 BK218.out
                   obtain ⟨hfz35_0, hfz35_1, hfz35_2, hfz35_3⟩ := frz4 BK218.out
                   have p219 : 0 ≤ (x49_4 : Int) := zdd
                   have q219 : x49_4 < (((zq l0_0 x26_2).f2).length : Int) := zdd
                   obtain ⟨ad219, A219_2, c219_2, A219_16, c219_16, e219, hx219_0, hx219_1, hx219_2, hx219_3, hx219_4, hx219_5, hx219_6, hx219_7, hx219_8, hx219_9, hx219_10, hx219_11, hx219_12, hx219_13, hx219_14, hx219_15, hx219_16, hl219_2, hi219_2, hl219_16, hi219_16⟩ := qv HR217_3.out x49_4 p219 q219
                   cases e219
                   obtain ⟨hx219_0, hx219_1, hx219_2, hx219_3, hx219_4, hx219_5, hx219_6, hx219_7, hx219_8, hx219_9, hx219_10, hx219_11, hx219_12, hx219_13, hx219_14, hx219_15, hx219_16⟩ := lift17 HB.out hx219_0 hx219_1 hx219_2 hx219_3 hx219_4 hx219_5 hx219_6 hx219_7 hx219_8 hx219_9 hx219_10 hx219_11 hx219_12 hx219_13 hx219_14 hx219_15 hx219_16
                   have HR219_2 := zb.mk hi219_2
                   have HC219_2 := zb.mk hl219_2
                   clear hi219_2 hl219_2
                   have HR219_16 := zb.mk hi219_16
                   have HC219_16 := zb.mk hl219_16
                   clear hi219_16 hl219_16
                   replace p219 := eq_true p219
                   replace q219 := eq_true q219
                   have p220 : 0 ≤ (x49_4 : Int) := zdd
                   have q220 : x49_4 < (((zq l0_0 x26_2).f2).length : Int) := zdd
                   obtain ⟨ad220, A220_2, c220_2, A220_16, c220_16, e220, hx220_0, hx220_1, hx220_2, hx220_3, hx220_4, hx220_5, hx220_6, hx220_7, hx220_8, hx220_9, hx220_10, hx220_11, hx220_12, hx220_13, hx220_14, hx220_15, hx220_16, hl220_2, hi220_2, hl220_16, hi220_16⟩ := qv HR217_3.out x49_4 p220 q220
                   obtain rfl : ad219 = ad220 := (by injection e220)
                   obtain ⟨hx220_0, hx220_1, hx220_2, hx220_3, hx220_4, hx220_5, hx220_6, hx220_7, hx220_8, hx220_9, hx220_10, hx220_11, hx220_12, hx220_13, hx220_14, hx220_15, hx220_16⟩ := lift17 HB.out hx220_0 hx220_1 hx220_2 hx220_3 hx220_4 hx220_5 hx220_6 hx220_7 hx220_8 hx220_9 hx220_10 hx220_11 hx220_12 hx220_13 hx220_14 hx220_15 hx220_16
                   have HR220_2 := zb.mk hi220_2
                   have HC220_2 := zb.mk hl220_2
                   clear hi220_2 hl220_2
                   have HR220_16 := zb.mk hi220_16
                   have HC220_16 := zb.mk hl220_16
                   clear hi220_16 hl220_16
                   replace p220 := eq_true p220
                   replace q220 := eq_true q220
                   have ea_ := Option.some.inj (hx219_2.symm.trans hx220_2)
                   injection ea_ with ea_ en_ ec_
                   subst ea_
                   subst ec_
                   clear en_
                   have ea_ := Option.some.inj (hx219_16.symm.trans hx220_16)
                   injection ea_ with ea_ en_ ec_
                   subst ea_
                   subst ec_
                   clear en_
                   have p221 : 0 ≤ (x49_4 : Int) := zdd
                   have q221 : x49_4 < (((zq l0_0 x26_2).f2).length : Int) := zdd
                   obtain ⟨ad221, A221_2, c221_2, A221_16, c221_16, e221, hx221_0, hx221_1, hx221_2, hx221_3, hx221_4, hx221_5, hx221_6, hx221_7, hx221_8, hx221_9, hx221_10, hx221_11, hx221_12, hx221_13, hx221_14, hx221_15, hx221_16, hl221_2, hi221_2, hl221_16, hi221_16⟩ := qv HR217_3.out x49_4 p221 q221
                   obtain rfl : ad219 = ad221 := (by injection e221)
                   obtain ⟨hx221_0, hx221_1, hx221_2, hx221_3, hx221_4, hx221_5, hx221_6, hx221_7, hx221_8, hx221_9, hx221_10, hx221_11, hx221_12, hx221_13, hx221_14, hx221_15, hx221_16⟩ := lift17 HB.out hx221_0 hx221_1 hx221_2 hx221_3 hx221_4 hx221_5 hx221_6 hx221_7 hx221_8 hx221_9 hx221_10 hx221_11 hx221_12 hx221_13 hx221_14 hx221_15 hx221_16
                   have HR221_2 := zb.mk hi221_2
                   have HC221_2 := zb.mk hl221_2
                   clear hi221_2 hl221_2
                   have HR221_16 := zb.mk hi221_16
                   have HC221_16 := zb.mk hl221_16
                   clear hi221_16 hl221_16
                   replace p221 := eq_true p221
                   replace q221 := eq_true q221
                   have ea_ := Option.some.inj (hx219_2.symm.trans hx221_2)
                   injection ea_ with ea_ en_ ec_
                   subst ea_
                   subst ec_
                   clear en_
                   have ea_ := Option.some.inj (hx219_16.symm.trans hx221_16)
                   injection ea_ with ea_ en_ ec_
                   subst ea_
                   subst ec_
                   clear en_
                   go_wp2
                   go_ret
                   exact ⟨by first | rfl | (simp [zA, zz] <;> rfl) | (simp [*, zA, zz] <;> rfl), by repeat (first | exact ub HB.out | apply zd | apply zc | apply ze | refine zh ?_ ‹_›)⟩
                  ·rw [if_neg c33] at H
                   have c33b0 : decide (10 < (((za ((zq l0_0 x26_2).f2) x49_4).f1.f1).length : Int)) = false := decide_eq_false c33
                   have c33b1 : decide (10 < ((za ((zq l0_0 x26_2).f2) x49_4).f1.f1).length) = false := decide_eq_false (by omega)
                   clear c33
                   by_cases c36 : (wrap64 (x7_4 + (((za ((zq l0_0 x26_2).f2) x49_4).f6).length : Int))) > 60
                   ·rw [if_pos c36] at H
                    have c36b0 : decide (60 < (wrap64 (x7_4 + (((za ((zq l0_0 x26_2).f2) x49_4).f6).length : Int)))) = true := decide_eq_true c36
                    clear c36
                    obtain rfl := Option.some.inj H
                    have hnb37 := NB218_216.out
                    have hnc37 := NB216_218.out
                    obtain ⟨hcz38_0, hcz38_1, hcz38_2, hcz38_3⟩ := blk4 BK218.out
                    obtain ⟨hfz38_0, hfz38_1, hfz38_2, hfz38_3⟩ := frz4 BK218.out
                    have p219 : 0 ≤ (x49_4 : Int) := zdd
                    have q219 : x49_4 < (((zq l0_0 x26_2).f2).length : Int) := zdd
                    obtain ⟨ad219, A219_2, c219_2, A219_16, c219_16, e219, hx219_0, hx219_1, hx219_2, hx219_3, hx219_4, hx219_5, hx219_6, hx219_7, hx219_8, hx219_9, hx219_10, hx219_11, hx219_12, hx219_13, hx219_14, hx219_15, hx219_16, hl219_2, hi219_2, hl219_16, hi219_16⟩ := qv HR217_3.out x49_4 p219 q219
                    cases e219
                    obtain ⟨hx219_0, hx219_1, hx219_2, hx219_3, hx219_4, hx219_5, hx219_6, hx219_7, hx219_8, hx219_9, hx219_10, hx219_11, hx219_12, hx219_13, hx219_14, hx219_15, hx219_16⟩ := lift17 HB.out hx219_0 hx219_1 hx219_2 hx219_3 hx219_4 hx219_5 hx219_6 hx219_7 hx219_8 hx219_9 hx219_10 hx219_11 hx219_12 hx219_13 hx219_14 hx219_15 hx219_16
                    have HR219_2 := zb.mk hi219_2
                    have HC219_2 := zb.mk hl219_2
                    clear hi219_2 hl219_2
                    have HR219_16 := zb.mk hi219_16
                    have HC219_16 := zb.mk hl219_16
                    clear hi219_16 hl219_16
                    replace p219 := eq_true p219
                    replace q219 := eq_true q219
                    have p220 : 0 ≤ (x49_4 : Int) := zdd
                    have q220 : x49_4 < (((zq l0_0 x26_2).f2).length : Int) := zdd
                    obtain ⟨ad220, A220_2, c220_2, A220_16, c220_16, e220, hx220_0, hx220_1, hx220_2, hx220_3, hx220_4, hx220_5, hx220_6, hx220_7, hx220_8, hx220_9, hx220_10, hx220_11, hx220_12, hx220_13, hx220_14, hx220_15, hx220_16, hl220_2, hi220_2, hl220_16, hi220_16⟩ := qv HR217_3.out x49_4 p220 q220
                    obtain rfl : ad219 = ad220 := (by injection e220)
                    obtain ⟨hx220_0, hx220_1, hx220_2, hx220_3, hx220_4, hx220_5, hx220_6, hx220_7, hx220_8, hx220_9, hx220_10, hx220_11, hx220_12, hx220_13, hx220_14, hx220_15, hx220_16⟩ := lift17 HB.out hx220_0 hx220_1 hx220_2 hx220_3 hx220_4 hx220_5 hx220_6 hx220_7 hx220_8 hx220_9 hx220_10 hx220_11 hx220_12 hx220_13 hx220_14 hx220_15 hx220_16
                    have HR220_2 := zb.mk hi220_2
                    have HC220_2 := zb.mk hl220_2
                    clear hi220_2 hl220_2
                    have HR220_16 := zb.mk hi220_16
                    have HC220_16 := zb.mk hl220_16
                    clear hi220_16 hl220_16
                    replace p220 := eq_true p220
                    replace q220 := eq_true q220
                    have ea_ := Option.some.inj (hx219_2.symm.trans hx220_2)
                    injection ea_ with ea_ en_ ec_
                    subst ea_
                    subst ec_
                    clear en_
                    have ea_ := Option.some.inj (hx219_16.symm.trans hx220_16)
                    injection ea_ with ea_ en_ ec_
                    subst ea_
                    subst ec_
                    clear en_
                    have p221 : 0 ≤ (x49_4 : Int) := zdd
                    have q221 : x49_4 < (((zq l0_0 x26_2).f2).length : Int) := zdd
                    obtain ⟨ad221, A221_2, c221_2, A221_16, c221_16, e221, hx221_0, hx221_1, hx221_2, hx221_3, hx221_4, hx221_5, hx221_6, hx221_7, hx221_8, hx221_9, hx221_10, hx221_11, hx221_12, hx221_13, hx221_14, hx221_15, hx221_16, hl221_2, hi221_2, hl221_16, hi221_16⟩ := qv HR217_3.out x49_4 p221 q221
                    obtain rfl : ad219 = ad221 := (by injection e221)
                    obtain ⟨hx221_0, hx221_1, hx221_2, hx221_3, hx221_4, hx221_5, hx221_6, hx221_7, hx221_8, hx221_9, hx221_10, hx221_11, hx221_12, hx221_13, hx221_14, hx221_15, hx221_16⟩ := lift17 HB.out hx221_0 hx221_1 hx221_2 hx221_3 hx221_4 hx221_5 hx221_6 hx221_7 hx221_8 hx221_9 hx221_10 hx221_11 hx221_12 hx221_13 hx221_14 hx221_15 hx221_16
                    have HR221_2 := zb.mk hi221_2
                    have HC221_2 := zb.mk hl221_2
                    clear hi221_2 hl221_2
                    have HR221_16 := zb.mk hi221_16
                    have HC221_16 := zb.mk hl221_16
                    clear hi221_16 hl221_16
                    replace p221 := eq_true p221
                    replace q221 := eq_true q221
                    have ea_ := Option.some.inj (hx219_2.symm.trans hx221_2)
                    injection ea_ with ea_ en_ ec_
                    subst ea_
                    subst ec_
                    clear en_
                    have ea_ := Option.some.inj (hx219_16.symm.trans hx221_16)
                    injection ea_ with ea_ en_ ec_
                    subst ea_
                    subst ec_
                    clear en_
                    go_wp2
                    go_ret
                    exact ⟨by first | rfl | (simp [zA, zz] <;> rfl) | (simp [*, zA, zz] <;> rfl), by repeat (first | exact ub HB.out | apply zd | apply zc | apply ze | refine zh ?_ ‹_›)⟩
                   ·rw [if_neg c36] at H
                    have c36b0 : decide (60 < (wrap64 (x7_4 + (((za ((zq l0_0 x26_2).f2) x49_4).f6).length : Int)))) = false := decide_eq_false c36
                    clear c36
                    have H' := zb.mk H
                    clear H
                    have hnb39 := NB218_216.out
                    have hnc39 := NB216_218.out
                    obtain ⟨hcz40_0, hcz40_1, hcz40_2, hcz40_3⟩ := blk4 BK218.out
                    obtain ⟨hfz40_0, hfz40_1, hfz40_2, hfz40_3⟩ := frz4 BK218.out
                    have p219 : 0 ≤ (x49_4 : Int) := zdd
                    have q219 : x49_4 < (((zq l0_0 x26_2).f2).length : Int) := zdd
                    obtain ⟨ad219, A219_2, c219_2, A219_16, c219_16, e219, hx219_0, hx219_1, hx219_2, hx219_3, hx219_4, hx219_5, hx219_6, hx219_7, hx219_8, hx219_9, hx219_10, hx219_11, hx219_12, hx219_13, hx219_14, hx219_15, hx219_16, hl219_2, hi219_2, hl219_16, hi219_16⟩ := qv HR217_3.out x49_4 p219 q219
                    cases e219
                    obtain ⟨hx219_0, hx219_1, hx219_2, hx219_3, hx219_4, hx219_5, hx219_6, hx219_7, hx219_8, hx219_9, hx219_10, hx219_11, hx219_12, hx219_13, hx219_14, hx219_15, hx219_16⟩ := lift17 HB.out hx219_0 hx219_1 hx219_2 hx219_3 hx219_4 hx219_5 hx219_6 hx219_7 hx219_8 hx219_9 hx219_10 hx219_11 hx219_12 hx219_13 hx219_14 hx219_15 hx219_16
                    have HR219_2 := zb.mk hi219_2
                    have HC219_2 := zb.mk hl219_2
                    clear hi219_2 hl219_2
                    have HR219_16 := zb.mk hi219_16
                    have HC219_16 := zb.mk hl219_16
                    clear hi219_16 hl219_16
                    replace p219 := eq_true p219
                    replace q219 := eq_true q219
                    have p220 : 0 ≤ (x49_4 : Int) := zdd
                    have q220 : x49_4 < (((zq l0_0 x26_2).f2).length : Int) := zdd
                    obtain ⟨ad220, A220_2, c220_2, A220_16, c220_16, e220, hx220_0, hx220_1, hx220_2, hx220_3, hx220_4, hx220_5, hx220_6, hx220_7, hx220_8, hx220_9, hx220_10, hx220_11, hx220_12, hx220_13, hx220_14, hx220_15, hx220_16, hl220_2, hi220_2, hl220_16, hi220_16⟩ := qv HR217_3.out x49_4 p220 q220
                    obtain rfl : ad219 = ad220 := (by injection e220)
                    obtain ⟨hx220_0, hx220_1, hx220_2, hx220_3, hx220_4, hx220_5, hx220_6, hx220_7, hx220_8, hx220_9, hx220_10, hx220_11, hx220_12, hx220_13, hx220_14, hx220_15, hx220_16⟩ := lift17 HB.out hx220_0 hx220_1 hx220_2 hx220_3 hx220_4 hx220_5 hx220_6 hx220_7 hx220_8 hx220_9 hx220_10 hx220_11 hx220_12 hx220_13 hx220_14 hx220_15 hx220_16
                    have HR220_2 := zb.mk hi220_2
                    have HC220_2 := zb.mk hl220_2
                    clear hi220_2 hl220_2
                    have HR220_16 := zb.mk hi220_16
                    have HC220_16 := zb.mk hl220_16
                    clear hi220_16 hl220_16
                    replace p220 := eq_true p220
                    replace q220 := eq_true q220
                    have ea_ := Option.some.inj (hx219_2.symm.trans hx220_2)
                    injection ea_ with ea_ en_ ec_
                    subst ea_
                    subst ec_
                    clear en_
                    have ea_ := Option.some.inj (hx219_16.symm.trans hx220_16)
                    injection ea_ with ea_ en_ ec_
                    subst ea_
                    subst ec_
                    clear en_
                    have p221 : 0 ≤ (x49_4 : Int) := zdd
                    have q221 : x49_4 < (((zq l0_0 x26_2).f2).length : Int) := zdd
                    obtain ⟨ad221, A221_2, c221_2, A221_16, c221_16, e221, hx221_0, hx221_1, hx221_2, hx221_3, hx221_4, hx221_5, hx221_6, hx221_7, hx221_8, hx221_9, hx221_10, hx221_11, hx221_12, hx221_13, hx221_14, hx221_15, hx221_16, hl221_2, hi221_2, hl221_16, hi221_16⟩ := qv HR217_3.out x49_4 p221 q221
                    obtain rfl : ad219 = ad221 := (by injection e221)
                    obtain ⟨hx221_0, hx221_1, hx221_2, hx221_3, hx221_4, hx221_5, hx221_6, hx221_7, hx221_8, hx221_9, hx221_10, hx221_11, hx221_12, hx221_13, hx221_14, hx221_15, hx221_16⟩ := lift17 HB.out hx221_0 hx221_1 hx221_2 hx221_3 hx221_4 hx221_5 hx221_6 hx221_7 hx221_8 hx221_9 hx221_10 hx221_11 hx221_12 hx221_13 hx221_14 hx221_15 hx221_16
                    have HR221_2 := zb.mk hi221_2
                    have HC221_2 := zb.mk hl221_2
                    clear hi221_2 hl221_2
                    have HR221_16 := zb.mk hi221_16
                    have HC221_16 := zb.mk hl221_16
                    clear hi221_16 hl221_16
                    replace p221 := eq_true p221
                    replace q221 := eq_true q221
                    have ea_ := Option.some.inj (hx219_2.symm.trans hx221_2)
                    injection ea_ with ea_ en_ ec_
                    subst ea_
                    subst ec_
                    clear en_
                    have ea_ := Option.some.inj (hx219_16.symm.trans hx221_16)
                    injection ea_ with ea_ en_ ec_
                    subst ea_
                    subst ec_
                    clear en_
                    go_wp2
                    go_roundg k4
                    case measure => have := HJ3.out; have := HK2.out; have := HJ13.out; have := HK4.out; omega
                    case rel => exact ⟨(wrap64 (x7_4 + (((za ((zq l0_0 x26_2).f2) x49_4).f6).length : Int))), (wrap64 (x49_4 + 1)), (by first | rfl | (simp; done) | (simp [*]; done)), (by first | rfl | (simp; done) | (simp [*]; done)), H', ⟨by have := HJ3.out; have := HK2.out; have := HJ13.out; have := HK4.out; omega⟩, ⟨ul BK216.out⟩, ⟨ul BK218.out⟩, ⟨by repeat (first | exact ub HB.out | apply zd | apply zc | apply ze | refine zh ?_ ‹_›)⟩⟩
                ·rw [if_neg c29] at H
                 exact absurd H (by simp)
               ·rw [if_neg c28] at H
                exact absurd H (by simp)
              ·rw [if_neg c27] at H
               have c27b0 : decide (x49_4 < (((zq l0_0 x26_2).f2).length : Int)) = false := decide_eq_false c27
               clear c27
               have H' := zb.mk H
               clear H
               go_wp2
               go_roundg k4
               case measure => have := HJ3.out; have := HK2.out; have := HJ13.out; have := HK4.out; omega
               case rel => exact ⟨(x7_4), (wrap64 (x26_2 + 1)), (by first | rfl | (simp; done) | (simp [*]; done)), (by first | rfl | (simp; done) | (simp [*]; done)), H', ⟨by have := HJ3.out; have := HK2.out; have := HJ13.out; have := HK4.out; omega⟩, ⟨ul BK216.out⟩, ⟨by repeat (first | exact ub HB.out | apply zd | apply zc | apply ze | refine zh ?_ ‹_›)⟩⟩
        ·rw [if_neg c13] at H
         exact absurd H (by simp)
       ·rw [if_neg c12] at H
        exact absurd H (by simp)
      ·rw [if_neg c11] at H
       have c11b0 : decide (x26_2 < (l0_0.length : Int)) = false := decide_eq_false c11
       clear c11
       obtain rfl := Option.some.inj H
       go_wp2
       go_ret
       exact ⟨by first | rfl | (simp [zA, zz] <;> rfl) | (simp [*, zA, zz] <;> rfl), by repeat (first | exact ub HB.out | apply zd | apply zc | apply ze | refine zh ?_ ‹_›)⟩
end Go.Proofs.Ytmgbfgloegcloaa.Ps
