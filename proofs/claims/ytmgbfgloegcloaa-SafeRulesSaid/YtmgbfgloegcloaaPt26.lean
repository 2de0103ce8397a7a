import Derived.Test.YtmgbfgloegcloaaZip
import Derived.Test.YtmgbfgloegcloaaPtD
namespace Go.Proofs.Ytmgbfgloegcloaa.Ps
open Go.RowKit Go.Proofs.YtmgbfgloegcloaaW.PrintWords Go.Proofs.YtmgbfgloegcloaaW.PrintLast Go.Proofs.YtmgbfgloegcloaaW.PrintMore
attribute [local go_sem] yD yB yR yQ ym yl yC yA
set_option linter.unusedVariables false
set_option linter.unusedSimpArgs false
theorem eqA38 (d : Nat) (w : World) (x0 y0 : Int) (x1 y1 : Int) (x2 y2 : ByteArray) :
  (Op.equalIn (d + 2) 38 (.agg #[.int .i64 x0, .int .i64 x1, .string x2]) (.agg #[.int .i64 y0, .int .i64 y1, .string y2])).run Try.prog w = .ok (x0 == y0 && (x1 == y1 && (x2.toList == y2.toList))) w := by
 refine eqA_of Try.underlying38 (by kernel_rfl) ?_
 refine eqf_cons (by rfl) (by go_simp; rfl) (by go_simp; rfl) (by go_simp) ?_
 refine eqf_cons (by rfl) (by go_simp; rfl) (by go_simp; rfl) (by go_simp) ?_
 exact eqf_last (by rfl) (by go_simp; rfl) (by go_simp; rfl) (by go_simp)
theorem eqA40 (d : Nat) (w : World) (x0 y0 : ByteArray) (x1 y1 : Int) (x2 y2 : Int) (x3 y3 : ByteArray) :
  (Op.equalIn (d + 3) 40 (.agg #[.string x0, .int .i64 x1, .int .i64 x2, .string x3]) (.agg #[.string y0, .int .i64 y1, .int .i64 y2, .string y3])).run Try.prog w = .ok (x0.toList == y0.toList && ((x1 == y1 && (x2 == y2 && (x3.toList == y3.toList))))) w := by
 refine eqA_of Try.underlying40 (by kernel_rfl) ?_
 refine eqf_cons (by rfl) (by go_simp; rfl) (by go_simp; rfl) (by go_simp) ?_
 exact eqf_last (by rfl) (by go_simp) (by go_simp) (eqA38 (d + 0) w _ _ _ _ _ _)
end Go.Proofs.Ytmgbfgloegcloaa.Ps
namespace Go.Proofs.Ytmgbfgloegcloaa.Ps
open Go.RowKit Go.Proofs.YtmgbfgloegcloaaW.PrintWords Go.Proofs.YtmgbfgloegcloaaW.PrintLast Go.Proofs.YtmgbfgloegcloaaW.PrintMore
attribute [local go_sem] yD yB yR yQ ym yl yC yA
set_option linter.unusedVariables false
set_option linter.unusedSimpArgs false
attribute [local go_sem high] eqA40
set_option maxHeartbeats 8000000 in
set_option maxRecDepth 100000 in
theorem zx.calls (k : Nat) (a0_0 : ByteArray) (A0_1 : Option Addr) (c0_1 : Nat) (l0_1 : List (S40)) (a1_0 : ByteArray) (A1_1 : Option Addr) (c1_1 : Nat) (l1_1 : List (S40)) (r : Bool) (w : World) (hr0_1 : Kd.C k40 w A0_1 l0_1.length l0_1) (hc0_1 : l0_1.length ≤ c0_1) (hr1_1 : Kd.C k40 w A1_1 l1_1.length l1_1) (hc1_1 : l1_1.length ≤ c1_1) (h : zx.f k a0_0 l0_1 a1_0 l1_1 = some r) :
  Calls Try.prog 36 #[.agg #[.string a0_0, .slice A0_1 l0_1.length c0_1], .agg #[.string a1_0, .slice A1_1 l1_1.length c1_1]] w fun e w' => e = .returned (.bool r) ∧ Below w.heap.size w w' := by
 have hu36 := Try.underlying36
 have hu40 := Try.underlying40
 have HR0_1 := zb.mk hr0_1
 have HC0_1 := zb.mk hc0_1
 clear hr0_1 hc0_1
 have HR1_1 := zb.mk hr1_1
 have HC1_1 := zb.mk hc1_1
 clear hr1_1 hc1_1
 have HB := zb.mk (Below.refl w.heap.size w)
 have H : (if a0_0.toList = a1_0.toList then (zx.j0 k ((l0_1.length : Int) != (l1_1.length : Int)) a0_0 l0_1 a1_0 l1_1) else (zx.j0 k true a0_0 l0_1 a1_0 l1_1)) = some r := h
 clear h
 have HC3 := zb.mk H
 clear H
 go_enter Try.func36, Try.ntmps36
 go_upto_region 1 with (first | ((with_reducible refine zQ (N := 2) rfl ?_); (try (refine yT (by rfl) ?_; dsimp only)); refine zM ?hg (N := 2) ?hd (cs := #[.string a0_0, .slice A0_1 l0_1.length c0_1]) (t := 36) ?hr ?_; (case hd => rfl); (case hg => rfl); (case hr => first | (go_simp; done) | (go_simp; rfl)); intro gb420 hg w4 hbox hb; have n0_ := zb.mk (zn (ub HB.out) hb); have n1_ := zb.mk (hbox); have n2_ := zb.mk ((by rw [hg]; exact (zi (ub HB.out)) : w.heap.size ≤ gb420)); have n3_ := zb.mk ((by rw [hg]; exact (zi (ub HB.out)) : w.heap.size ≤ gb420)); clear HB; have HB := n0_; have BK420 := n1_; have GW420 := n2_; have GE420 := n3_; clear n0_ n1_ n2_ n3_; clear hb hbox hg) | ((with_reducible refine zQ (N := 3) rfl ?_); (try (refine yT (by rfl) ?_; dsimp only)); refine zM ?hg (N := 3) ?hd (cs := #[.string a1_0, .slice A1_1 l1_1.length c1_1]) (t := 36) ?hr ?_; (case hd => rfl); (case hg => rfl); (case hr => first | (go_simp; done) | (go_simp; rfl)); intro gb421 hg w5 hbox hb; have n0_ := zb.mk (zo (ul BK420.out) hb); have n1_ := zb.mk (zn (by repeat (first | exact ub HB.out | apply zd | apply zc | apply ze | refine zh ?_ ‹_›)) hb); have n2_ := zb.mk (hbox); have n3_ := zb.mk ((by rw [hg]; exact (zi (by repeat (first | exact ub HB.out | apply zd | apply zc | apply ze | refine zh ?_ ‹_›))) : w.heap.size ≤ gb421)); have n4_ := zb.mk ((by rw [hg]; exact (zi (by repeat (first | exact ub HB.out | apply zd | apply zc | apply ze | refine zh ?_ ‹_›))) : w.heap.size ≤ gb421)); have n5_ := zb.mk ((by rw [hg]; exact Nat.ne_of_lt (zO (ul BK420.out)) : gb420 ≠ gb421)); have n6_ := zb.mk ((by rw [hg]; exact Nat.ne_of_gt (zO (ul BK420.out)) : gb421 ≠ gb420)); clear BK420; clear HB; have BK420 := n0_; have HB := n1_; have BK421 := n2_; have GW421 := n3_; have GE421 := n4_; have NB420_421 := n5_; have NB421_420 := n6_; clear n0_ n1_ n2_ n3_ n4_ n5_ n6_; clear hb hbox hg))
 repeat (go_quiet (first | ((with_reducible refine zQ (N := 2) rfl ?_); (try (refine yT (by rfl) ?_; dsimp only)); refine zM ?hg (N := 2) ?hd (cs := #[.string a0_0, .slice A0_1 l0_1.length c0_1]) (t := 36) ?hr ?_; (case hd => rfl); (case hg => rfl); (case hr => first | (go_simp; done) | (go_simp; rfl)); intro gb420 hg w4 hbox hb; have n0_ := zb.mk (zn (ub HB.out) hb); have n1_ := zb.mk (hbox); have n2_ := zb.mk ((by rw [hg]; exact (zi (ub HB.out)) : w.heap.size ≤ gb420)); have n3_ := zb.mk ((by rw [hg]; exact (zi (ub HB.out)) : w.heap.size ≤ gb420)); clear HB; have HB := n0_; have BK420 := n1_; have GW420 := n2_; have GE420 := n3_; clear n0_ n1_ n2_ n3_; clear hb hbox hg) | ((with_reducible refine zQ (N := 3) rfl ?_); (try (refine yT (by rfl) ?_; dsimp only)); refine zM ?hg (N := 3) ?hd (cs := #[.string a1_0, .slice A1_1 l1_1.length c1_1]) (t := 36) ?hr ?_; (case hd => rfl); (case hg => rfl); (case hr => first | (go_simp; done) | (go_simp; rfl)); intro gb421 hg w5 hbox hb; have n0_ := zb.mk (zo (ul BK420.out) hb); have n1_ := zb.mk (zn (by repeat (first | exact ub HB.out | apply zd | apply zc | apply ze | refine zh ?_ ‹_›)) hb); have n2_ := zb.mk (hbox); have n3_ := zb.mk ((by rw [hg]; exact (zi (by repeat (first | exact ub HB.out | apply zd | apply zc | apply ze | refine zh ?_ ‹_›))) : w.heap.size ≤ gb421)); have n4_ := zb.mk ((by rw [hg]; exact (zi (by repeat (first | exact ub HB.out | apply zd | apply zc | apply ze | refine zh ?_ ‹_›))) : w.heap.size ≤ gb421)); have n5_ := zb.mk ((by rw [hg]; exact Nat.ne_of_lt (zO (ul BK420.out)) : gb420 ≠ gb421)); have n6_ := zb.mk ((by rw [hg]; exact Nat.ne_of_gt (zO (ul BK420.out)) : gb421 ≠ gb420)); clear BK420; clear HB; have BK420 := n0_; have HB := n1_; have BK421 := n2_; have GW421 := n3_; have GE421 := n4_; have NB420_421 := n5_; have NB421_420 := n6_; clear n0_ n1_ n2_ n3_ n4_ n5_ n6_; clear hb hbox hg)); go_upto_region 1 with (first | ((with_reducible refine zQ (N := 2) rfl ?_); (try (refine yT (by rfl) ?_; dsimp only)); refine zM ?hg (N := 2) ?hd (cs := #[.string a0_0, .slice A0_1 l0_1.length c0_1]) (t := 36) ?hr ?_; (case hd => rfl); (case hg => rfl); (case hr => first | (go_simp; done) | (go_simp; rfl)); intro gb420 hg w4 hbox hb; have n0_ := zb.mk (zn (ub HB.out) hb); have n1_ := zb.mk (hbox); have n2_ := zb.mk ((by rw [hg]; exact (zi (ub HB.out)) : w.heap.size ≤ gb420)); have n3_ := zb.mk ((by rw [hg]; exact (zi (ub HB.out)) : w.heap.size ≤ gb420)); clear HB; have HB := n0_; have BK420 := n1_; have GW420 := n2_; have GE420 := n3_; clear n0_ n1_ n2_ n3_; clear hb hbox hg) | ((with_reducible refine zQ (N := 3) rfl ?_); (try (refine yT (by rfl) ?_; dsimp only)); refine zM ?hg (N := 3) ?hd (cs := #[.string a1_0, .slice A1_1 l1_1.length c1_1]) (t := 36) ?hr ?_; (case hd => rfl); (case hg => rfl); (case hr => first | (go_simp; done) | (go_simp; rfl)); intro gb421 hg w5 hbox hb; have n0_ := zb.mk (zo (ul BK420.out) hb); have n1_ := zb.mk (zn (by repeat (first | exact ub HB.out | apply zd | apply zc | apply ze | refine zh ?_ ‹_›)) hb); have n2_ := zb.mk (hbox); have n3_ := zb.mk ((by rw [hg]; exact (zi (by repeat (first | exact ub HB.out | apply zd | apply zc | apply ze | refine zh ?_ ‹_›))) : w.heap.size ≤ gb421)); have n4_ := zb.mk ((by rw [hg]; exact (zi (by repeat (first | exact ub HB.out | apply zd | apply zc | apply ze | refine zh ?_ ‹_›))) : w.heap.size ≤ gb421)); have n5_ := zb.mk ((by rw [hg]; exact Nat.ne_of_lt (zO (ul BK420.out)) : gb420 ≠ gb421)); have n6_ := zb.mk ((by rw [hg]; exact Nat.ne_of_gt (zO (ul BK420.out)) : gb421 ≠ gb420)); clear BK420; clear HB; have BK420 := n0_; have HB := n1_; have BK421 := n2_; have GW421 := n3_; have GE421 := n4_; have NB420_421 := n5_; have NB421_420 := n6_; clear n0_ n1_ n2_ n3_ n4_ n5_ n6_; clear hb hbox hg)))
 (try simp only [Act.put, List.setIfInBounds_toArray, List.set_cons_zero, List.set_cons_succ])
 go_cut [19] (fun v19 wc => ∃ (kq : Nat) (x19_2 : Bool), v19 = .bool x19_2 ∧ zb (zx.j0 kq x19_2 a0_0 l0_1 a1_0 l1_1 = some r) ∧ zb (kq ≤ k) ∧ zb (wc.heap[gb420]? = some (.cells #[.string a0_0, (.slice A0_1 l0_1.length c0_1)] 36 (0, 0))) ∧ zb (wc.heap[gb421]? = some (.cells #[.string a1_0, (.slice A1_1 l1_1.length c1_1)] 36 (0, 0))) ∧ zb (Below w.heap.size w wc))
 case first =>
  have H := HC3.out
  clear HC3
  by_cases c6 : a0_0.toList = a1_0.toList
  ·rw [if_pos c6] at H
   have c6b0 : (a0_0.toList == a1_0.toList) = true := beq_iff_eq.mpr c6
   have c6b1 : (a0_0.toList != a1_0.toList) = false := bne_eq_false_iff_eq.mpr c6
   clear c6
   (first | rw [c6b0] | (simp only [i64_w, i32_w]; rw [c6b0]) | skip)
   have H' := zb.mk H
   clear H
   have hnb7 := NB420_421.out
   have hnc7 := NB421_420.out
   obtain ⟨hcz8_0, hcz8_1⟩ := blk2 BK420.out
   obtain ⟨hfz8_0, hfz8_1⟩ := frz2 BK420.out
   obtain ⟨hcz9_0, hcz9_1⟩ := blk2 BK421.out
   obtain ⟨hfz9_0, hfz9_1⟩ := frz2 BK421.out
   go_wp2
   repeat (go_quiet (fail); try go_wp2)
   go_meet
   case rel => exact ⟨_, (((l0_1.length : Int) != (l1_1.length : Int))), (by first | rfl | (simp; done) | (simp [*]; done)), H', ⟨by first | omega | exact Nat.le_refl _⟩, ⟨ul BK420.out⟩, ⟨ul BK421.out⟩, ⟨by repeat (first | exact ub HB.out | apply zd | apply zc | apply ze | refine zh ?_ ‹_›)⟩⟩
  ·rw [if_neg c6] at H
   have c6b0 : (a0_0.toList == a1_0.toList) = false := beq_eq_false_iff_ne.mpr c6
   have c6b1 : (a0_0.toList != a1_0.toList) = true := bne_iff_ne.mpr c6
   (first | rw [c6b0] | (simp only [i64_w, i32_w]; rw [c6b0]) | skip)
   have H' := zb.mk H
   clear H
   have hnb10 := NB420_421.out
   have hnc10 := NB421_420.out
   obtain ⟨hcz11_0, hcz11_1⟩ := blk2 BK420.out
   obtain ⟨hfz11_0, hfz11_1⟩ := frz2 BK420.out
   obtain ⟨hcz12_0, hcz12_1⟩ := blk2 BK421.out
   obtain ⟨hfz12_0, hfz12_1⟩ := frz2 BK421.out
   go_wp2
   repeat (go_quiet (fail); try go_wp2)
   go_meet
   case rel => exact ⟨_, (true), (by first | rfl | (simp; done) | (simp [*]; done)), H', ⟨by first | omega | exact Nat.le_refl _⟩, ⟨ul BK420.out⟩, ⟨ul BK421.out⟩, ⟨by repeat (first | exact ub HB.out | apply zd | apply zc | apply ze | refine zh ?_ ‹_›)⟩⟩
 case rest =>
  clear HC3
  try clear c1
  try clear p2
  try clear c3
  try clear c6
  try clear c6b0
  try clear c6b1
  try clear c7
  try clear c10
  try clear hcz11_0 hcz11_1
  try clear hcz12_0 hcz12_1
  try clear hcz8_0 hcz8_1
  try clear hcz9_0 hcz9_1
  try clear hfz11_0 hfz11_1
  try clear hfz12_0 hfz12_1
  try clear hfz8_0 hfz8_1
  try clear hfz9_0 hfz9_1
  obtain ⟨kq, x19_2, rfl, HA, HJ2, BK420, BK421, HB⟩ := hcut
  cases kq with
  | zero => exact absurd HA.out (by simp [zx.j0])
  | succ kj2 =>
   have H := HA.out
   clear HA
   simp only [zx.j0] at H
   by_cases c13 : x19_2 = true
   ·subst c13
    have H1 : (none) = some r := by rw [if_pos rfl] at H; exact H
    clear H
    have H := H1
    clear H1
    exact absurd H (by simp)
   ·replace c13 := Bool.eq_false_iff.mpr c13
    subst c13
    have H1 : (zx.l0 kj2 (l0_1.length : Int) 0 a0_0 l0_1 a1_0 l1_1) = some r := by rw [if_neg (show ¬ (false = true) by decide)] at H; exact H
    clear H
    have H := H1
    clear H1
    have H' := zb.mk H
    clear H
    have hnb14 := NB420_421.out
    have hnc14 := NB421_420.out
    obtain ⟨hcz15_0, hcz15_1⟩ := blk2 BK420.out
    obtain ⟨hfz15_0, hfz15_1⟩ := frz2 BK420.out
    go_wp2
    repeat (go_quiet (fail); try go_wp2)
    go_loopg [23] kj2 (fun kq v23 w' => ∃ (x23_2 : Int), v23 = .int .i64 x23_2 ∧ zb (zx.l0 kq (l0_1.length : Int) x23_2 a0_0 l0_1 a1_0 l1_1 = some r) ∧ zb (kq ≤ kj2) ∧ zb (w'.heap[gb420]? = some (.cells #[.string a0_0, (.slice A0_1 l0_1.length c0_1)] 36 (0, 0))) ∧ zb (w'.heap[gb421]? = some (.cells #[.string a1_0, (.slice A1_1 l1_1.length c1_1)] 36 (0, 0))) ∧ zb (Below w.heap.size w w'))
    case atStart => exact ⟨(0), (by first | rfl | (simp; done) | (simp [*]; done)), H', ⟨Nat.le_refl _⟩, ⟨ul BK420.out⟩, ⟨ul BK421.out⟩, ⟨by repeat (first | exact ub HB.out | apply zd | apply zc | apply ze | refine zh ?_ ‹_›)⟩⟩
    case round =>
     clear H'
     try clear c1
     try clear p2
     try clear c3
     try clear c6
     try clear c6b0
     try clear c6b1
     try clear c7
     try clear c10
     try clear c13
     try clear c14
     try clear hcz11_0 hcz11_1
     try clear hcz12_0 hcz12_1
     try clear hcz15_0 hcz15_1
     try clear hcz8_0 hcz8_1
     try clear hcz9_0 hcz9_1
     try clear hfz11_0 hfz11_1
     try clear hfz12_0 hfz12_1
     try clear hfz15_0 hfz15_1
     try clear hfz8_0 hfz8_1
     try clear hfz9_0 hfz9_1
     try clear p2
     obtain ⟨x23_2, rfl, HA, HK2, BK420, BK421, HB⟩ := hrel
     cases gk with
     | zero => exact absurd HA.out (by simp [zx.l0])
     | succ k2 =>
      have H := HA.out
      clear HA
      simp only [zx.l0] at H
      by_cases c16 : x23_2 < (l0_1.length : Int)
      ·rw [if_pos c16] at H
       have c16b0 : decide (x23_2 < (l0_1.length : Int)) = true := decide_eq_true c16
       clear c16
       by_cases c17 : 0 ≤ x23_2
       ·rw [if_pos c17] at H
        have c17b0 : decide (0 ≤ x23_2) = true := decide_eq_true c17
        clear c17
        by_cases c18 : x23_2 < (l0_1.length : Int)
        ·rw [if_pos c18] at H
         have c18b0 : decide (x23_2 < (l0_1.length : Int)) = true := decide_eq_true c18
         clear c18
         by_cases c19 : x23_2 < (l1_1.length : Int)
         ·rw [if_pos c19] at H
          have c19b0 : decide (x23_2 < (l1_1.length : Int)) = true := decide_eq_true c19
          clear c19
          by_cases c20 : (!((((yf l0_1 x23_2).f0).toList) == (((yf l1_1 x23_2).f0).toList)) || ((!(((yf l0_1 x23_2).f1.f0) == ((yf l1_1 x23_2).f1.f0)) || (!(((yf l0_1 x23_2).f1.f1) == ((yf l1_1 x23_2).f1.f1)) || (!((((yf l0_1 x23_2).f1.f2).toList) == (((yf l1_1 x23_2).f1.f2).toList))))))) = true
          ·rw [if_pos c20] at H
           exact absurd H (by simp)
          ·rw [if_neg c20] at H
           have c20b0 : (!((((yf l0_1 x23_2).f0).toList) == (((yf l1_1 x23_2).f0).toList)) || ((!(((yf l0_1 x23_2).f1.f0) == ((yf l1_1 x23_2).f1.f0)) || (!(((yf l0_1 x23_2).f1.f1) == ((yf l1_1 x23_2).f1.f1)) || (!((((yf l0_1 x23_2).f1.f2).toList) == (((yf l1_1 x23_2).f1.f2).toList))))))) = false := by simpa using c20
           clear c20
           have H' := zb.mk H
           clear H
           have hnb21 := NB420_421.out
           have hnc21 := NB421_420.out
           obtain ⟨hcz22_0, hcz22_1⟩ := blk2 BK420.out
           obtain ⟨hfz22_0, hfz22_1⟩ := frz2 BK420.out
           have p422 : 0 ≤ (x23_2 : Int) := zdd
           have q422 : x23_2 < (l0_1.length : Int) := zdd
           obtain ⟨ad422, e422, hx422_0, hx422_1, hx422_2, hx422_3⟩ := at_T40 HR0_1.out x23_2 p422 q422
           cases e422
           obtain ⟨hx422_0, hx422_1, hx422_2, hx422_3⟩ := lift4 HB.out hx422_0 hx422_1 hx422_2 hx422_3
           replace p422 := eq_true p422
           replace q422 := eq_true q422
           obtain ⟨hcz23_0, hcz23_1⟩ := blk2 BK421.out
           obtain ⟨hfz23_0, hfz23_1⟩ := frz2 BK421.out
           have p423 : 0 ≤ (x23_2 : Int) := zdd
           have q423 : x23_2 < (l1_1.length : Int) := zdd
           obtain ⟨ad423, e423, hx423_0, hx423_1, hx423_2, hx423_3⟩ := at_T40 HR1_1.out x23_2 p423 q423
           cases e423
           obtain ⟨hx423_0, hx423_1, hx423_2, hx423_3⟩ := lift4 HB.out hx423_0 hx423_1 hx423_2 hx423_3
           replace p423 := eq_true p423
           replace q423 := eq_true q423
           go_wp2
           repeat (go_quiet (fail); try go_wp2)
           go_roundg k2
           case measure => have := HJ2.out; have := HK2.out; omega
           case rel => exact ⟨(wrap64 (x23_2 + 1)), (by first | rfl | (simp; done) | (simp [*]; done)), H', ⟨by have := HJ2.out; have := HK2.out; omega⟩, ⟨ul BK420.out⟩, ⟨ul BK421.out⟩, ⟨by repeat (first | exact ub HB.out | apply zd | apply zc | apply ze | refine zh ?_ ‹_›)⟩⟩
         ·rw [if_neg c19] at H
          exact absurd H (by simp)
        ·rw [if_neg c18] at H
         exact absurd H (by simp)
       ·rw [if_neg c17] at H
        exact absurd H (by simp)
      ·rw [if_neg c16] at H
       have c16b0 : decide (x23_2 < (l0_1.length : Int)) = false := decide_eq_false c16
       clear c16
       obtain rfl := Option.some.inj H
       go_wp2
       repeat (go_quiet (fail); try go_wp2)
       go_ret
       exact ⟨by first | rfl | (simp [zA, zz] <;> rfl) | (simp [*, zA, zz] <;> rfl), by repeat (first | exact ub HB.out | apply zd | apply zc | apply ze | refine zh ?_ ‹_›)⟩
end Go.Proofs.Ytmgbfgloegcloaa.Ps
