import Derived.Test.YtmgbfgloegcloaaZip
import Derived.Test.YtmgbfgloegcloaaGlf
import Derived.Test.YtmgbfgloegcloaaPtD
import Derived.Test.YtmgbfgloegcloaaPs14
import Derived.Test.YtmgbfgloegcloaaPs19
import Derived.Test.YtmgbfgloegcloaaPs21
namespace Go.Proofs.Ytmgbfgloegcloaa.Ps
open Go.RowKit Go.Proofs.YtmgbfgloegcloaaW.PrintWords Go.Proofs.YtmgbfgloegcloaaW.PrintLast Go.Proofs.YtmgbfgloegcloaaW.PrintMore
attribute [local go_sem] yD yB yR yQ ym yl yC yA
set_option linter.unusedVariables false
set_option linter.unusedSimpArgs false
def zt.T15 : Bool × List (List Nat × List Nat) := (true, [([], []), ([0], [0]), ([], []), ([2], [2]), ([], []), ([], []), ([4, 5], [4, 5]), ([6], [6]), ([3, 7], [3, 7]), ([8], [8]), ([9], [9]), ([1, 10], [1, 10]), ([0, 1, 2, 3, 4, 5, 6, 7, 8, 9, 10, 11], []), ([12, 11, 11, 0, 1, 2, 3, 4, 5, 6, 7, 8, 9, 10, 11], [11, 12])])
def zt.B15 : List Nat := [0, 1, 0, 4, 0, 0, 48, 112, 252, 508, 1020, 2047, 4095, 8191]
theorem zt.tab15 : rtab .any (opsOf Try.f26 15) = zt.T15 := by kernel_rfl
theorem zt.bits15 : waitsOk zt.T15.2 zt.B15 = true := by kernel_rfl
set_option maxHeartbeats 8000000 in
set_option maxRecDepth 100000 in
theorem zt.calls (k : Nat) (a0_0 : ByteArray) (P0_1_ : Nat → Prop) (A0_1 : Option Addr) (c0_1 : Nat) (l0_1 : List (S40)) (a0_2 : Int) (P0_3_ : Nat → Prop) (A0_3 : Option Addr) (c0_3 : Nat) (l0_3 : List (S43)) (r1 : ByteArray) (r2 : List (S40)) (r3 : Int) (r4 : List (S43)) (r5 : Int) (w : World) (hs0_1 : Kd.V k40 40 w w.heap.size (fun k_ => P0_1_ k_) (.slice A0_1 l0_1.length c0_1) l0_1) (hs0_3 : Kd.V k43 43 w w.heap.size (fun k_ => P0_3_ k_) (.slice A0_3 l0_3.length c0_3) l0_3) (h : zt.f k a0_0 l0_1 a0_2 l0_3 = some (r1, r2, r3, r4, r5)) :
  Calls Try.prog 26 #[.agg #[.string a0_0, .slice A0_1 l0_1.length c0_1, .int .i64 a0_2, .slice A0_3 l0_3.length c0_3]] w fun e w' => ∃ v1_ v3_ : Value, e = .returned (.tuple #[.agg #[.string r1, v1_, .int .i64 r3, v3_], .int .i64 r5]) ∧ Kd.V k40 40 w' w.heap.size (fun k_ => ((P0_1_ k_ ∨ P0_3_ k_) ∨ w.heap.size ≤ k_) ∧ some k_ ≠ (v3_ : Value).ownBlock) v1_ r2 ∧ Kd.N k43 43 w' w.heap.size (fun k_ => ((P0_1_ k_ ∨ P0_3_ k_) ∨ w.heap.size ≤ k_)) v3_ r4 ∧ Below w.heap.size w w' := by
 have hu51 := Try.underlying51
 have hu36 := Try.underlying36
 have hu43 := Try.underlying43
 have HO0_1 := zb.mk (show Kd.V k40 40 w w.heap.size (fun k_ => ((P0_1_ k_ ∨ P0_3_ k_) ∨ w.heap.size ≤ k_)) (.slice A0_1 l0_1.length c0_1) l0_1 from Kd.zy hs0_1 (fun k_ hk => .inl (.inl hk)))
 have HO0_3 := zb.mk (show Kd.V k43 43 w w.heap.size (fun k_ => ((P0_1_ k_ ∨ P0_3_ k_) ∨ w.heap.size ≤ k_)) (.slice A0_3 l0_3.length c0_3) l0_3 from Kd.zy hs0_3 (fun k_ hk => .inl (.inr hk)))
 have HB := zb.mk (Below.refl w.heap.size w)
 have H : ((zk.f k l0_3 ([] : List ByteArray)).bind fun bt538 => (if bt538.2.2 = 0 then ((zp.f k l0_1 ([] : List ByteArray)).bind fun t545 => (zt.l0 k bt538.1 bt538.2.1 t545 (t545.length : Int) 0 a0_0 l0_1 a0_2 l0_3)) else (some ((⟨#[]⟩ : ByteArray), ([] : List (S40)), 0, ([] : List (S43)), bt538.2.2)))) = some (r1, r2, r3, r4, r5) := h
 clear h
 replace H := Option.bind_eq_some_iff.mp H
 obtain ⟨⟨t538, t539, t540⟩, A20, H⟩ := H
 replace H : (if t540 = 0 then ((zp.f k l0_1 ([] : List ByteArray)).bind fun t545 => (zt.l0 k t538 t539 t545 (t545.length : Int) 0 a0_0 l0_1 a0_2 l0_3)) else (some ((⟨#[]⟩ : ByteArray), ([] : List (S40)), 0, ([] : List (S43)), t540))) = some (r1, r2, r3, r4, r5) := H
 have A2 := zb.mk A20
 clear A20
 by_cases c3 : t540 = 0
 ·rw [if_pos c3] at H
  have c3b0 : (t540 == 0) = true := beq_iff_eq.mpr c3
  have c3b1 : (t540 != 0) = false := bne_eq_false_iff_eq.mpr c3
  clear c3
  replace H := Option.bind_eq_some_iff.mp H
  obtain ⟨t545, A40, H⟩ := H
  replace H : (zt.l0 k t538 t539 t545 (t545.length : Int) 0 a0_0 l0_1 a0_2 l0_3) = some (r1, r2, r3, r4, r5) := H
  have A4 := zb.mk A40
  clear A40
  have H' := zb.mk H
  clear H
  go_enter Try.func26, Try.ntmps26
  go_wp2_with (first | ((with_reducible refine zQ (N := 1) rfl ?_); refine zM ?hg (N := 1) ?hd (cs := #[.string a0_0, .slice A0_1 l0_1.length c0_1, .int .i64 a0_2, .slice A0_3 l0_3.length c0_3]) (t := 51) ?hr ?_; (case hd => rfl); (case hg => rfl); (case hr => first | (go_simp; done) | (go_simp; rfl)); intro gb536 hg w5 hbox hb; have n0_ := zb.mk (Kd.zN (Kd.zI (uv HO0_1.out) gb536 (Nat.le_of_eq hg.symm)) hb); have n1_ := zb.mk (Kd.zN (Kd.zI (uv HO0_3.out) gb536 (Nat.le_of_eq hg.symm)) hb); have n2_ := zb.mk (zn (ub HB.out) hb); have n3_ := zb.mk (hbox); have n4_ := zb.mk ((by rw [hg]; exact (zi (ub HB.out)) : w.heap.size ≤ gb536)); have n5_ := zb.mk ((by rw [hg]; exact (zi (ub HB.out)) : w.heap.size ≤ gb536)); clear HO0_1; clear HO0_3; clear HB; have HO0_1 := n0_; have HO0_3 := n1_; have HB := n2_; have BK536 := n3_; have GW536 := n4_; have GE536 := n5_; clear n0_ n1_ n2_ n3_ n4_ n5_; clear hb hbox hg) | ((with_reducible refine zQ (N := 2) rfl ?_); refine zM ?hg (N := 2) ?hd (cs := #[.string (⟨#[]⟩ : ByteArray), .slice none 0 0, .int .i64 0, .slice none 0 0]) (t := 51) ?hr ?_; (case hd => rfl); (case hg => rfl); (case hr => first | (go_simp; done) | (go_simp; rfl)); intro gb537 hg w6 hbox hb; have n0_ := zb.mk (Kd.zN (Kd.zI (uv HO0_1.out) gb537 (Nat.le_of_eq hg.symm)) hb); have n1_ := zb.mk (Kd.zN (Kd.zI (uv HO0_3.out) gb537 (Nat.le_of_eq hg.symm)) hb); have n2_ := zb.mk (zo (ul BK536.out) hb); have n3_ := zb.mk (zn (by repeat (first | exact ub HB.out | apply zd | apply zc | apply ze | refine zh ?_ ‹_›)) hb); have n4_ := zb.mk (hbox); have n5_ := zb.mk ((by rw [hg]; exact (zi (by repeat (first | exact ub HB.out | apply zd | apply zc | apply ze | refine zh ?_ ‹_›))) : w.heap.size ≤ gb537)); have n6_ := zb.mk ((by rw [hg]; exact (zi (by repeat (first | exact ub HB.out | apply zd | apply zc | apply ze | refine zh ?_ ‹_›))) : w.heap.size ≤ gb537)); have n7_ := zb.mk ((by rw [hg]; exact Nat.ne_of_lt (zO (ul BK536.out)) : gb536 ≠ gb537)); have n8_ := zb.mk ((by rw [hg]; exact Nat.ne_of_gt (zO (ul BK536.out)) : gb537 ≠ gb536)); clear HO0_1; clear HO0_3; clear BK536; clear HB; have HO0_1 := n0_; have HO0_3 := n1_; have BK536 := n2_; have HB := n3_; have BK537 := n4_; have GW537 := n5_; have GE537 := n6_; have NB536_537 := n7_; have NB537_536 := n8_; clear n0_ n1_ n2_ n3_ n4_ n5_ n6_ n7_ n8_; clear hb hbox hg; have hnb7 := NB536_537.out; have hnc7 := NB537_536.out; obtain ⟨hcz8_0, hcz8_1, hcz8_2, hcz8_3⟩ := blk4 BK536.out; obtain ⟨hfz8_0, hfz8_1, hfz8_2, hfz8_3⟩ := frz4 BK536.out) | ((with_reducible refine zP (f := 12) rfl ?_); refine yH (some 14) rfl rfl Try.func12 (by kernel_rfl) rfl #[.slice A0_3 l0_3.length c0_3, .slice none 0 0] rfl (by (try simp only [List.map_toArray, List.map_cons, List.map_nil]); first | done | rfl | (simp only [List.length_drop, List.length_take]; rfl)) ?_; (refine (zk.calls k _ _ l0_3 _ _ ([] : List ByteArray) t538 t539 t540 _ ?side1 ?side2 ?side3 ?side4 A2.out).mono ?_); (case side1 => repeat (first | exact (Kd.ya HO0_3.out).2.2 | (with_reducible refine Kd.yw ?_ _) | (with_reducible refine Kd.yv ?_ _) | (with_reducible refine Kd.yP ?_))); (case side2 => exact (Kd.ya HO0_3.out).2.1); (case side3 => exact Kd.C_nil _ _); (case side4 => exact Nat.le_refl _); rintro e w9 ⟨v541, v543, rfl, ho0, ho1, hb⟩; refine ⟨_, rfl, ?_⟩; have n0_ := zb.mk (Kd.zy (Kd.qD (Kd.qD (Kd.V_old (uv HO0_1.out) hb) (Kd.yI ho0)) (Kd.yI ho1)) (fun _ h_ => h_.1)); have n1_ := zb.mk (Kd.zy (Kd.qD (Kd.qD (Kd.V_old (uv HO0_3.out) hb) (Kd.yI ho0)) (Kd.yI ho1)) (fun _ h_ => h_.1)); have n2_ := zb.mk (Kd.yr (Kd.R_newM (M := fun k_ => (w.heap.size ≤ k_)) ho0 (zi (by repeat (first | exact ub HB.out | apply zd | apply zc | apply ze | refine zh ?_ ‹_›))) (fun k_ h_ => h_)) (zi (by repeat (first | exact ub HB.out | apply zd | apply zc | apply ze | refine zh ?_ ‹_›)))); have n3_ := zb.mk (Kd.yr (Kd.R_newM (M := fun k_ => (w.heap.size ≤ k_)) ho1 (zi (by repeat (first | exact ub HB.out | apply zd | apply zc | apply ze | refine zh ?_ ‹_›))) (fun k_ h_ => h_)) (zi (by repeat (first | exact ub HB.out | apply zd | apply zc | apply ze | refine zh ?_ ‹_›)))); have n4_ := zb.mk (zo (ul BK536.out) hb); have n5_ := zb.mk (zo (ul BK537.out) hb); have n6_ := zb.mk (zn (by repeat (first | exact ub HB.out | apply zd | apply zc | apply ze | refine zh ?_ ‹_›)) hb); clear HO0_1; clear HO0_3; clear BK536; clear BK537; clear HB; have HO0_1 := n0_; have HO0_3 := n1_; have HO542 := n2_; have HO544 := n3_; have BK536 := n4_; have BK537 := n5_; have HB := n6_; clear n0_ n1_ n2_ n3_ n4_ n5_ n6_; (try clear hb); (try clear hb2); (try clear hk); (try clear hi); (try clear ho0); (try clear ho1); obtain ⟨hcz10_0, hcz10_1, hcz10_2, hcz10_3⟩ := blk4 BK536.out; obtain ⟨hfz10_0, hfz10_1, hfz10_2, hfz10_3⟩ := frz4 BK536.out) | ((with_reducible refine zP (f := 19) rfl ?_); refine yH (some 25) rfl rfl Try.func19 (by kernel_rfl) rfl #[.slice A0_1 l0_1.length c0_1, .slice none 0 0] rfl (by (try simp only [List.map_toArray, List.map_cons, List.map_nil]); first | done | rfl | (simp only [List.length_drop, List.length_take]; rfl)) ?_; (refine (zp.calls k _ _ l0_1 _ _ ([] : List ByteArray) t545 _ ?side1 ?side2 ?side3 ?side4 A4.out).mono ?_); (case side1 => repeat (first | exact (Kd.ya HO0_1.out).2.2 | (with_reducible refine Kd.yw ?_ _) | (with_reducible refine Kd.yv ?_ _) | (with_reducible refine Kd.yP ?_))); (case side2 => exact (Kd.ya HO0_1.out).2.1); (case side3 => exact Kd.C_nil _ _); (case side4 => exact Nat.le_refl _); rintro e w11 ⟨v546, rfl, ho0, hb⟩; refine ⟨_, rfl, ?_⟩; have n0_ := zb.mk (Kd.yk (uv HO0_1.out) (Kd.yI ho0) hb); have n1_ := zb.mk (Kd.yk (uv HO0_3.out) (Kd.yI ho0) hb); have n2_ := zb.mk (Kd.yb (ur HO542.out) hb); have n3_ := zb.mk (Kd.qH (ur HO544.out) (Kd.yI ho0) hb); have n4_ := zb.mk (Kd.yr (Kd.R_new' (Kd.R_newM (M := fun k_ => (w.heap.size ≤ k_)) ho0 (zi (by repeat (first | exact ub HB.out | apply zd | apply zc | apply ze | refine zh ?_ ‹_›))) (fun k_ h_ => h_)) (Kd.R_lt (ur HO544.out))) (zi (by repeat (first | exact ub HB.out | apply zd | apply zc | apply ze | refine zh ?_ ‹_›)))); have n5_ := zb.mk (zo (ul BK536.out) hb); have n6_ := zb.mk (zo (ul BK537.out) hb); have n7_ := zb.mk (zn (by repeat (first | exact ub HB.out | apply zd | apply zc | apply ze | refine zh ?_ ‹_›)) hb); clear HO0_1; clear HO0_3; clear HO542; clear HO544; clear BK536; clear BK537; clear HB; have HO0_1 := n0_; have HO0_3 := n1_; have HO542 := n2_; have HO544 := n3_; have HO547 := n4_; have BK536 := n5_; have BK537 := n6_; have HB := n7_; clear n0_ n1_ n2_ n3_ n4_ n5_ n6_ n7_; (try clear hb); (try clear hb2); (try clear hk); (try clear hi); (try clear ho0); obtain ⟨Ao12, co12, eo12⟩ := Kd.yx HO547.out; subst eo12))
  go_loopg [28] k (fun kq v28 w' => ∃ (x28_1 : Int) (x538000_1 : ByteArray) (x538002_1 : Int), v28 = .int .i64 x28_1 ∧ zb (zt.l0 kq t538 t539 t545 (t545.length : Int) x28_1 a0_0 l0_1 a0_2 l0_3 = some (r1, r2, r3, r4, r5)) ∧ zb (kq ≤ k) ∧ zb (Kd.R (Kd.int .i64) 3 w' w.heap.size (fun k_ => (w.heap.size ≤ k_)) v541 t538) ∧ zb (Kd.R Kd.string 9 w' w.heap.size (fun k_ => (w.heap.size ≤ k_) ∧ some k_ ≠ ((.slice Ao12 t545.length co12) : Value).ownBlock) v543 t539) ∧ zb (Kd.R Kd.string 9 w' w.heap.size (fun k_ => (w.heap.size ≤ k_) ∧ some k_ ≠ (v543 : Value).ownBlock) (.slice Ao12 t545.length co12) t545) ∧ zb (Kd.V k40 40 w' w.heap.size (fun k_ => ((P0_1_ k_ ∨ P0_3_ k_) ∨ w.heap.size ≤ k_) ∧ some k_ ≠ (v541 : Value).ownBlock ∧ some k_ ≠ (v543 : Value).ownBlock ∧ some k_ ≠ ((.slice Ao12 t545.length co12) : Value).ownBlock ∧ k_ ≠ gb536 ∧ k_ ≠ gb537) (.slice A0_1 l0_1.length c0_1) l0_1) ∧ zb (Kd.V k43 43 w' w.heap.size (fun k_ => ((P0_1_ k_ ∨ P0_3_ k_) ∨ w.heap.size ≤ k_) ∧ some k_ ≠ (v541 : Value).ownBlock ∧ some k_ ≠ (v543 : Value).ownBlock ∧ some k_ ≠ ((.slice Ao12 t545.length co12) : Value).ownBlock ∧ k_ ≠ gb536 ∧ k_ ≠ gb537) (.slice A0_3 l0_3.length c0_3) l0_3) ∧ zb (w'.heap[gb536]? = some (.cells #[.string a0_0, (.slice A0_1 l0_1.length c0_1), .int .i64 a0_2, (.slice A0_3 l0_3.length c0_3)] 51 (0, 0))) ∧ zb (w'.heap[gb537]? = some (.cells #[.string x538000_1, (.slice none 0 0), .int .i64 x538002_1, (.slice none 0 0)] 51 (0, 0))) ∧ zb (Below w.heap.size w w'))
  case atStart => exact ⟨(0), ((⟨#[]⟩ : ByteArray)), (0), (by first | rfl | (simp; done) | (simp [*]; done)), H', ⟨Nat.le_refl _⟩, ⟨ur (Kd.yt HO542.out (fun _ hk => hk.1))⟩, ⟨ur (Kd.yt HO544.out (fun _ hk => ⟨hk.1.1, hk.2⟩))⟩, ⟨ur (Kd.yt HO547.out (fun _ hk => ⟨hk.1.1, hk.2⟩))⟩, ⟨uv (Kd.zy HO0_1.out (fun _ hk => ⟨hk.1.1.1.1.1, ⟨hk.1.1.2, ⟨hk.1.2, ⟨hk.2, ⟨hk.1.1.1.1.2, hk.1.1.1.2⟩⟩⟩⟩⟩))⟩, ⟨uv (Kd.zy HO0_3.out (fun _ hk => ⟨hk.1.1.1.1.1, ⟨hk.1.1.2, ⟨hk.1.2, ⟨hk.2, ⟨hk.1.1.1.1.2, hk.1.1.1.2⟩⟩⟩⟩⟩))⟩, ⟨ul BK536.out⟩, ⟨ul BK537.out⟩, ⟨by repeat (first | exact ub HB.out | apply zd | apply zc | apply ze | refine zh ?_ ‹_›)⟩⟩
  case round =>
   clear H'
   try clear c1
   try clear c2
   try clear p2
   try clear c3
   try clear c3b0
   try clear c3b1
   try clear c7
   try clear c12
   try clear hcz10_0 hcz10_1 hcz10_2 hcz10_3
   try clear hcz8_0 hcz8_1 hcz8_2 hcz8_3
   try clear hfz10_0 hfz10_1 hfz10_2 hfz10_3
   try clear hfz8_0 hfz8_1 hfz8_2 hfz8_3
   obtain ⟨x28_1, x538000_1, x538002_1, rfl, HA, HK1, HO_4, HO_5, HO_7, HO_537001, HO_537003, BK536, BK537, HB⟩ := hrel
   cases gk with
   | zero => exact absurd HA.out (by simp [zt.l0])
   | succ k1 =>
    have H := HA.out
    clear HA
    simp only [zt.l0] at H
    by_cases c13 : x28_1 < (t545.length : Int)
    ·rw [if_pos c13] at H
     have c13b0 : decide (x28_1 < (t545.length : Int)) = true := decide_eq_true c13
     clear c13
     by_cases c14 : 0 ≤ x28_1
     ·rw [if_pos c14] at H
      have c14b0 : decide (0 ≤ x28_1) = true := decide_eq_true c14
      clear c14
      by_cases c15 : x28_1 < (t545.length : Int)
      ·rw [if_pos c15] at H
       have c15b0 : decide (x28_1 < (t545.length : Int)) = true := decide_eq_true c15
       clear c15
       replace H := Option.bind_eq_some_iff.mp H
       obtain ⟨t549, A160, H⟩ := H
       replace H : (if t549 = true then (zt.l0 k1 t538 t539 t545 (t545.length : Int) (wrap64 (x28_1 + 1)) a0_0 l0_1 a0_2 l0_3) else (some ((⟨#[]⟩ : ByteArray), ([] : List (S40)), 0, ([] : List (S43)), 7))) = some (r1, r2, r3, r4, r5) := H
       have A16 := zb.mk A160
       clear A160
       by_cases c17 : t549 = true
       ·subst c17
        have H1 : (zt.l0 k1 t538 t539 t545 (t545.length : Int) (wrap64 (x28_1 + 1)) a0_0 l0_1 a0_2 l0_3) = some (r1, r2, r3, r4, r5) := by rw [if_pos rfl] at H; exact H
        clear H
        have H := H1
        clear H1
        have H' := zb.mk H
        clear H
        have p548 : 0 ≤ (x28_1 : Int) := zdd
        have q548 : x28_1 < (t545.length : Int) := zdd
        obtain ⟨ad548, e548, hx548_0⟩ := Kd.yX (Kd.zU HO_7.out).2.2 x28_1 p548 q548
        cases e548
        replace p548 := eq_true p548
        replace q548 := eq_true q548
        obtain ⟨Ao18, co18, eo18⟩ := Kd.yx HO_5.out
        subst eo18
        go_wp2_with (first | ((with_reducible refine zP (f := 18) rfl ?_); refine yH (some 36) rfl rfl Try.func18 (by kernel_rfl) rfl #[.slice Ao18 t539.length co18, .string (rdOf ByteArray.empty t545 x28_1)] rfl (by (try simp only [List.map_toArray, List.map_cons, List.map_nil]); first | done | rfl | (simp only [List.length_drop, List.length_take]; rfl)) ?_; (with_reducible refine (zK.calls k1 _ _ t539 (rdOf ByteArray.empty t545 x28_1) true _ ?side1 ?side2 A16.out).mono ?_); (case side1 => repeat (first | exact (Kd.zU HO_5.out).2.2 | (with_reducible refine Kd.yw ?_ _) | (with_reducible refine Kd.yv ?_ _) | (with_reducible refine Kd.yP ?_))); (case side2 => exact (Kd.zU HO_5.out).2.1); rintro e w' ⟨rfl, ⟨nd, rfl⟩⟩; refine ⟨_, rfl, ?_⟩))
        go_roundg k1
        case measure => have := HK1.out; omega
        case rel => exact ⟨(wrap64 (x28_1 + 1)), (x538000_1), (x538002_1), (by first | rfl | (simp; done) | (simp [*]; done)), H', ⟨by have := HK1.out; omega⟩, ⟨ur HO_4.out⟩, ⟨ur HO_5.out⟩, ⟨ur HO_7.out⟩, ⟨uv HO_537001.out⟩, ⟨uv HO_537003.out⟩, ⟨ul BK536.out⟩, ⟨ul BK537.out⟩, ⟨by repeat (first | exact ub HB.out | apply zd | apply zc | apply ze | refine zh ?_ ‹_›)⟩⟩
       ·replace c17 := Bool.eq_false_iff.mpr c17
        subst c17
        have H1 : (some ((⟨#[]⟩ : ByteArray), ([] : List (S40)), 0, ([] : List (S43)), 7)) = some (r1, r2, r3, r4, r5) := by rw [if_neg (show ¬ (false = true) by decide)] at H; exact H
        clear H
        have H := H1
        clear H1
        simp only [Option.some.injEq, Prod.mk.injEq] at H
        obtain ⟨rfl, rfl, rfl, rfl, rfl⟩ := H
        have p548 : 0 ≤ (x28_1 : Int) := zdd
        have q548 : x28_1 < (t545.length : Int) := zdd
        obtain ⟨ad548, e548, hx548_0⟩ := Kd.yX (Kd.zU HO_7.out).2.2 x28_1 p548 q548
        cases e548
        replace p548 := eq_true p548
        replace q548 := eq_true q548
        obtain ⟨Ao19, co19, eo19⟩ := Kd.yx HO_5.out
        subst eo19
        go_wp2_with (first | ((with_reducible refine zP (f := 18) rfl ?_); refine yH (some 36) rfl rfl Try.func18 (by kernel_rfl) rfl #[.slice Ao19 t539.length co19, .string (rdOf ByteArray.empty t545 x28_1)] rfl (by (try simp only [List.map_toArray, List.map_cons, List.map_nil]); first | done | rfl | (simp only [List.length_drop, List.length_take]; rfl)) ?_; (with_reducible refine (zK.calls k1 _ _ t539 (rdOf ByteArray.empty t545 x28_1) false _ ?side1 ?side2 A16.out).mono ?_); (case side1 => repeat (first | exact (Kd.zU HO_5.out).2.2 | (with_reducible refine Kd.yw ?_ _) | (with_reducible refine Kd.yv ?_ _) | (with_reducible refine Kd.yP ?_))); (case side2 => exact (Kd.zU HO_5.out).2.1); rintro e w' ⟨rfl, ⟨nd, rfl⟩⟩; refine ⟨_, rfl, ?_⟩; (try (rw [drewN_self wr]; generalize hq_ : World.drewN wr _ = wr; have n0_ : zb (Kd.R (Kd.int .i64) 3 wr w.heap.size (fun k_ => (w.heap.size ≤ k_)) v541 t538) := ⟨by rw [← hq_]; exact (ur HO_4.out)⟩; have n1_ : zb (Kd.R Kd.string 9 wr w.heap.size (fun k_ => (w.heap.size ≤ k_) ∧ some k_ ≠ (.slice (some ad548) t545.length co12 : Value).ownBlock) (.slice Ao19 t539.length co19) t539) := ⟨by rw [← hq_]; exact (ur HO_5.out)⟩; have n2_ : zb (Kd.V k40 40 wr w.heap.size (fun k_ => ((P0_1_ k_ ∨ P0_3_ k_) ∨ w.heap.size ≤ k_) ∧ some k_ ≠ (v541 : Value).ownBlock ∧ some k_ ≠ (.slice Ao19 t539.length co19 : Value).ownBlock ∧ some k_ ≠ (.slice (some ad548) t545.length co12 : Value).ownBlock ∧ k_ ≠ gb536 ∧ k_ ≠ gb537) (.slice A0_1 l0_1.length c0_1) l0_1) := ⟨by rw [← hq_]; exact (uv HO_537001.out)⟩; have n3_ : zb (Kd.V k43 43 wr w.heap.size (fun k_ => ((P0_1_ k_ ∨ P0_3_ k_) ∨ w.heap.size ≤ k_) ∧ some k_ ≠ (v541 : Value).ownBlock ∧ some k_ ≠ (.slice Ao19 t539.length co19 : Value).ownBlock ∧ some k_ ≠ (.slice (some ad548) t545.length co12 : Value).ownBlock ∧ k_ ≠ gb536 ∧ k_ ≠ gb537) (.slice A0_3 l0_3.length c0_3) l0_3) := ⟨by rw [← hq_]; exact (uv HO_537003.out)⟩; have n4_ : zb (Kd.R Kd.string 9 wr w.heap.size (fun k_ => (w.heap.size ≤ k_) ∧ some k_ ≠ (.slice Ao19 t539.length co19 : Value).ownBlock) (.slice (some ad548) t545.length co12) t545) := ⟨by rw [← hq_]; exact (ur HO_7.out)⟩; have n5_ : zb (wr.heap[gb536]? = some (.cells #[.string a0_0, .slice A0_1 l0_1.length c0_1, .int .i64 a0_2, .slice A0_3 l0_3.length c0_3] 51 (0, 0))) := ⟨by rw [← hq_]; exact (ul BK536.out)⟩; have n6_ : zb (wr.heap[gb537]? = some (.cells #[.string x538000_1, .slice none 0 0, .int .i64 x538002_1, .slice none 0 0] 51 (0, 0))) := ⟨by rw [← hq_]; exact (ul BK537.out)⟩; have n7_ : zb (Below w.heap.size w wr) := ⟨by rw [← hq_]; exact (by repeat (first | exact ub HB.out | apply zd | apply zc | apply ze | refine zh ?_ ‹_›))⟩; clear HO_4 HO_5 HO_537001 HO_537003 HO_7 BK536 BK537 HB hq_; have HO_4 := n0_; have HO_5 := n1_; have HO_537001 := n2_; have HO_537003 := n3_; have HO_7 := n4_; have BK536 := n5_; have BK537 := n6_; have HB := n7_; clear n0_ n1_ n2_ n3_ n4_ n5_ n6_ n7_)); have hnb20 := NB537_536.out; have hnc20 := NB536_537.out; obtain ⟨hcz21_0, hcz21_1, hcz21_2, hcz21_3⟩ := blk4 BK537.out; obtain ⟨hfz21_0, hfz21_1, hfz21_2, hfz21_3⟩ := frz4 BK537.out))
        refine bodyPost_ret (qn rfl _ _ gb537 51 #[.string (⟨#[]⟩ : ByteArray), .slice none 0 0, .int .i64 0, .slice none 0 0] (0, 0) _ rfl (by (with_reducible repeat (first | refine zC ?_ _ | refine zD ?_ | refine zw ?_ _)); exact zB (zB (zB (zB (ul BK537.out) 0 _ rfl) 1 _ rfl) 2 _ rfl) 3 _ rfl) Try.underlying51 rfl (by kernel_rfl)) rfl ?_
        exact ⟨_, _, by first | rfl | (simp [zA, zz] <;> rfl) | (simp [*, zA, zz] <;> rfl), Kd.V_nil _ _ _ _ _, by first | exact Kd.S_nil _ _ _ _ _ | exact Kd.N_nil _ _ _ _ _ | exact Kd.V_nil _ _ _ _ _ | exact Kd.Q_nil _ _ _ _ _ | exact Kd.R_nil _ _ _ _ _, by repeat (first | exact ub HB.out | apply zd | apply zc | apply ze | refine zh ?_ ‹_›)⟩
      ·rw [if_neg c15] at H
       exact absurd H (by simp)
     ·rw [if_neg c14] at H
      exact absurd H (by simp)
    ·rw [if_neg c13] at H
     have c13b0 : decide (x28_1 < (t545.length : Int)) = false := decide_eq_false c13
     clear c13
     have H' := zb.mk H
     clear H
     have hnb22 := NB536_537.out
     have hnc22 := NB537_536.out
     obtain ⟨hcz23_0, hcz23_1, hcz23_2, hcz23_3⟩ := blk4 BK536.out
     obtain ⟨hfz23_0, hfz23_1, hfz23_2, hfz23_3⟩ := frz4 BK536.out
     go_wp2_with (first | ((with_reducible refine zQ (N := 9) rfl ?_); refine zM ?hg (N := 9) ?hd (cs := #[.string (⟨#[]⟩ : ByteArray), .slice none 0 0, .int .i64 0, .slice none 0 0]) (t := 51) ?hr ?_; (case hd => rfl); (case hg => rfl); (case hr => first | (go_simp; done) | (go_simp; rfl)); intro gb550 hg w24 hbox hb; have n0_ := zb.mk (Kd.yb (ur HO_4.out) hb); have n1_ := zb.mk (Kd.yb (ur HO_5.out) hb); have n2_ := zb.mk (Kd.yb (ur HO_7.out) hb); have n3_ := zb.mk (Kd.zN (Kd.zI (uv HO_537001.out) gb550 (Nat.le_of_eq hg.symm)) hb); have n4_ := zb.mk (Kd.zN (Kd.zI (uv HO_537003.out) gb550 (Nat.le_of_eq hg.symm)) hb); have n5_ := zb.mk (zo (ul BK536.out) hb); have n6_ := zb.mk (zo (ul BK537.out) hb); have n7_ := zb.mk (zn (by repeat (first | exact ub HB.out | apply zd | apply zc | apply ze | refine zh ?_ ‹_›)) hb); have n8_ := zb.mk (hbox); have n9_ := zb.mk ((by rw [hg]; exact (zi (by repeat (first | exact ub HB.out | apply zd | apply zc | apply ze | refine zh ?_ ‹_›))) : w.heap.size ≤ gb550)); have n10_ := zb.mk ((by rw [hg]; exact (zi (by repeat (first | exact ub HB.out | apply zd | apply zc | apply ze | refine zh ?_ ‹_›))) : w.heap.size ≤ gb550)); have n11_ := zb.mk ((by rw [hg]; exact Nat.ne_of_lt (zO (ul BK536.out)) : gb536 ≠ gb550)); have n12_ := zb.mk ((by rw [hg]; exact Nat.ne_of_gt (zO (ul BK536.out)) : gb550 ≠ gb536)); have n13_ := zb.mk ((by rw [hg]; exact Nat.ne_of_lt (zO (ul BK537.out)) : gb537 ≠ gb550)); have n14_ := zb.mk ((by rw [hg]; exact Nat.ne_of_gt (zO (ul BK537.out)) : gb550 ≠ gb537)); clear HO_4; clear HO_5; clear HO_7; clear HO_537001; clear HO_537003; clear BK536; clear BK537; clear HB; have HO_4 := n0_; have HO_5 := n1_; have HO_7 := n2_; have HO_537001 := n3_; have HO_537003 := n4_; have BK536 := n5_; have BK537 := n6_; have HB := n7_; have BK550 := n8_; have GW550 := n9_; have GE550 := n10_; have NB536_550 := n11_; have NB550_536 := n12_; have NB537_550 := n13_; have NB550_537 := n14_; clear n0_ n1_ n2_ n3_ n4_ n5_ n6_ n7_ n8_ n9_ n10_ n11_ n12_ n13_ n14_; clear hb hbox hg; have hnb25 := NB550_536.out; have hnc25 := NB536_550.out; have hnb26 := NB550_537.out; have hnc26 := NB537_550.out; obtain ⟨hcz27_0, hcz27_1, hcz27_2, hcz27_3⟩ := blk4 BK550.out; obtain ⟨hfz27_0, hfz27_1, hfz27_2, hfz27_3⟩ := frz4 BK550.out; obtain ⟨Ao28, co28, eo28⟩ := Kd.yx HO_4.out; subst eo28))
     go_loopg [47] k1 (fun kq v47 w' => ∃ (x47_2 : Int) (x551003_2 : List (S43)) (u551003 : Value), v47 = .int .i64 x47_2 ∧ zb (zt.l1 kq t538 (t538.length : Int) x47_2 a0_0 l0_1 a0_2 l0_3 a0_0 l0_1 a0_2 x551003_2 = some (r1, r2, r3, r4, r5)) ∧ zb (kq ≤ k1) ∧ zb (Kd.R (Kd.int .i64) 3 w' w.heap.size (fun k_ => (w.heap.size ≤ k_)) (.slice Ao28 t538.length co28) t538) ∧ zb (Kd.V k40 40 w' w.heap.size (fun k_ => ((P0_1_ k_ ∨ P0_3_ k_) ∨ w.heap.size ≤ k_) ∧ some k_ ≠ ((.slice Ao28 t538.length co28) : Value).ownBlock ∧ some k_ ≠ (u551003 : Value).ownBlock ∧ k_ ≠ gb536 ∧ k_ ≠ gb537 ∧ k_ ≠ gb550) (.slice A0_1 l0_1.length c0_1) l0_1) ∧ zb (Kd.V k43 43 w' w.heap.size (fun k_ => ((P0_1_ k_ ∨ P0_3_ k_) ∨ w.heap.size ≤ k_) ∧ some k_ ≠ ((.slice Ao28 t538.length co28) : Value).ownBlock ∧ some k_ ≠ (u551003 : Value).ownBlock ∧ k_ ≠ gb536 ∧ k_ ≠ gb537 ∧ k_ ≠ gb550) (.slice A0_3 l0_3.length c0_3) l0_3) ∧ zb (Kd.V k40 40 w' w.heap.size (fun k_ => ((P0_1_ k_ ∨ P0_3_ k_) ∨ w.heap.size ≤ k_) ∧ some k_ ≠ ((.slice Ao28 t538.length co28) : Value).ownBlock ∧ some k_ ≠ (u551003 : Value).ownBlock ∧ k_ ≠ gb536 ∧ k_ ≠ gb537 ∧ k_ ≠ gb550) (.slice A0_1 l0_1.length c0_1) l0_1) ∧ zb (Kd.N k43 43 w' w.heap.size (fun k_ => ((P0_1_ k_ ∨ P0_3_ k_) ∨ w.heap.size ≤ k_) ∧ some k_ ≠ ((.slice Ao28 t538.length co28) : Value).ownBlock ∧ k_ ≠ gb536 ∧ k_ ≠ gb537 ∧ k_ ≠ gb550) u551003 x551003_2) ∧ zb (w'.heap[gb536]? = some (.cells #[.string a0_0, (.slice A0_1 l0_1.length c0_1), .int .i64 a0_2, (.slice A0_3 l0_3.length c0_3)] 51 (0, 0))) ∧ zb (w'.heap[gb537]? = some (.cells #[.string x538000_1, (.slice none 0 0), .int .i64 x538002_1, (.slice none 0 0)] 51 (0, 0))) ∧ zb (w'.heap[gb550]? = some (.cells #[.string a0_0, (.slice A0_1 l0_1.length c0_1), .int .i64 a0_2, u551003] 51 (0, 0))) ∧ zb (Below w.heap.size w w'))
     case atStart => exact ⟨(0), (([] : List (S43))), (.slice none 0 0), (by first | rfl | (simp; done) | (simp [*]; done)), H', ⟨Nat.le_refl _⟩, ⟨ur (Kd.yt (Kd.R_far (p := ⟨gb550, 3, none⟩) (Kd.R_far (p := ⟨gb550, 2, none⟩) (Kd.R_far (p := ⟨gb550, 1, none⟩) (Kd.R_far (p := ⟨gb550, 0, none⟩) (Kd.qd HO_4.out BK550.out (by decide)) (fun _ hk => hk.2) (.string a0_0)) (fun _ hk => hk.2) (.slice A0_1 l0_1.length c0_1)) (fun _ hk => hk.2) (.int .i64 a0_2)) (fun _ hk => hk.2) (.slice none 0 0)) (fun _ hk => hk.1))⟩, ⟨uv (Kd.zy (Kd.V_far (p := ⟨gb550, 3, none⟩) (Kd.V_far (p := ⟨gb550, 2, none⟩) (Kd.V_far (p := ⟨gb550, 1, none⟩) (Kd.V_far (p := ⟨gb550, 0, none⟩) (Kd.zy HO_537001.out (fun k_ hk => (⟨hk, hk.2⟩ : _ ∧ k_ ≠ gb550))) (fun _ hk => hk.2) (.string a0_0)) (fun _ hk => hk.2) (.slice A0_1 l0_1.length c0_1)) (fun _ hk => hk.2) (.int .i64 a0_2)) (fun _ hk => hk.2) (.slice none 0 0)) (fun _ hk => ⟨hk.1.1.1, ⟨hk.1.1.2.1, ⟨(by simp [Value.ownBlock]), ⟨hk.1.1.2.2.2.2.1, ⟨hk.1.1.2.2.2.2.2, hk.1.2⟩⟩⟩⟩⟩))⟩, ⟨uv (Kd.zy (Kd.V_far (p := ⟨gb550, 3, none⟩) (Kd.V_far (p := ⟨gb550, 2, none⟩) (Kd.V_far (p := ⟨gb550, 1, none⟩) (Kd.V_far (p := ⟨gb550, 0, none⟩) (Kd.zy HO_537003.out (fun k_ hk => (⟨hk, hk.2⟩ : _ ∧ k_ ≠ gb550))) (fun _ hk => hk.2) (.string a0_0)) (fun _ hk => hk.2) (.slice A0_1 l0_1.length c0_1)) (fun _ hk => hk.2) (.int .i64 a0_2)) (fun _ hk => hk.2) (.slice none 0 0)) (fun _ hk => ⟨hk.1.1.1, ⟨hk.1.1.2.1, ⟨(by simp [Value.ownBlock]), ⟨hk.1.1.2.2.2.2.1, ⟨hk.1.1.2.2.2.2.2, hk.1.2⟩⟩⟩⟩⟩))⟩, ⟨uv (Kd.zy (Kd.V_far (p := ⟨gb550, 3, none⟩) (Kd.V_far (p := ⟨gb550, 2, none⟩) (Kd.V_far (p := ⟨gb550, 1, none⟩) (Kd.V_far (p := ⟨gb550, 0, none⟩) (Kd.zy HO_537001.out (fun k_ hk => (⟨hk, hk.2⟩ : _ ∧ k_ ≠ gb550))) (fun _ hk => hk.2) (.string a0_0)) (fun _ hk => hk.2) (.slice A0_1 l0_1.length c0_1)) (fun _ hk => hk.2) (.int .i64 a0_2)) (fun _ hk => hk.2) (.slice none 0 0)) (fun _ hk => ⟨hk.1.1.1, ⟨hk.1.1.2.1, ⟨(by simp [Value.ownBlock]), ⟨hk.1.1.2.2.2.2.1, ⟨hk.1.1.2.2.2.2.2, hk.1.2⟩⟩⟩⟩⟩))⟩, ⟨by first | exact Kd.S_nil _ _ _ _ _ | exact Kd.N_nil _ _ _ _ _ | exact Kd.V_nil _ _ _ _ _ | exact Kd.Q_nil _ _ _ _ _ | exact Kd.R_nil _ _ _ _ _⟩, ⟨by (with_reducible repeat (first | refine ye ?_ NB536_550.out _ | refine zC ?_ _ | refine zD ?_ | refine zw ?_ _)); exact BK536.out⟩, ⟨by (with_reducible repeat (first | refine ye ?_ NB537_550.out _ | refine zC ?_ _ | refine zD ?_ | refine zw ?_ _)); exact BK537.out⟩, ⟨by (with_reducible repeat (first | refine zC ?_ _ | refine zD ?_ | refine zw ?_ _)); exact zB (zB (zB (zB (ul BK550.out) 0 _ rfl) 1 _ rfl) 2 _ rfl) 3 _ rfl⟩, ⟨by repeat (first | exact ub HB.out | apply zd | apply zc | apply ze | refine zh ?_ ‹_›)⟩⟩
     case round =>
      clear H'
      try clear c1
      try clear c2
      try clear p2
      try clear c3
      try clear c3b0
      try clear c3b1
      try clear p5
      try clear q5
      try clear hx5
      try clear p6
      try clear c7
      try clear c12
      try clear c13
      try clear c13b0
      try clear c14
      try clear c14b0
      try clear c15
      try clear c15b0
      try clear c17
      try clear c18
      try clear c19
      try clear c20
      try clear c22
      try clear c25
      try clear c26
      try clear hcz10_0 hcz10_1 hcz10_2 hcz10_3
      try clear hcz21_0 hcz21_1 hcz21_2 hcz21_3
      try clear hcz23_0 hcz23_1 hcz23_2 hcz23_3
      try clear hcz27_0 hcz27_1 hcz27_2 hcz27_3
      try clear hcz8_0 hcz8_1 hcz8_2 hcz8_3
      try clear hfz10_0 hfz10_1 hfz10_2 hfz10_3
      try clear hfz21_0 hfz21_1 hfz21_2 hfz21_3
      try clear hfz23_0 hfz23_1 hfz23_2 hfz23_3
      try clear hfz27_0 hfz27_1 hfz27_2 hfz27_3
      try clear hfz8_0 hfz8_1 hfz8_2 hfz8_3
      try clear hx548_0
      try clear p2
      try clear p548
      try clear q548
      obtain ⟨x47_2, x551003_2, u551003, rfl, HA, HK2, HO_4, HO_537001, HO_537003, HO_551001, HO_551003, BK536, BK537, BK550, HB⟩ := hrel
      cases gk with
      | zero => exact absurd HA.out (by simp [zt.l1])
      | succ k2 =>
       have H := HA.out
       clear HA
       simp only [zt.l1] at H
       by_cases c29 : x47_2 < (t538.length : Int)
       ·rw [if_pos c29] at H
        have c29b0 : decide (x47_2 < (t538.length : Int)) = true := decide_eq_true c29
        clear c29
        by_cases c30 : 0 ≤ x47_2
        ·rw [if_pos c30] at H
         have c30b0 : decide (0 ≤ x47_2) = true := decide_eq_true c30
         clear c30
         by_cases c31 : x47_2 < (t538.length : Int)
         ·rw [if_pos c31] at H
          have c31b0 : decide (x47_2 < (t538.length : Int)) = true := decide_eq_true c31
          clear c31
          by_cases c32 : 0 ≤ (rd t538 x47_2)
          ·rw [if_pos c32] at H
           have c32b0 : decide (0 ≤ (rd t538 x47_2)) = true := decide_eq_true c32
           clear c32
           by_cases c33 : (rd t538 x47_2) < (l0_3.length : Int)
           ·rw [if_pos c33] at H
            have c33b0 : decide ((rd t538 x47_2) < (l0_3.length : Int)) = true := decide_eq_true c33
            clear c33
            by_cases c34 : x551003_2.length < 606627104979
            ·rw [if_pos c34] at H
             have LMc34 := zb.mk c34
             clear c34
             obtain ⟨y553, hy553⟩ : ∃ y_ : List (S43), y_ = (x551003_2 ++ [(⟨(za l0_3 (rd t538 x47_2)).f0, (⟨(za l0_3 (rd t538 x47_2)).f1.f0, (za l0_3 (rd t538 x47_2)).f1.f1⟩ : S36), (za l0_3 (rd t538 x47_2)).f2, (⟨(za l0_3 (rd t538 x47_2)).f3.f0, (⟨(za l0_3 (rd t538 x47_2)).f3.f1.f0, (za l0_3 (rd t538 x47_2)).f3.f1.f1, (za l0_3 (rd t538 x47_2)).f3.f1.f2⟩ : S38)⟩ : S40), (⟨(za l0_3 (rd t538 x47_2)).f4.f0, (⟨(za l0_3 (rd t538 x47_2)).f4.f1.f0, (za l0_3 (rd t538 x47_2)).f4.f1.f1, (za l0_3 (rd t538 x47_2)).f4.f1.f2⟩ : S38)⟩ : S40), (⟨(za l0_3 (rd t538 x47_2)).f5.f0, (⟨(za l0_3 (rd t538 x47_2)).f5.f1.f0, (za l0_3 (rd t538 x47_2)).f5.f1.f1, (za l0_3 (rd t538 x47_2)).f5.f1.f2⟩ : S38)⟩ : S40), (za l0_3 (rd t538 x47_2)).f6⟩ : S43)]) := ⟨_, rfl⟩
             replace H : (zt.l1 k2 t538 (t538.length : Int) (wrap64 (x47_2 + 1)) a0_0 l0_1 a0_2 l0_3 a0_0 l0_1 a0_2 y553) = some (r1, r2, r3, r4, r5) := by first | (rw [hy553]; with_reducible exact H) | (have H2_ := (Option.bind_some _ _).symm.trans H; rw [hy553]; with_reducible exact H2_) | (have H2_ := (Option.bind_some _ _).symm.trans H; with_reducible exact H2_) | with_reducible exact H | (rw [hy553]; exact H) | exact H
             have Ny553 := zb.mk hy553
             clear hy553
             have H' := zb.mk H
             clear H
             try go_wp2
             have n0_ := zb.mk (Kd.R_drew HO_4.out)
             have n1_ := zb.mk (Kd.V_drew HO_537001.out)
             have n2_ := zb.mk (Kd.V_drew HO_537003.out)
             have n3_ := zb.mk (Kd.V_drew HO_551001.out)
             have n4_ := zb.mk (Kd.N_drew HO_551003.out)
             have n5_ := zb.mk (zD BK536.out)
             have n6_ := zb.mk (zD BK537.out)
             have n7_ := zb.mk (zD BK550.out)
             have n8_ := zb.mk (ze HB.out)
             clear HO_4
             clear HO_537001
             clear HO_537003
             clear HO_551001
             clear HO_551003
             clear BK536
             clear BK537
             clear BK550
             clear HB
             have HO_4 := n0_
             have HO_537001 := n1_
             have HO_537003 := n2_
             have HO_551001 := n3_
             have HO_551003 := n4_
             have BK536 := n5_
             have BK537 := n6_
             have BK550 := n7_
             have HB := n8_
             clear n0_ n1_ n2_ n3_ n4_ n5_ n6_ n7_ n8_
             have p551 : 0 ≤ (x47_2 : Int) := zdd
             have q551 : x47_2 < (t538.length : Int) := zdd
             obtain ⟨ad551, e551, hx551_0⟩ := Kd.at_int (Kd.zU HO_4.out).2.2 x47_2 p551 q551
             cases e551
             replace p551 := eq_true p551
             replace q551 := eq_true q551
             have p552 : 0 ≤ ((rd t538 x47_2) : Int) := zdd
             have q552 : (rd t538 x47_2) < (l0_3.length : Int) := zdd
             obtain ⟨ad552, A552_2, c552_2, A552_16, c552_16, e552, hx552_0, hx552_1, hx552_2, hx552_3, hx552_4, hx552_5, hx552_6, hx552_7, hx552_8, hx552_9, hx552_10, hx552_11, hx552_12, hx552_13, hx552_14, hx552_15, hx552_16, hl552_2, hi552_2, hl552_16, hi552_16⟩ := qv (Kd.ya HO_537003.out).2.2 (rd t538 x47_2) p552 q552
             cases e552
             obtain ⟨ce552, hce552, hMe552, hcc552⟩ := Kd.V_get HO_537003.out z43 (rd t538 x47_2) p552 (by first | exact q552 | exact zdd | (have e_ := (Kd.ya HO_537003.out).1; omega))
             obtain ⟨ua552_2, uc552_2, ua552_16, uc552_16, rfl, ul552_2, ge552_2, ul552_16, ge552_16⟩ := k43_openF hMe552
             have hv552_2 := hcc552 2 _ rfl
             rw [yd _ _ 2 (by omega)] at hv552_2
             replace hv552_2 := Option.some.inj (hv552_2.symm.trans hx552_2)
             injection hv552_2 with hva_ hvn_ hvc_
             rw [hva_] at ge552_2
             rw [hvc_] at ul552_2
             have HL552_2 := zb.mk (show Kd.V k40 40 _ w.heap.size _ _ ((za l0_3 (rd t538 x47_2)).f1.f1) from Kd.V_mk ul552_2 ge552_2)
             clear hva_ hvn_ hvc_ ge552_2 ul552_2
             have hv552_16 := hcc552 16 _ rfl
             rw [yd _ _ 16 (by omega)] at hv552_16
             replace hv552_16 := Option.some.inj (hv552_16.symm.trans hx552_16)
             injection hv552_16 with hva_ hvn_ hvc_
             rw [hva_] at ge552_16
             rw [hvc_] at ul552_16
             have HL552_16 := zb.mk (show Kd.V k82 82 _ w.heap.size _ _ ((za l0_3 (rd t538 x47_2)).f6) from Kd.V_mk ul552_16 ge552_16)
             clear hva_ hvn_ hvc_ ge552_16 ul552_16
             clear hcc552 hce552
             have HR552_2 := zb.mk hi552_2
             have HC552_2 := zb.mk hl552_2
             clear hi552_2 hl552_2
             have HR552_16 := zb.mk hi552_16
             have HC552_16 := zb.mk hl552_16
             clear hi552_16 hl552_16
             replace p552 := eq_true p552
             replace q552 := eq_true q552
             refine start_ (n := 14) (S := fun w' => w'.cell? ⟨gb550, 0, none⟩ = some (.string a0_0) ∧ w'.cell? ⟨gb550, 1, none⟩ = some (.slice A0_1 l0_1.length c0_1) ∧ w'.cell? ⟨gb550, 2, none⟩ = some (.int .i64 a0_2) ∧ w'.cell? ⟨gb550, 3, none⟩ = some (u551003) ∧ w'.cell? ⟨gb536, 0, none⟩ = some (.string a0_0) ∧ w'.cell? ⟨gb536, 1, none⟩ = some (.slice A0_1 l0_1.length c0_1) ∧ w'.cell? ⟨gb536, 2, none⟩ = some (.int .i64 a0_2) ∧ w'.cell? ⟨gb536, 3, none⟩ = some (.slice (some ad552) l0_3.length c0_3) ∧ w'.cell? (ad551.add (x47_2).toNat) = some (.int .i64 (rd t538 x47_2)) ∧ w'.cell? (ad552.add (((rd t538 x47_2)).toNat * 17)) = some (.int .i64 ((za l0_3 (rd t538 x47_2)).f0)) ∧ w'.cell? ⟨(ad552.add (((rd t538 x47_2)).toNat * 17)).block, (ad552.add (((rd t538 x47_2)).toNat * 17)).off + 1, none⟩ = some (.string ((za l0_3 (rd t538 x47_2)).f1.f0)) ∧ w'.cell? ⟨(ad552.add (((rd t538 x47_2)).toNat * 17)).block, (ad552.add (((rd t538 x47_2)).toNat * 17)).off + 2, none⟩ = some (.slice A552_2 ((za l0_3 (rd t538 x47_2)).f1.f1).length c552_2) ∧ w'.cell? ⟨(ad552.add (((rd t538 x47_2)).toNat * 17)).block, (ad552.add (((rd t538 x47_2)).toNat * 17)).off + 3, none⟩ = some (.string ((za l0_3 (rd t538 x47_2)).f2)) ∧ w'.cell? ⟨(ad552.add (((rd t538 x47_2)).toNat * 17)).block, (ad552.add (((rd t538 x47_2)).toNat * 17)).off + 4, none⟩ = some (.string ((za l0_3 (rd t538 x47_2)).f3.f0)) ∧ w'.cell? ⟨(ad552.add (((rd t538 x47_2)).toNat * 17)).block, (ad552.add (((rd t538 x47_2)).toNat * 17)).off + 5, none⟩ = some (.int .i64 ((za l0_3 (rd t538 x47_2)).f3.f1.f0)) ∧ w'.cell? ⟨(ad552.add (((rd t538 x47_2)).toNat * 17)).block, (ad552.add (((rd t538 x47_2)).toNat * 17)).off + 6, none⟩ = some (.int .i64 ((za l0_3 (rd t538 x47_2)).f3.f1.f1)) ∧ w'.cell? ⟨(ad552.add (((rd t538 x47_2)).toNat * 17)).block, (ad552.add (((rd t538 x47_2)).toNat * 17)).off + 7, none⟩ = some (.string ((za l0_3 (rd t538 x47_2)).f3.f1.f2)) ∧ w'.cell? ⟨(ad552.add (((rd t538 x47_2)).toNat * 17)).block, (ad552.add (((rd t538 x47_2)).toNat * 17)).off + 8, none⟩ = some (.string ((za l0_3 (rd t538 x47_2)).f4.f0)) ∧ w'.cell? ⟨(ad552.add (((rd t538 x47_2)).toNat * 17)).block, (ad552.add (((rd t538 x47_2)).toNat * 17)).off + 9, none⟩ = some (.int .i64 ((za l0_3 (rd t538 x47_2)).f4.f1.f0)) ∧ w'.cell? ⟨(ad552.add (((rd t538 x47_2)).toNat * 17)).block, (ad552.add (((rd t538 x47_2)).toNat * 17)).off + 10, none⟩ = some (.int .i64 ((za l0_3 (rd t538 x47_2)).f4.f1.f1)) ∧ w'.cell? ⟨(ad552.add (((rd t538 x47_2)).toNat * 17)).block, (ad552.add (((rd t538 x47_2)).toNat * 17)).off + 11, none⟩ = some (.string ((za l0_3 (rd t538 x47_2)).f4.f1.f2)) ∧ w'.cell? ⟨(ad552.add (((rd t538 x47_2)).toNat * 17)).block, (ad552.add (((rd t538 x47_2)).toNat * 17)).off + 12, none⟩ = some (.string ((za l0_3 (rd t538 x47_2)).f5.f0)) ∧ w'.cell? ⟨(ad552.add (((rd t538 x47_2)).toNat * 17)).block, (ad552.add (((rd t538 x47_2)).toNat * 17)).off + 13, none⟩ = some (.int .i64 ((za l0_3 (rd t538 x47_2)).f5.f1.f0)) ∧ w'.cell? ⟨(ad552.add (((rd t538 x47_2)).toNat * 17)).block, (ad552.add (((rd t538 x47_2)).toNat * 17)).off + 14, none⟩ = some (.int .i64 ((za l0_3 (rd t538 x47_2)).f5.f1.f1)) ∧ w'.cell? ⟨(ad552.add (((rd t538 x47_2)).toNat * 17)).block, (ad552.add (((rd t538 x47_2)).toNat * 17)).off + 15, none⟩ = some (.string ((za l0_3 (rd t538 x47_2)).f5.f1.f2)) ∧ w'.cell? ⟨(ad552.add (((rd t538 x47_2)).toNat * 17)).block, (ad552.add (((rd t538 x47_2)).toNat * 17)).off + 16, none⟩ = some (.slice A552_16 ((za l0_3 (rd t538 x47_2)).f6).length c552_16)) (ds := [11, 13]) #[false, false, false, false, false, false, false, false, false, false, false, false, false, false] (by kernel_rfl) rfl rfl ⟨(zf BK550.out 0).trans rfl, (zf BK550.out 1).trans rfl, (zf BK550.out 2).trans rfl, (zf BK550.out 3).trans rfl, (zf BK536.out 0).trans rfl, (zf BK536.out 1).trans rfl, (zf BK536.out 2).trans rfl, (zf BK536.out 3).trans rfl, hx551_0, hx552_0, hx552_1, hx552_2, hx552_3, hx552_4, hx552_5, hx552_6, hx552_7, hx552_8, hx552_9, hx552_10, hx552_11, hx552_12, hx552_13, hx552_14, hx552_15, hx552_16⟩ (fun hHeld => ?_); refine qw zt.tab15 zt.bits15 (fun HT_ HW_ => ?_)
             generalize wr.drew = w35 at HO_4 HO_537001 HO_537003 HO_551001 HO_551003 BK536 BK537 BK550 HB HL552_16 HL552_2 HR552_16 HR552_2 hx551_0 hx552_0 hx552_1 hx552_10 hx552_11 hx552_12 hx552_13 hx552_14 hx552_15 hx552_16 hx552_2 hx552_3 hx552_4 hx552_5 hx552_6 hx552_7 hx552_8 hx552_9 hHeld ⊢
             try clear hx552_0 hx552_1 hx552_2 hx552_3 hx552_4 hx552_5 hx552_6 hx552_7 hx552_8 hx552_9 hx552_10 hx552_11 hx552_12 hx552_13 hx552_14 hx552_15 hx552_16
             refine pure_ (i := 0) (N := some 50) (v := ?_) (a' := ?_) #[true, false, false, false, false, false, false, false, false, false, false, false, false, false] rfl rfl (yn HT_.out (by kernel_rfl)) (fun _ _ _ h => h) (Or.inl ⟨by rfl, ?_⟩) ?_ ?_
             rotate_left
             ·intro w'
              go_simp
              with_reducible rfl
             rotate_left
             ·simp only [Act.put, List.setIfInBounds_toArray, List.set_cons_zero, List.set_cons_succ, i64_w, i32_w]
              rfl
             refine pure_ (i := 2) (N := some 52) (v := ?_) (a' := ?_) #[true, false, true, false, false, false, false, false, false, false, false, false, false, false] rfl rfl (yn HT_.out (by kernel_rfl)) (fun _ _ _ h => h) (Or.inl ⟨by rfl, ?_⟩) ?_ ?_
             rotate_left
             ·intro w'
              go_simp
              with_reducible rfl
             rotate_left
             ·simp only [Act.put, List.setIfInBounds_toArray, List.set_cons_zero, List.set_cons_succ, i64_w, i32_w]
              rfl
             refine pure_ (i := 4) (N := some 54) (v := ?_) (a' := ?_) #[true, false, true, false, true, false, false, false, false, false, false, false, false, false] rfl rfl (yn HT_.out (by kernel_rfl)) (fun _ _ _ h => h) (Or.inl ⟨by rfl, ?_⟩) ?_ ?_
             rotate_left
             ·intro w'
              go_simp
              with_reducible rfl
             rotate_left
             ·simp only [Act.put, List.setIfInBounds_toArray, List.set_cons_zero, List.set_cons_succ, i64_w, i32_w]
              rfl
             refine pure_ (i := 5) (N := some 55) (v := ?_) (a' := ?_) #[true, false, true, false, true, true, false, false, false, false, false, false, false, false] rfl rfl (yn HT_.out (by kernel_rfl)) (fun _ _ _ h => h) (Or.inl ⟨by rfl, ?_⟩) ?_ ?_
             rotate_left
             ·intro w'
              go_simp
              with_reducible rfl
             rotate_left
             ·simp only [Act.put, List.setIfInBounds_toArray, List.set_cons_zero, List.set_cons_succ, i64_w, i32_w]
              rfl
             refine pure_ (i := 6) (N := some 56) (v := ?_) (a' := ?_) #[true, false, true, false, true, true, true, false, false, false, false, false, false, false] rfl rfl (yn HT_.out (by kernel_rfl)) (fun _ _ _ h => h) (Or.inl ⟨by rfl, ?_⟩) ?_ ?_
             rotate_left
             ·intro w'
              go_simp
              with_reducible rfl
             rotate_left
             ·simp only [Act.put, List.setIfInBounds_toArray, List.set_cons_zero, List.set_cons_succ, i64_w, i32_w]
              rfl
             refine take_ (i := 1) (N := some 51) (v := ?_) (a' := ?_) #[true, true, true, false, true, true, true, false, false, false, false, false, false, false] rfl rfl (yF HT_.out HW_.out (by kernel_rfl)) (fun _ _ _ h => h) (Or.inl ⟨by rfl, ?_⟩) hHeld ?_ ?_
             rotate_left
             ·rintro w' ⟨s0, s1, s2, s3, s4, s5, s6, s7, s8, s9, s10, s11, s12, s13, s14, s15, s16, s17, s18, s19, s20, s21, s22, s23, s24, s25⟩
              go_simp
              with_reducible rfl
             rotate_left
             ·simp only [Act.put, List.setIfInBounds_toArray, List.set_cons_zero, List.set_cons_succ, i64_w, i32_w]
              rfl
             refine take_ (i := 3) (N := some 53) (v := ?_) (a' := ?_) #[true, true, true, true, true, true, true, false, false, false, false, false, false, false] rfl rfl (yF HT_.out HW_.out (by kernel_rfl)) (fun _ _ _ h => h) (Or.inl ⟨by rfl, ?_⟩) hHeld ?_ ?_
             rotate_left
             ·rintro w' ⟨s0, s1, s2, s3, s4, s5, s6, s7, s8, s9, s10, s11, s12, s13, s14, s15, s16, s17, s18, s19, s20, s21, s22, s23, s24, s25⟩
              go_simp
              with_reducible rfl
             rotate_left
             ·simp only [Act.put, List.setIfInBounds_toArray, List.set_cons_zero, List.set_cons_succ, i64_w, i32_w]
              rfl
             refine take_ (i := 7) (N := some 57) (v := ?_) (a' := ?_) #[true, true, true, true, true, true, true, true, false, false, false, false, false, false] rfl rfl (yF HT_.out HW_.out (by kernel_rfl)) (fun _ _ _ h => h) (Or.inl ⟨by rfl, ?_⟩) hHeld ?_ ?_
             rotate_left
             ·rintro w' ⟨s0, s1, s2, s3, s4, s5, s6, s7, s8, s9, s10, s11, s12, s13, s14, s15, s16, s17, s18, s19, s20, s21, s22, s23, s24, s25⟩
              go_simp
              with_reducible rfl
             rotate_left
             ·simp only [Act.put, List.setIfInBounds_toArray, List.set_cons_zero, List.set_cons_succ, i64_w, i32_w]
              rfl
             refine pure_ (i := 8) (N := some 58) (v := ?_) (a' := ?_) #[true, true, true, true, true, true, true, true, true, false, false, false, false, false] rfl rfl (yn HT_.out (by kernel_rfl)) (fun _ _ _ h => h) (Or.inl ⟨by rfl, ?_⟩) ?_ ?_
             rotate_left
             ·intro w'
              go_simp
              with_reducible rfl
             rotate_left
             ·simp only [Act.put, List.setIfInBounds_toArray, List.set_cons_zero, List.set_cons_succ, i64_w, i32_w]
              rfl
             refine take_ (i := 9) (N := some 59) (v := ?_) (a' := ?_) #[true, true, true, true, true, true, true, true, true, true, false, false, false, false] rfl rfl (yF HT_.out HW_.out (by kernel_rfl)) (fun _ _ _ h => h) (Or.inl ⟨by rfl, ?_⟩) hHeld ?_ ?_
             rotate_left
             ·rintro w' ⟨s0, s1, s2, s3, s4, s5, s6, s7, s8, s9, s10, s11, s12, s13, s14, s15, s16, s17, s18, s19, s20, s21, s22, s23, s24, s25⟩
              (refine exec_load_cells (ty := 43) (x := .tmp 58) (p := (ad552.add (((rd t538 x47_2)).toNat * 17))) (cs := [.int .i64 ((za l0_3 (rd t538 x47_2)).f0), .string ((za l0_3 (rd t538 x47_2)).f1.f0), .slice A552_2 ((za l0_3 (rd t538 x47_2)).f1.f1).length c552_2, .string ((za l0_3 (rd t538 x47_2)).f2), .string ((za l0_3 (rd t538 x47_2)).f3.f0), .int .i64 ((za l0_3 (rd t538 x47_2)).f3.f1.f0), .int .i64 ((za l0_3 (rd t538 x47_2)).f3.f1.f1), .string ((za l0_3 (rd t538 x47_2)).f3.f1.f2), .string ((za l0_3 (rd t538 x47_2)).f4.f0), .int .i64 ((za l0_3 (rd t538 x47_2)).f4.f1.f0), .int .i64 ((za l0_3 (rd t538 x47_2)).f4.f1.f1), .string ((za l0_3 (rd t538 x47_2)).f4.f1.f2), .string ((za l0_3 (rd t538 x47_2)).f5.f0), .int .i64 ((za l0_3 (rd t538 x47_2)).f5.f1.f0), .int .i64 ((za l0_3 (rd t538 x47_2)).f5.f1.f1), .string ((za l0_3 (rd t538 x47_2)).f5.f1.f2), .slice A552_16 ((za l0_3 (rd t538 x47_2)).f6).length c552_16]) ?_ ?_ ?_ hu43 ?_ ?_; exact rfl; (first | with_reducible rfl | rfl); exact ⟨s9, ⟨s10, ⟨s11, ⟨s12, ⟨s13, ⟨s14, ⟨s15, ⟨s16, ⟨s17, ⟨s18, ⟨s19, ⟨s20, ⟨s21, ⟨s22, ⟨s23, ⟨s24, ⟨s25, trivial⟩⟩⟩⟩⟩⟩⟩⟩⟩⟩⟩⟩⟩⟩⟩⟩⟩; exact rfl; (as_aux_lemma => kernel_rfl))
             rotate_left
             ·simp only [Act.put, List.setIfInBounds_toArray, List.set_cons_zero, List.set_cons_succ, i64_w, i32_w]
              rfl
             refine one_ (i := 10) (N := some 60) #[true, true, true, true, true, true, true, true, true, true, true, false, false, false] rfl rfl (ql HT_.out (by kernel_rfl)) (by decide) (fun K hK => ?_)
             refine value_ (w1 := ?_) (v := ?_) (by rfl) rfl ?_ ?_
             rotate_left 2
             ·go_simp
              constructor
              ·rfl
              ·rfl
             refine hK.out _ _ ⟨(zf (zw BK550.out _) 0).trans rfl, (zf (zw BK550.out _) 1).trans rfl, (zf (zw BK550.out _) 2).trans rfl, (zf (zw BK550.out _) 3).trans rfl, (zf (zw BK536.out _) 0).trans rfl, (zf (zw BK536.out _) 1).trans rfl, (zf (zw BK536.out _) 2).trans rfl, (zf (zw BK536.out _) 3).trans rfl, (World.cell?_alloc_lt _ _ _ (World.block_lt_of_cell? _ _ (hHeld.2.2.2.2.2.2.2.2.1))).trans (hHeld.2.2.2.2.2.2.2.2.1), (World.cell?_alloc_lt _ _ _ (World.block_lt_of_cell? _ _ (hHeld.2.2.2.2.2.2.2.2.2.1))).trans (hHeld.2.2.2.2.2.2.2.2.2.1), (World.cell?_alloc_lt _ _ _ (World.block_lt_of_cell? _ _ (hHeld.2.2.2.2.2.2.2.2.2.2.1))).trans (hHeld.2.2.2.2.2.2.2.2.2.2.1), (World.cell?_alloc_lt _ _ _ (World.block_lt_of_cell? _ _ (hHeld.2.2.2.2.2.2.2.2.2.2.2.1))).trans (hHeld.2.2.2.2.2.2.2.2.2.2.2.1), (World.cell?_alloc_lt _ _ _ (World.block_lt_of_cell? _ _ (hHeld.2.2.2.2.2.2.2.2.2.2.2.2.1))).trans (hHeld.2.2.2.2.2.2.2.2.2.2.2.2.1), (World.cell?_alloc_lt _ _ _ (World.block_lt_of_cell? _ _ (hHeld.2.2.2.2.2.2.2.2.2.2.2.2.2.1))).trans (hHeld.2.2.2.2.2.2.2.2.2.2.2.2.2.1), (World.cell?_alloc_lt _ _ _ (World.block_lt_of_cell? _ _ (hHeld.2.2.2.2.2.2.2.2.2.2.2.2.2.2.1))).trans (hHeld.2.2.2.2.2.2.2.2.2.2.2.2.2.2.1), (World.cell?_alloc_lt _ _ _ (World.block_lt_of_cell? _ _ (hHeld.2.2.2.2.2.2.2.2.2.2.2.2.2.2.2.1))).trans (hHeld.2.2.2.2.2.2.2.2.2.2.2.2.2.2.2.1), (World.cell?_alloc_lt _ _ _ (World.block_lt_of_cell? _ _ (hHeld.2.2.2.2.2.2.2.2.2.2.2.2.2.2.2.2.1))).trans (hHeld.2.2.2.2.2.2.2.2.2.2.2.2.2.2.2.2.1), (World.cell?_alloc_lt _ _ _ (World.block_lt_of_cell? _ _ (hHeld.2.2.2.2.2.2.2.2.2.2.2.2.2.2.2.2.2.1))).trans (hHeld.2.2.2.2.2.2.2.2.2.2.2.2.2.2.2.2.2.1), (World.cell?_alloc_lt _ _ _ (World.block_lt_of_cell? _ _ (hHeld.2.2.2.2.2.2.2.2.2.2.2.2.2.2.2.2.2.2.1))).trans (hHeld.2.2.2.2.2.2.2.2.2.2.2.2.2.2.2.2.2.2.1), (World.cell?_alloc_lt _ _ _ (World.block_lt_of_cell? _ _ (hHeld.2.2.2.2.2.2.2.2.2.2.2.2.2.2.2.2.2.2.2.1))).trans (hHeld.2.2.2.2.2.2.2.2.2.2.2.2.2.2.2.2.2.2.2.1), (World.cell?_alloc_lt _ _ _ (World.block_lt_of_cell? _ _ (hHeld.2.2.2.2.2.2.2.2.2.2.2.2.2.2.2.2.2.2.2.2.1))).trans (hHeld.2.2.2.2.2.2.2.2.2.2.2.2.2.2.2.2.2.2.2.2.1), (World.cell?_alloc_lt _ _ _ (World.block_lt_of_cell? _ _ (hHeld.2.2.2.2.2.2.2.2.2.2.2.2.2.2.2.2.2.2.2.2.2.1))).trans (hHeld.2.2.2.2.2.2.2.2.2.2.2.2.2.2.2.2.2.2.2.2.2.1), (World.cell?_alloc_lt _ _ _ (World.block_lt_of_cell? _ _ (hHeld.2.2.2.2.2.2.2.2.2.2.2.2.2.2.2.2.2.2.2.2.2.2.1))).trans (hHeld.2.2.2.2.2.2.2.2.2.2.2.2.2.2.2.2.2.2.2.2.2.2.1), (World.cell?_alloc_lt _ _ _ (World.block_lt_of_cell? _ _ (hHeld.2.2.2.2.2.2.2.2.2.2.2.2.2.2.2.2.2.2.2.2.2.2.2.1))).trans (hHeld.2.2.2.2.2.2.2.2.2.2.2.2.2.2.2.2.2.2.2.2.2.2.2.1), (World.cell?_alloc_lt _ _ _ (World.block_lt_of_cell? _ _ (hHeld.2.2.2.2.2.2.2.2.2.2.2.2.2.2.2.2.2.2.2.2.2.2.2.2.1))).trans (hHeld.2.2.2.2.2.2.2.2.2.2.2.2.2.2.2.2.2.2.2.2.2.2.2.2.1), (World.cell?_alloc_lt _ _ _ (World.block_lt_of_cell? _ _ (hHeld.2.2.2.2.2.2.2.2.2.2.2.2.2.2.2.2.2.2.2.2.2.2.2.2.2))).trans (hHeld.2.2.2.2.2.2.2.2.2.2.2.2.2.2.2.2.2.2.2.2.2.2.2.2.2)⟩ (fun hHeld => ?_)
             clear hK K
             refine norm_ (a' := ?_) ?_ ?_
             rotate_left
             ·show Act.put _ (some 60) _ = _
              simp only [Act.put, List.setIfInBounds_toArray, List.set_cons_zero, List.set_cons_succ, i64_w, i32_w]
              rfl
             refine last_ (i := 11) (N := some 61) #[true, true, true, true, true, true, true, true, true, true, true, true, false, false] rfl rfl (ql HT_.out (by kernel_rfl)) (by decide) (fun K hK => ?_)
             refine Kd.N_append_step k43 (w0 := w) w.heap.size (by rfl) (.tmp 51) (.tmp 60) 22 43 (.agg #[(.int .i64 0), (.string ⟨#[]⟩), (.slice none 0 0), (.string ⟨#[]⟩), (.string ⟨#[]⟩), (.int .i64 0), (.int .i64 0), (.string ⟨#[]⟩), (.string ⟨#[]⟩), (.int .i64 0), (.int .i64 0), (.string ⟨#[]⟩), (.string ⟨#[]⟩), (.int .i64 0), (.int .i64 0), (.string ⟨#[]⟩), (.slice none 0 0)]) 232 rfl Try.underlying22 info43 rfl (by decide) (by omega) u551003 x551003_2 (⟨(za l0_3 (rd t538 x47_2)).f0, (⟨(za l0_3 (rd t538 x47_2)).f1.f0, (za l0_3 (rd t538 x47_2)).f1.f1⟩ : S36), (za l0_3 (rd t538 x47_2)).f2, (⟨(za l0_3 (rd t538 x47_2)).f3.f0, (⟨(za l0_3 (rd t538 x47_2)).f3.f1.f0, (za l0_3 (rd t538 x47_2)).f3.f1.f1, (za l0_3 (rd t538 x47_2)).f3.f1.f2⟩ : S38)⟩ : S40), (⟨(za l0_3 (rd t538 x47_2)).f4.f0, (⟨(za l0_3 (rd t538 x47_2)).f4.f1.f0, (za l0_3 (rd t538 x47_2)).f4.f1.f1, (za l0_3 (rd t538 x47_2)).f4.f1.f2⟩ : S38)⟩ : S40), (⟨(za l0_3 (rd t538 x47_2)).f5.f0, (⟨(za l0_3 (rd t538 x47_2)).f5.f1.f0, (za l0_3 (rd t538 x47_2)).f5.f1.f1, (za l0_3 (rd t538 x47_2)).f5.f1.f2⟩ : S38)⟩ : S40), (za l0_3 (rd t538 x47_2)).f6⟩ : S43) [.int .i64 ((za l0_3 (rd t538 x47_2)).f0), .string ((za l0_3 (rd t538 x47_2)).f1.f0), .slice A552_2 ((za l0_3 (rd t538 x47_2)).f1.f1).length c552_2, .string ((za l0_3 (rd t538 x47_2)).f2), .string ((za l0_3 (rd t538 x47_2)).f3.f0), .int .i64 ((za l0_3 (rd t538 x47_2)).f3.f1.f0), .int .i64 ((za l0_3 (rd t538 x47_2)).f3.f1.f1), .string ((za l0_3 (rd t538 x47_2)).f3.f1.f2), .string ((za l0_3 (rd t538 x47_2)).f4.f0), .int .i64 ((za l0_3 (rd t538 x47_2)).f4.f1.f0), .int .i64 ((za l0_3 (rd t538 x47_2)).f4.f1.f1), .string ((za l0_3 (rd t538 x47_2)).f4.f1.f2), .string ((za l0_3 (rd t538 x47_2)).f5.f0), .int .i64 ((za l0_3 (rd t538 x47_2)).f5.f1.f0), .int .i64 ((za l0_3 (rd t538 x47_2)).f5.f1.f1), .string ((za l0_3 (rd t538 x47_2)).f5.f1.f2), .slice A552_16 ((za l0_3 (rd t538 x47_2)).f6).length c552_16] (fun k_ => ((P0_1_ k_ ∨ P0_3_ k_) ∨ w.heap.size ≤ k_) ∧ some k_ ≠ (.slice (some ad551) t538.length co28 : Value).ownBlock ∧ k_ ≠ gb536 ∧ k_ ≠ gb537 ∧ k_ ≠ gb550) (fun k_ => ((fun k_ => ((P0_1_ k_ ∨ P0_3_ k_) ∨ w.heap.size ≤ k_) ∧ some k_ ≠ (.slice (some ad551) t538.length co28 : Value).ownBlock ∧ k_ ≠ gb536 ∧ k_ ≠ gb537 ∧ k_ ≠ gb550)) k_ ∧ some k_ ≠ (u551003 : Value).ownBlock) rfl rfl ?aP (fun _ hk => hk) ?aF ?aO ?aB ?aS ?aL ?_
             (case aP => exact (k43_mkF _ _ (⟨(za l0_3 (rd t538 x47_2)).f0, (⟨(za l0_3 (rd t538 x47_2)).f1.f0, (za l0_3 (rd t538 x47_2)).f1.f1⟩ : S36), (za l0_3 (rd t538 x47_2)).f2, (⟨(za l0_3 (rd t538 x47_2)).f3.f0, (⟨(za l0_3 (rd t538 x47_2)).f3.f1.f0, (za l0_3 (rd t538 x47_2)).f3.f1.f1, (za l0_3 (rd t538 x47_2)).f3.f1.f2⟩ : S38)⟩ : S40), (⟨(za l0_3 (rd t538 x47_2)).f4.f0, (⟨(za l0_3 (rd t538 x47_2)).f4.f1.f0, (za l0_3 (rd t538 x47_2)).f4.f1.f1, (za l0_3 (rd t538 x47_2)).f4.f1.f2⟩ : S38)⟩ : S40), (⟨(za l0_3 (rd t538 x47_2)).f5.f0, (⟨(za l0_3 (rd t538 x47_2)).f5.f1.f0, (za l0_3 (rd t538 x47_2)).f5.f1.f1, (za l0_3 (rd t538 x47_2)).f5.f1.f2⟩ : S38)⟩ : S40), (za l0_3 (rd t538 x47_2)).f6⟩ : S43) (Kd.ya (Kd.zy (ok' := (fun k_ => ((fun k_ => ((P0_1_ k_ ∨ P0_3_ k_) ∨ w.heap.size ≤ k_) ∧ some k_ ≠ (.slice (some ad551) t538.length co28 : Value).ownBlock ∧ k_ ≠ gb536 ∧ k_ ≠ gb537 ∧ k_ ≠ gb550)) k_ ∧ some k_ ≠ (u551003 : Value).ownBlock)) (HL552_2.out) (fun k_ hk => ⟨⟨hk.1, ⟨hk.2.1, ⟨hk.2.2.2.1, ⟨hk.2.2.2.2.1, hk.2.2.2.2.2⟩⟩⟩⟩, hk.2.2.1⟩))).2.1 (Kd.V_F (Kd.zy (ok' := (fun k_ => ((fun k_ => ((P0_1_ k_ ∨ P0_3_ k_) ∨ w.heap.size ≤ k_) ∧ some k_ ≠ (.slice (some ad551) t538.length co28 : Value).ownBlock ∧ k_ ≠ gb536 ∧ k_ ≠ gb537 ∧ k_ ≠ gb550)) k_ ∧ some k_ ≠ (u551003 : Value).ownBlock)) (HL552_2.out) (fun k_ hk => ⟨⟨hk.1, ⟨hk.2.1, ⟨hk.2.2.2.1, ⟨hk.2.2.2.2.1, hk.2.2.2.2.2⟩⟩⟩⟩, hk.2.2.1⟩))) (Kd.ya (Kd.zy (ok' := (fun k_ => ((fun k_ => ((P0_1_ k_ ∨ P0_3_ k_) ∨ w.heap.size ≤ k_) ∧ some k_ ≠ (.slice (some ad551) t538.length co28 : Value).ownBlock ∧ k_ ≠ gb536 ∧ k_ ≠ gb537 ∧ k_ ≠ gb550)) k_ ∧ some k_ ≠ (u551003 : Value).ownBlock)) (HL552_16.out) (fun k_ hk => ⟨⟨hk.1, ⟨hk.2.1, ⟨hk.2.2.2.1, ⟨hk.2.2.2.2.1, hk.2.2.2.2.2⟩⟩⟩⟩, hk.2.2.1⟩))).2.1 (Kd.V_F (Kd.zy (ok' := (fun k_ => ((fun k_ => ((P0_1_ k_ ∨ P0_3_ k_) ∨ w.heap.size ≤ k_) ∧ some k_ ≠ (.slice (some ad551) t538.length co28 : Value).ownBlock ∧ k_ ≠ gb536 ∧ k_ ≠ gb537 ∧ k_ ≠ gb550)) k_ ∧ some k_ ≠ (u551003 : Value).ownBlock)) (HL552_16.out) (fun k_ hk => ⟨⟨hk.1, ⟨hk.2.1, ⟨hk.2.2.2.1, ⟨hk.2.2.2.2.1, hk.2.2.2.2.2⟩⟩⟩⟩, hk.2.2.1⟩)))))
             (case aB => exact (by repeat (first | exact ub HB.out | apply zd | apply zc | apply ze | refine zh ?_ ‹_›)))
             (case aF => exact (fun k_ hk => ⟨(.inr (Nat.le_trans (zi (by repeat (first | exact ub HB.out | apply zd | apply zc | apply ze | refine zh ?_ ‹_›))) hk)), Kd.fresh' (Kd.R_lt (ur HO_4.out)) k_ hk, Kd.freshB (g := gb536) (o := .cells #[.string a0_0, .slice A0_1 l0_1.length c0_1, .int .i64 a0_2, .slice (some ad552) l0_3.length c0_3] 51 (0, 0)) (ul BK536.out) k_ hk, Kd.freshB (g := gb537) (o := .cells #[.string x538000_1, .slice none 0 0, .int .i64 x538002_1, .slice none 0 0] 51 (0, 0)) (ul BK537.out) k_ hk, Kd.freshB (g := gb550) (o := .cells #[.string a0_0, .slice A0_1 l0_1.length c0_1, .int .i64 a0_2, u551003] 51 (0, 0)) (ul BK550.out) k_ hk⟩))
             (case aO => exact (un HO_551003.out))
             (case aS => exact (zi (by repeat (first | exact ub HB.out | apply zd | apply zc | apply ze | refine zh ?_ ‹_›))))
             (case aL => have := LMc34.out; omega)
             intro v554 w36 ho hb hg hat
             rw [← Ny553.out] at ho
             have n0_ := zb.mk (Kd.R_over' (ur HO_4.out) (Kd.N_typed (un HO_551003.out)) (by decide) hg)
             have n1_ := zb.mk (Kd.yS (ok := (fun k_ => ((P0_1_ k_ ∨ P0_3_ k_) ∨ w.heap.size ≤ k_) ∧ some k_ ≠ (.slice (some ad551) t538.length co28 : Value).ownBlock ∧ k_ ≠ gb536 ∧ k_ ≠ gb537 ∧ k_ ≠ gb550)) (uv (Kd.zy HO_537001.out (fun _ hk => ⟨⟨hk.1, ⟨hk.2.1, ⟨hk.2.2.2.1, ⟨hk.2.2.2.2.1, hk.2.2.2.2.2⟩⟩⟩⟩, hk.2.2.1⟩))) hg hat)
             have n2_ := zb.mk (Kd.yS (ok := (fun k_ => ((P0_1_ k_ ∨ P0_3_ k_) ∨ w.heap.size ≤ k_) ∧ some k_ ≠ (.slice (some ad551) t538.length co28 : Value).ownBlock ∧ k_ ≠ gb536 ∧ k_ ≠ gb537 ∧ k_ ≠ gb550)) (uv (Kd.zy HO_537003.out (fun _ hk => ⟨⟨hk.1, ⟨hk.2.1, ⟨hk.2.2.2.1, ⟨hk.2.2.2.2.1, hk.2.2.2.2.2⟩⟩⟩⟩, hk.2.2.1⟩))) hg hat)
             have n3_ := zb.mk (Kd.yS (ok := (fun k_ => ((P0_1_ k_ ∨ P0_3_ k_) ∨ w.heap.size ≤ k_) ∧ some k_ ≠ (.slice (some ad551) t538.length co28 : Value).ownBlock ∧ k_ ≠ gb536 ∧ k_ ≠ gb537 ∧ k_ ≠ gb550)) (uv (Kd.zy HO_551001.out (fun _ hk => ⟨⟨hk.1, ⟨hk.2.1, ⟨hk.2.2.2.1, ⟨hk.2.2.2.2.1, hk.2.2.2.2.2⟩⟩⟩⟩, hk.2.2.1⟩))) hg hat)
             have n4_ := zb.mk (yL (ul BK536.out) hg (Kd.N_ne HO_551003.out BK536.out (by decide)))
             have n5_ := zb.mk (yL (ul BK537.out) hg (Kd.N_ne HO_551003.out BK537.out (by decide)))
             have n6_ := zb.mk (yL (ul BK550.out) hg (Kd.N_ne HO_551003.out BK550.out (by decide)))
             have n7_ := zb.mk (Kd.yS (ok := (fun k_ => ((P0_1_ k_ ∨ P0_3_ k_) ∨ w.heap.size ≤ k_) ∧ some k_ ≠ (.slice (some ad551) t538.length co28 : Value).ownBlock ∧ k_ ≠ gb536 ∧ k_ ≠ gb537 ∧ k_ ≠ gb550)) (uv (Kd.zy HL552_2.out (fun _ hk => ⟨⟨hk.1, ⟨hk.2.1, ⟨hk.2.2.2.1, ⟨hk.2.2.2.2.1, hk.2.2.2.2.2⟩⟩⟩⟩, hk.2.2.1⟩))) hg hat)
             have n8_ := zb.mk (Kd.yS (ok := (fun k_ => ((P0_1_ k_ ∨ P0_3_ k_) ∨ w.heap.size ≤ k_) ∧ some k_ ≠ (.slice (some ad551) t538.length co28 : Value).ownBlock ∧ k_ ≠ gb536 ∧ k_ ≠ gb537 ∧ k_ ≠ gb550)) (uv (Kd.zy HL552_16.out (fun _ hk => ⟨⟨hk.1, ⟨hk.2.1, ⟨hk.2.2.2.1, ⟨hk.2.2.2.2.1, hk.2.2.2.2.2⟩⟩⟩⟩, hk.2.2.1⟩))) hg hat)
             have n9_ := zb.mk (hb)
             have n10_ := zb.mk (ho)
             clear HO_4
             clear HO_537001
             clear HO_537003
             clear HO_551001
             clear BK536
             clear BK537
             clear BK550
             clear HL552_2
             clear HL552_16
             clear HB
             clear HO_551003
             have HO_4 := n0_
             have HO_537001 := n1_
             have HO_537003 := n2_
             have HO_551001 := n3_
             have BK536 := n4_
             have BK537 := n5_
             have BK550 := n6_
             have HL552_2 := n7_
             have HL552_16 := n8_
             have HB := n9_
             have HO555 := n10_
             clear n0_ n1_ n2_ n3_ n4_ n5_ n6_ n7_ n8_ n9_ n10_
             clear ho hb hg hat
             obtain ⟨Ao37, co37, eo37⟩ := Kd.qk HO555.out
             (first | subst eo37 | (injection eo37 with f1_ f2_ f3_; have f4_ := f1_.symm; have f5_ := f3_.symm; clear f1_ f2_ f3_; subst f4_; subst f5_))
             refine hK.out _ _ ?_
             clear hK K
             refine norm_ (a' := ?_) ?_ ?_
             rotate_left
             ·show Act.put _ (some 61) _ = _
              simp only [Act.put, List.setIfInBounds_toArray, List.set_cons_zero, List.set_cons_succ, i64_w, i32_w]
              rfl
             refine pure_ (i := 12) (N := some 62) (v := ?_) (a' := ?_) #[true, true, true, true, true, true, true, true, true, true, true, true, true, false] rfl rfl (yn HT_.out (by kernel_rfl)) (fun _ _ _ h => h) (Or.inl ⟨by rfl, ?_⟩) ?_ ?_
             rotate_left
             ·intro w'
              go_simp
              with_reducible rfl
             rotate_left
             ·simp only [Act.put, List.setIfInBounds_toArray, List.set_cons_zero, List.set_cons_succ, i64_w, i32_w]
              rfl
             refine last_ (i := 13) (N := none) #[true, true, true, true, true, true, true, true, true, true, true, true, true, true] rfl rfl (ql HT_.out (by kernel_rfl)) (by decide) (fun K hK => ?_)
             have hs38 : w36.cell? ⟨gb550, 3, none⟩ = some (u551003) := (zf BK550.out 3).trans rfl
             have hfs38 := zX BK550.out 3
             have hns38_0 := NB536_550.out
             have hns38_1 := NB537_550.out
             have hms38_0 := NB550_536.out
             have hms38_1 := NB550_537.out
             refine skip_ (w1 := ?_) (by rfl) rfl ?_ ?_
             rotate_left
             ·go_simp
              rfl
             refine hK.out _ _ ?_
             clear hK K
             refine done_ (done_of HT_.out (by kernel_rfl)) ?_
             try go_wp2
             go_roundg k2
             case measure => have := HK1.out; have := HK2.out; omega
             case rel => exact ⟨(wrap64 (x47_2 + 1)), (y553), (.slice Ao37 y553.length co37), (by first | rfl | (simp; done) | (simp [*]; done)), H', ⟨by have := HK1.out; have := HK2.out; omega⟩, ⟨ur (Kd.yt (Kd.R_far (p := ⟨gb550, 3, none⟩) (Kd.qd HO_4.out BK550.out (by decide)) (fun _ hk => hk.2) (.slice Ao37 y553.length co37)) (fun _ hk => hk.1))⟩, ⟨uv (Kd.zy (Kd.V_far (p := ⟨gb550, 3, none⟩) (Kd.zy HO_537001.out (fun k_ hk => (⟨hk, hk.1.2.2.2.2⟩ : _ ∧ k_ ≠ gb550))) (fun _ hk => hk.2) (.slice Ao37 y553.length co37)) (fun _ hk => ⟨hk.1.1.1, ⟨hk.1.1.2.1, ⟨hk.1.2, ⟨hk.1.1.2.2.1, ⟨hk.1.1.2.2.2.1, hk.1.1.2.2.2.2⟩⟩⟩⟩⟩))⟩, ⟨uv (Kd.zy (Kd.V_far (p := ⟨gb550, 3, none⟩) (Kd.zy HO_537003.out (fun k_ hk => (⟨hk, hk.1.2.2.2.2⟩ : _ ∧ k_ ≠ gb550))) (fun _ hk => hk.2) (.slice Ao37 y553.length co37)) (fun _ hk => ⟨hk.1.1.1, ⟨hk.1.1.2.1, ⟨hk.1.2, ⟨hk.1.1.2.2.1, ⟨hk.1.1.2.2.2.1, hk.1.1.2.2.2.2⟩⟩⟩⟩⟩))⟩, ⟨uv (Kd.zy (Kd.V_far (p := ⟨gb550, 3, none⟩) (Kd.zy HO_551001.out (fun k_ hk => (⟨hk, hk.1.2.2.2.2⟩ : _ ∧ k_ ≠ gb550))) (fun _ hk => hk.2) (.slice Ao37 y553.length co37)) (fun _ hk => ⟨hk.1.1.1, ⟨hk.1.1.2.1, ⟨hk.1.2, ⟨hk.1.1.2.2.1, ⟨hk.1.1.2.2.2.1, hk.1.1.2.2.2.2⟩⟩⟩⟩⟩))⟩, ⟨un (Kd.zY (Kd.N_far (p := ⟨gb550, 3, none⟩) (Kd.zY HO555.out (fun k_ hk => (⟨hk, hk.2.2.2.2⟩ : _ ∧ k_ ≠ gb550))) (fun _ hk => hk.2) (.slice Ao37 y553.length co37)) (fun _ hk => ⟨hk.1.1, ⟨hk.1.2.1, ⟨hk.1.2.2.1, ⟨hk.1.2.2.2.1, hk.1.2.2.2.2⟩⟩⟩⟩))⟩, ⟨by (with_reducible repeat (first | refine ye ?_ NB536_550.out _ | refine zC ?_ _ | refine zD ?_ | refine zw ?_ _)); exact BK536.out⟩, ⟨by (with_reducible repeat (first | refine ye ?_ NB537_550.out _ | refine zC ?_ _ | refine zD ?_ | refine zw ?_ _)); exact BK537.out⟩, ⟨by (with_reducible repeat (first | refine zC ?_ _ | refine zD ?_ | refine zw ?_ _)); exact zB (ul BK550.out) 3 _ rfl⟩, ⟨by repeat (first | exact ub HB.out | apply zd | apply zc | apply ze | refine zh ?_ ‹_›)⟩⟩
            ·rw [if_neg c34] at H
             exact absurd H (by simp)
           ·rw [if_neg c33] at H
            exact absurd H (by simp)
          ·rw [if_neg c32] at H
           exact absurd H (by simp)
         ·rw [if_neg c31] at H
          exact absurd H (by simp)
        ·rw [if_neg c30] at H
         exact absurd H (by simp)
       ·rw [if_neg c29] at H
        have c29b0 : decide (x47_2 < (t538.length : Int)) = false := decide_eq_false c29
        clear c29
        simp only [Option.some.injEq, Prod.mk.injEq] at H
        obtain ⟨rfl, rfl, rfl, rfl, rfl⟩ := H
        have hnb39 := NB550_536.out
        have hnc39 := NB536_550.out
        have hnb40 := NB550_537.out
        have hnc40 := NB537_550.out
        obtain ⟨hcz41_0, hcz41_1, hcz41_2, hcz41_3⟩ := blk4 BK550.out
        obtain ⟨hfz41_0, hfz41_1, hfz41_2, hfz41_3⟩ := frz4 BK550.out
        have hnb42 := NB537_536.out
        have hnc42 := NB536_537.out
        obtain ⟨hcz43_0, hcz43_1, hcz43_2, hcz43_3⟩ := blk4 BK537.out
        obtain ⟨hfz43_0, hfz43_1, hfz43_2, hfz43_3⟩ := frz4 BK537.out
        obtain ⟨Ao44, co44, eo44⟩ := Kd.qk HO_551003.out
        subst eo44
        go_wp2
        refine bodyPost_ret (qn rfl _ _ gb537 51 #[.string a0_0, .slice A0_1 l0_1.length c0_1, .int .i64 a0_2, .slice Ao44 x551003_2.length co44] (0, 0) _ rfl (by (with_reducible repeat (first | refine zC ?_ _ | refine zD ?_ | refine zw ?_ _)); exact zB (zB (zB (zB (ul BK537.out) 0 _ rfl) 1 _ rfl) 2 _ rfl) 3 _ rfl) Try.underlying51 rfl (by kernel_rfl)) rfl ?_
        exact ⟨_, _, by first | rfl | (simp [zA, zz] <;> rfl) | (simp [*, zA, zz] <;> rfl), by (with_reducible repeat (first | apply Kd.V_alloc | apply Kd.V_drewN | apply Kd.V_drew)); exact Kd.zy (Kd.V_far (p := ⟨gb537, 3, none⟩) (Kd.V_far (p := ⟨gb537, 2, none⟩) (Kd.V_far (p := ⟨gb537, 1, none⟩) (Kd.V_far (p := ⟨gb537, 0, none⟩) (Kd.zy HO_551001.out (fun k_ hk => (⟨hk, hk.2.2.2.2.1⟩ : _ ∧ k_ ≠ gb537))) (fun _ hk => hk.2) (.string a0_0)) (fun _ hk => hk.2) (.slice A0_1 l0_1.length c0_1)) (fun _ hk => hk.2) (.int .i64 a0_2)) (fun _ hk => hk.2) (.slice Ao44 x551003_2.length co44)) (fun _ hk => ⟨hk.1.1, hk.1.2.2.1⟩), by (with_reducible repeat (first | apply Kd.N_alloc | apply Kd.N_drewN | apply Kd.N_drew)); exact Kd.zY (Kd.N_far (p := ⟨gb537, 3, none⟩) (Kd.N_far (p := ⟨gb537, 2, none⟩) (Kd.N_far (p := ⟨gb537, 1, none⟩) (Kd.N_far (p := ⟨gb537, 0, none⟩) (Kd.zY HO_551003.out (fun k_ hk => (⟨hk, hk.2.2.2.1⟩ : _ ∧ k_ ≠ gb537))) (fun _ hk => hk.2) (.string a0_0)) (fun _ hk => hk.2) (.slice A0_1 l0_1.length c0_1)) (fun _ hk => hk.2) (.int .i64 a0_2)) (fun _ hk => hk.2) (.slice Ao44 x551003_2.length co44)) (fun _ hk => hk.1.1), by repeat (first | exact ub HB.out | apply zd | apply zc | apply ze | refine zh ?_ ‹_›)⟩
 ·rw [if_neg c3] at H
  have c3b0 : (t540 == 0) = false := beq_eq_false_iff_ne.mpr c3
  have c3b1 : (t540 != 0) = true := bne_iff_ne.mpr c3
  simp only [Option.some.injEq, Prod.mk.injEq] at H
  obtain ⟨rfl, rfl, rfl, rfl, rfl⟩ := H
  go_enter Try.func26, Try.ntmps26
  go_wp2_with (first | ((with_reducible refine zQ (N := 1) rfl ?_); refine zM ?hg (N := 1) ?hd (cs := #[.string a0_0, .slice A0_1 l0_1.length c0_1, .int .i64 a0_2, .slice A0_3 l0_3.length c0_3]) (t := 51) ?hr ?_; (case hd => rfl); (case hg => rfl); (case hr => first | (go_simp; done) | (go_simp; rfl)); intro gb536 hg w45 hbox hb; have n0_ := zb.mk (Kd.zN (Kd.zI (uv HO0_1.out) gb536 (Nat.le_of_eq hg.symm)) hb); have n1_ := zb.mk (Kd.zN (Kd.zI (uv HO0_3.out) gb536 (Nat.le_of_eq hg.symm)) hb); have n2_ := zb.mk (zn (ub HB.out) hb); have n3_ := zb.mk (hbox); have n4_ := zb.mk ((by rw [hg]; exact (zi (ub HB.out)) : w.heap.size ≤ gb536)); have n5_ := zb.mk ((by rw [hg]; exact (zi (ub HB.out)) : w.heap.size ≤ gb536)); clear HO0_1; clear HO0_3; clear HB; have HO0_1 := n0_; have HO0_3 := n1_; have HB := n2_; have BK536 := n3_; have GW536 := n4_; have GE536 := n5_; clear n0_ n1_ n2_ n3_ n4_ n5_; clear hb hbox hg) | ((with_reducible refine zQ (N := 2) rfl ?_); refine zM ?hg (N := 2) ?hd (cs := #[.string (⟨#[]⟩ : ByteArray), .slice none 0 0, .int .i64 0, .slice none 0 0]) (t := 51) ?hr ?_; (case hd => rfl); (case hg => rfl); (case hr => first | (go_simp; done) | (go_simp; rfl)); intro gb537 hg w46 hbox hb; have n0_ := zb.mk (Kd.zN (Kd.zI (uv HO0_1.out) gb537 (Nat.le_of_eq hg.symm)) hb); have n1_ := zb.mk (Kd.zN (Kd.zI (uv HO0_3.out) gb537 (Nat.le_of_eq hg.symm)) hb); have n2_ := zb.mk (zo (ul BK536.out) hb); have n3_ := zb.mk (zn (by repeat (first | exact ub HB.out | apply zd | apply zc | apply ze | refine zh ?_ ‹_›)) hb); have n4_ := zb.mk (hbox); have n5_ := zb.mk ((by rw [hg]; exact (zi (by repeat (first | exact ub HB.out | apply zd | apply zc | apply ze | refine zh ?_ ‹_›))) : w.heap.size ≤ gb537)); have n6_ := zb.mk ((by rw [hg]; exact (zi (by repeat (first | exact ub HB.out | apply zd | apply zc | apply ze | refine zh ?_ ‹_›))) : w.heap.size ≤ gb537)); have n7_ := zb.mk ((by rw [hg]; exact Nat.ne_of_lt (zO (ul BK536.out)) : gb536 ≠ gb537)); have n8_ := zb.mk ((by rw [hg]; exact Nat.ne_of_gt (zO (ul BK536.out)) : gb537 ≠ gb536)); clear HO0_1; clear HO0_3; clear BK536; clear HB; have HO0_1 := n0_; have HO0_3 := n1_; have BK536 := n2_; have HB := n3_; have BK537 := n4_; have GW537 := n5_; have GE537 := n6_; have NB536_537 := n7_; have NB537_536 := n8_; clear n0_ n1_ n2_ n3_ n4_ n5_ n6_ n7_ n8_; clear hb hbox hg; have hnb47 := NB536_537.out; have hnc47 := NB537_536.out; obtain ⟨hcz48_0, hcz48_1, hcz48_2, hcz48_3⟩ := blk4 BK536.out; obtain ⟨hfz48_0, hfz48_1, hfz48_2, hfz48_3⟩ := frz4 BK536.out) | ((with_reducible refine zP (f := 12) rfl ?_); refine yH (some 14) rfl rfl Try.func12 (by kernel_rfl) rfl #[.slice A0_3 l0_3.length c0_3, .slice none 0 0] rfl (by (try simp only [List.map_toArray, List.map_cons, List.map_nil]); first | done | rfl | (simp only [List.length_drop, List.length_take]; rfl)) ?_; (refine (zk.calls k _ _ l0_3 _ _ ([] : List ByteArray) t538 t539 t540 _ ?side1 ?side2 ?side3 ?side4 A2.out).mono ?_); (case side1 => repeat (first | exact (Kd.ya HO0_3.out).2.2 | (with_reducible refine Kd.yw ?_ _) | (with_reducible refine Kd.yv ?_ _) | (with_reducible refine Kd.yP ?_))); (case side2 => exact (Kd.ya HO0_3.out).2.1); (case side3 => exact Kd.C_nil _ _); (case side4 => exact Nat.le_refl _); rintro e w49 ⟨v541, v543, rfl, ho0, ho1, hb⟩; refine ⟨_, rfl, ?_⟩; have n0_ := zb.mk (Kd.zy (Kd.qD (Kd.qD (Kd.V_old (uv HO0_1.out) hb) (Kd.yI ho0)) (Kd.yI ho1)) (fun _ h_ => h_.1)); have n1_ := zb.mk (Kd.zy (Kd.qD (Kd.qD (Kd.V_old (uv HO0_3.out) hb) (Kd.yI ho0)) (Kd.yI ho1)) (fun _ h_ => h_.1)); have n2_ := zb.mk (Kd.yr (Kd.R_newM (M := fun k_ => (w.heap.size ≤ k_)) ho0 (zi (by repeat (first | exact ub HB.out | apply zd | apply zc | apply ze | refine zh ?_ ‹_›))) (fun k_ h_ => h_)) (zi (by repeat (first | exact ub HB.out | apply zd | apply zc | apply ze | refine zh ?_ ‹_›)))); have n3_ := zb.mk (Kd.yr (Kd.R_newM (M := fun k_ => (w.heap.size ≤ k_)) ho1 (zi (by repeat (first | exact ub HB.out | apply zd | apply zc | apply ze | refine zh ?_ ‹_›))) (fun k_ h_ => h_)) (zi (by repeat (first | exact ub HB.out | apply zd | apply zc | apply ze | refine zh ?_ ‹_›)))); have n4_ := zb.mk (zo (ul BK536.out) hb); have n5_ := zb.mk (zo (ul BK537.out) hb); have n6_ := zb.mk (zn (by repeat (first | exact ub HB.out | apply zd | apply zc | apply ze | refine zh ?_ ‹_›)) hb); clear HO0_1; clear HO0_3; clear BK536; clear BK537; clear HB; have HO0_1 := n0_; have HO0_3 := n1_; have HO542 := n2_; have HO544 := n3_; have BK536 := n4_; have BK537 := n5_; have HB := n6_; clear n0_ n1_ n2_ n3_ n4_ n5_ n6_; (try clear hb); (try clear hb2); (try clear hk); (try clear hi); (try clear ho0); (try clear ho1); obtain ⟨hcz50_0, hcz50_1, hcz50_2, hcz50_3⟩ := blk4 BK537.out; obtain ⟨hfz50_0, hfz50_1, hfz50_2, hfz50_3⟩ := frz4 BK537.out))
  refine bodyPost_ret (qn rfl _ _ gb537 51 #[.string (⟨#[]⟩ : ByteArray), .slice none 0 0, .int .i64 0, .slice none 0 0] (0, 0) _ rfl (by (with_reducible repeat (first | refine zC ?_ _ | refine zD ?_ | refine zw ?_ _)); exact zB (zB (zB (zB (ul BK537.out) 0 _ rfl) 1 _ rfl) 2 _ rfl) 3 _ rfl) Try.underlying51 rfl (by kernel_rfl)) rfl ?_
  exact ⟨_, _, by first | rfl | (simp [zA, zz] <;> rfl) | (simp [*, zA, zz] <;> rfl), Kd.V_nil _ _ _ _ _, by first | exact Kd.S_nil _ _ _ _ _ | exact Kd.N_nil _ _ _ _ _ | exact Kd.V_nil _ _ _ _ _ | exact Kd.Q_nil _ _ _ _ _ | exact Kd.R_nil _ _ _ _ _, by repeat (first | exact ub HB.out | apply zd | apply zc | apply ze | refine zh ?_ ‹_›)⟩
end Go.Proofs.Ytmgbfgloegcloaa.Ps
