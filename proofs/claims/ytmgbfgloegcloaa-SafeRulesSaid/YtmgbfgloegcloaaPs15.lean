import Derived.Test.YtmgbfgloegcloaaZip
import Derived.Test.YtmgbfgloegcloaaPsD
namespace Go.Proofs.Ytmgbfgloegcloaa.Ps
open Go.RowKit Go.Proofs.YtmgbfgloegcloaaW.PrintWords Go.Proofs.YtmgbfgloegcloaaW.PrintLast Go.Proofs.YtmgbfgloegcloaaW.PrintMore
attribute [local go_sem] yD yB yR yQ ym yl yC yA
set_option linter.unusedVariables false
set_option linter.unusedSimpArgs false
def zS.T1 : Bool × List (List Nat × List Nat) := (true, [([], []), ([], []), ([1], [1]), ([2], [2]), ([0, 3], [0, 3]), ([], []), ([5], [5]), ([], []), ([7], [7]), ([], []), ([9], [9]), ([6, 8, 10], [6, 8, 10]), ([4, 11, 4], [4, 11]), ([12, 12, 0, 1, 2, 3, 4, 5, 6, 7, 8, 9, 10, 11, 12], [12])])
def zS.B1 : List Nat := [0, 0, 2, 6, 15, 0, 32, 0, 128, 0, 512, 2016, 4095, 8191]
theorem zS.tab1 : rtab .any (opsOf Try.f31 1) = zS.T1 := by kernel_rfl
theorem zS.bits1 : waitsOk zS.T1.2 zS.B1 = true := by kernel_rfl
set_option maxHeartbeats 8000000 in
set_option maxRecDepth 100000 in
theorem zS.calls (a0_0 : Int) (a0_1 : ByteArray) (A0_2 : Option Addr) (c0_2 : Nat) (l0_2 : List (S40)) (a0_3 : ByteArray) (a0_4 : ByteArray) (a0_5 : Int) (a0_6 : Int) (a0_7 : ByteArray) (a0_8 : ByteArray) (a0_9 : Int) (a0_10 : Int) (a0_11 : ByteArray) (a0_12 : ByteArray) (a0_13 : Int) (a0_14 : Int) (a0_15 : ByteArray) (A0_16 : Option Addr) (c0_16 : Nat) (l0_16 : List (S82)) (r : List (S40)) (w : World) (hr0_2 : Kd.C k40 w A0_2 l0_2.length l0_2) (hc0_2 : l0_2.length ≤ c0_2) (hr0_16 : Kd.C k82 w A0_16 l0_16.length l0_16) (hc0_16 : l0_16.length ≤ c0_16) (h : zS.f a0_0 a0_1 l0_2 a0_3 a0_4 a0_5 a0_6 a0_7 a0_8 a0_9 a0_10 a0_11 a0_12 a0_13 a0_14 a0_15 l0_16 = some r) :
  Calls Try.prog 31 #[.agg #[.int .i64 a0_0, .string a0_1, .slice A0_2 l0_2.length c0_2, .string a0_3, .string a0_4, .int .i64 a0_5, .int .i64 a0_6, .string a0_7, .string a0_8, .int .i64 a0_9, .int .i64 a0_10, .string a0_11, .string a0_12, .int .i64 a0_13, .int .i64 a0_14, .string a0_15, .slice A0_16 l0_16.length c0_16]] w fun e w' => ∃ v0_ : Value, e = .returned (v0_) ∧ Kd.R k40 40 w' w.heap.size (fun _ => True) v0_ r ∧ Below w.heap.size w w' := by
 have hu43 := Try.underlying43
 have hu40 := Try.underlying40
 have HR0_2 := zb.mk hr0_2
 have HC0_2 := zb.mk hc0_2
 clear hr0_2 hc0_2
 have HR0_16 := zb.mk hr0_16
 have HC0_16 := zb.mk hc0_16
 clear hr0_16 hc0_16
 have HB := zb.mk (Below.refl w.heap.size w)
 have H : ((some (([] : List (S40)) : List (S40))).bind fun y253 => (if y253.length + l0_2.length < 2932031007402 then ((some (y253 ++ l0_2 : List (S40))).bind fun y256 => ((some (([(⟨a0_4, (⟨a0_5, a0_6, a0_7⟩ : S38)⟩ : S40), (⟨a0_8, (⟨a0_9, a0_10, a0_11⟩ : S38)⟩ : S40), (⟨a0_12, (⟨a0_13, a0_14, a0_15⟩ : S38)⟩ : S40)] : List (S40)) : List (S40))).bind fun y259 => (if y256.length + y259.length < 2932031007402 then (some (y256 ++ y259)) else (none)))) else (none))) = some r := h
 clear h
 obtain ⟨y253, hy253⟩ : ∃ y_ : List (S40), y_ = (([] : List (S40))) := ⟨_, rfl⟩
 replace H : (if y253.length + l0_2.length < 2932031007402 then ((some (y253 ++ l0_2 : List (S40))).bind fun y256 => ((some (([(⟨a0_4, (⟨a0_5, a0_6, a0_7⟩ : S38)⟩ : S40), (⟨a0_8, (⟨a0_9, a0_10, a0_11⟩ : S38)⟩ : S40), (⟨a0_12, (⟨a0_13, a0_14, a0_15⟩ : S38)⟩ : S40)] : List (S40)) : List (S40))).bind fun y259 => (if y256.length + y259.length < 2932031007402 then (some (y256 ++ y259)) else (none)))) else (none)) = some r := by first | (rw [hy253]; with_reducible exact H) | (have H2_ := (Option.bind_some _ _).symm.trans H; rw [hy253]; with_reducible exact H2_) | (have H2_ := (Option.bind_some _ _).symm.trans H; with_reducible exact H2_) | with_reducible exact H | (rw [hy253]; exact H) | exact H
 have Ny253 := zb.mk hy253
 clear hy253
 by_cases c2 : y253.length + l0_2.length < 2932031007402
 ·rw [if_pos c2] at H
  have LMc2 := zb.mk c2
  clear c2
  obtain ⟨y256, hy256⟩ : ∃ y_ : List (S40), y_ = (y253 ++ l0_2) := ⟨_, rfl⟩
  replace H : ((some (([(⟨a0_4, (⟨a0_5, a0_6, a0_7⟩ : S38)⟩ : S40), (⟨a0_8, (⟨a0_9, a0_10, a0_11⟩ : S38)⟩ : S40), (⟨a0_12, (⟨a0_13, a0_14, a0_15⟩ : S38)⟩ : S40)] : List (S40)) : List (S40))).bind fun y259 => (if y256.length + y259.length < 2932031007402 then (some (y256 ++ y259)) else (none))) = some r := by first | (rw [hy256]; with_reducible exact H) | (have H2_ := (Option.bind_some _ _).symm.trans H; rw [hy256]; with_reducible exact H2_) | (have H2_ := (Option.bind_some _ _).symm.trans H; with_reducible exact H2_) | with_reducible exact H | (rw [hy256]; exact H) | exact H
  have Ny256 := zb.mk hy256
  clear hy256
  obtain ⟨y259, hy259⟩ : ∃ y_ : List (S40), y_ = (([(⟨a0_4, (⟨a0_5, a0_6, a0_7⟩ : S38)⟩ : S40), (⟨a0_8, (⟨a0_9, a0_10, a0_11⟩ : S38)⟩ : S40), (⟨a0_12, (⟨a0_13, a0_14, a0_15⟩ : S38)⟩ : S40)] : List (S40))) := ⟨_, rfl⟩
  replace H : (if y256.length + y259.length < 2932031007402 then (some (y256 ++ y259)) else (none)) = some r := by first | (rw [hy259]; with_reducible exact H) | (have H2_ := (Option.bind_some _ _).symm.trans H; rw [hy259]; with_reducible exact H2_) | (have H2_ := (Option.bind_some _ _).symm.trans H; with_reducible exact H2_) | with_reducible exact H | (rw [hy259]; exact H) | exact H
  have Ny259 := zb.mk hy259
  clear hy259
  by_cases c3 : y256.length + y259.length < 2932031007402
  ·rw [if_pos c3] at H
   have LMc3 := zb.mk c3
   clear c3
   obtain ⟨y262, hy262⟩ : ∃ y_ : List (S40), y_ = (y256 ++ y259) := ⟨_, rfl⟩
   replace H : (some y262) = some r := by first | (rw [hy262]; with_reducible exact H) | (have H2_ := (Option.bind_some _ _).symm.trans H; rw [hy262]; with_reducible exact H2_) | (have H2_ := (Option.bind_some _ _).symm.trans H; with_reducible exact H2_) | with_reducible exact H | (rw [hy262]; exact H) | exact H
   have Ny262 := zb.mk hy262
   clear hy262
   obtain rfl := Option.some.inj H
   go_enter Try.func31, Try.ntmps31
   try go_wp2_with (first | ((with_reducible refine zQ (N := 1) rfl ?_); refine zM ?hg (N := 1) ?hd (cs := #[.int .i64 a0_0, .string a0_1, .slice A0_2 l0_2.length c0_2, .string a0_3, .string a0_4, .int .i64 a0_5, .int .i64 a0_6, .string a0_7, .string a0_8, .int .i64 a0_9, .int .i64 a0_10, .string a0_11, .string a0_12, .int .i64 a0_13, .int .i64 a0_14, .string a0_15, .slice A0_16 l0_16.length c0_16]) (t := 43) ?hr ?_; (case hd => rfl); (case hg => rfl); (case hr => first | (go_simp; done) | (go_simp; rfl)); intro gb252 hg w4 hbox hb; have n0_ := zb.mk (zn (ub HB.out) hb); have n1_ := zb.mk (hbox); have n2_ := zb.mk ((by rw [hg]; exact (zi (ub HB.out)) : w.heap.size ≤ gb252)); have n3_ := zb.mk ((by rw [hg]; exact (zi (ub HB.out)) : w.heap.size ≤ gb252)); clear HB; have HB := n0_; have BK252 := n1_; have GW252 := n2_; have GE252 := n3_; clear n0_ n1_ n2_ n3_; clear hb hbox hg))
   have n0_ := zb.mk (zD BK252.out)
   have n1_ := zb.mk (ze HB.out)
   clear BK252
   clear HB
   have BK252 := n0_
   have HB := n1_
   clear n0_ n1_
   refine start_ (n := 14) (S := fun w' => w'.cell? ⟨gb252, 0, none⟩ = some (.int .i64 a0_0) ∧ w'.cell? ⟨gb252, 1, none⟩ = some (.string a0_1) ∧ w'.cell? ⟨gb252, 2, none⟩ = some (.slice A0_2 l0_2.length c0_2) ∧ w'.cell? ⟨gb252, 3, none⟩ = some (.string a0_3) ∧ w'.cell? ⟨gb252, 4, none⟩ = some (.string a0_4) ∧ w'.cell? ⟨gb252, 5, none⟩ = some (.int .i64 a0_5) ∧ w'.cell? ⟨gb252, 6, none⟩ = some (.int .i64 a0_6) ∧ w'.cell? ⟨gb252, 7, none⟩ = some (.string a0_7) ∧ w'.cell? ⟨gb252, 8, none⟩ = some (.string a0_8) ∧ w'.cell? ⟨gb252, 9, none⟩ = some (.int .i64 a0_9) ∧ w'.cell? ⟨gb252, 10, none⟩ = some (.int .i64 a0_10) ∧ w'.cell? ⟨gb252, 11, none⟩ = some (.string a0_11) ∧ w'.cell? ⟨gb252, 12, none⟩ = some (.string a0_12) ∧ w'.cell? ⟨gb252, 13, none⟩ = some (.int .i64 a0_13) ∧ w'.cell? ⟨gb252, 14, none⟩ = some (.int .i64 a0_14) ∧ w'.cell? ⟨gb252, 15, none⟩ = some (.string a0_15) ∧ w'.cell? ⟨gb252, 16, none⟩ = some (.slice A0_16 l0_16.length c0_16)) (ds := []) #[false, false, false, false, false, false, false, false, false, false, false, false, false, false] (by kernel_rfl) rfl rfl ⟨(zf BK252.out 0).trans rfl, (zf BK252.out 1).trans rfl, (zf BK252.out 2).trans rfl, (zf BK252.out 3).trans rfl, (zf BK252.out 4).trans rfl, (zf BK252.out 5).trans rfl, (zf BK252.out 6).trans rfl, (zf BK252.out 7).trans rfl, (zf BK252.out 8).trans rfl, (zf BK252.out 9).trans rfl, (zf BK252.out 10).trans rfl, (zf BK252.out 11).trans rfl, (zf BK252.out 12).trans rfl, (zf BK252.out 13).trans rfl, (zf BK252.out 14).trans rfl, (zf BK252.out 15).trans rfl, (zf BK252.out 16).trans rfl⟩ (fun hHeld => ?_); refine qw zS.tab1 zS.bits1 (fun HT_ HW_ => ?_)
   generalize w4.drew = w5 at BK252 HB hHeld ⊢
   refine pure_ (i := 1) (N := some 4) (v := ?_) (a' := ?_) #[false, true, false, false, false, false, false, false, false, false, false, false, false, false] rfl rfl (yn HT_.out (by kernel_rfl)) (fun _ _ _ h => h) (Or.inl ⟨by rfl, ?_⟩) ?_ ?_
   rotate_left
   ·intro w'
    go_simp
    with_reducible rfl
   rotate_left
   ·simp only [Act.put, List.setIfInBounds_toArray, List.set_cons_zero, List.set_cons_succ, i64_w, i32_w]
    rfl
   refine pure_ (i := 2) (N := some 5) (v := ?_) (a' := ?_) #[false, true, true, false, false, false, false, false, false, false, false, false, false, false] rfl rfl (yn HT_.out (by kernel_rfl)) (fun _ _ _ h => h) (Or.inl ⟨by rfl, ?_⟩) ?_ ?_
   rotate_left
   ·intro w'
    go_simp
    with_reducible rfl
   rotate_left
   ·simp only [Act.put, List.setIfInBounds_toArray, List.set_cons_zero, List.set_cons_succ, i64_w, i32_w]
    rfl
   refine pure_ (i := 5) (N := some 8) (v := ?_) (a' := ?_) #[false, true, true, false, false, true, false, false, false, false, false, false, false, false] rfl rfl (yn HT_.out (by kernel_rfl)) (fun _ _ _ h => h) (Or.inl ⟨by rfl, ?_⟩) ?_ ?_
   rotate_left
   ·intro w'
    go_simp
    with_reducible rfl
   rotate_left
   ·simp only [Act.put, List.setIfInBounds_toArray, List.set_cons_zero, List.set_cons_succ, i64_w, i32_w]
    rfl
   refine pure_ (i := 7) (N := some 10) (v := ?_) (a' := ?_) #[false, true, true, false, false, true, false, true, false, false, false, false, false, false] rfl rfl (yn HT_.out (by kernel_rfl)) (fun _ _ _ h => h) (Or.inl ⟨by rfl, ?_⟩) ?_ ?_
   rotate_left
   ·intro w'
    go_simp
    with_reducible rfl
   rotate_left
   ·simp only [Act.put, List.setIfInBounds_toArray, List.set_cons_zero, List.set_cons_succ, i64_w, i32_w]
    rfl
   refine pure_ (i := 9) (N := some 12) (v := ?_) (a' := ?_) #[false, true, true, false, false, true, false, true, false, true, false, false, false, false] rfl rfl (yn HT_.out (by kernel_rfl)) (fun _ _ _ h => h) (Or.inl ⟨by rfl, ?_⟩) ?_ ?_
   rotate_left
   ·intro w'
    go_simp
    with_reducible rfl
   rotate_left
   ·simp only [Act.put, List.setIfInBounds_toArray, List.set_cons_zero, List.set_cons_succ, i64_w, i32_w]
    rfl
   refine take_ (i := 3) (N := some 6) (v := ?_) (a' := ?_) #[false, true, true, true, false, true, false, true, false, true, false, false, false, false] rfl rfl (yF HT_.out HW_.out (by kernel_rfl)) (fun _ _ _ h => h) (Or.inl ⟨by rfl, ?_⟩) hHeld ?_ ?_
   rotate_left
   ·rintro w' ⟨s0, s1, s2, s3, s4, s5, s6, s7, s8, s9, s10, s11, s12, s13, s14, s15, s16⟩
    go_simp
    with_reducible rfl
   rotate_left
   ·simp only [Act.put, List.setIfInBounds_toArray, List.set_cons_zero, List.set_cons_succ, i64_w, i32_w]
    rfl
   refine take_ (i := 6) (N := some 9) (v := ?_) (a' := ?_) #[false, true, true, true, false, true, true, true, false, true, false, false, false, false] rfl rfl (yF HT_.out HW_.out (by kernel_rfl)) (fun _ _ _ h => h) (Or.inl ⟨by rfl, ?_⟩) hHeld ?_ ?_
   rotate_left
   ·rintro w' ⟨s0, s1, s2, s3, s4, s5, s6, s7, s8, s9, s10, s11, s12, s13, s14, s15, s16⟩
    go_simp
    with_reducible rfl
   rotate_left
   ·simp only [Act.put, List.setIfInBounds_toArray, List.set_cons_zero, List.set_cons_succ, i64_w, i32_w]
    rfl
   refine take_ (i := 8) (N := some 11) (v := ?_) (a' := ?_) #[false, true, true, true, false, true, true, true, true, true, false, false, false, false] rfl rfl (yF HT_.out HW_.out (by kernel_rfl)) (fun _ _ _ h => h) (Or.inl ⟨by rfl, ?_⟩) hHeld ?_ ?_
   rotate_left
   ·rintro w' ⟨s0, s1, s2, s3, s4, s5, s6, s7, s8, s9, s10, s11, s12, s13, s14, s15, s16⟩
    go_simp
    with_reducible rfl
   rotate_left
   ·simp only [Act.put, List.setIfInBounds_toArray, List.set_cons_zero, List.set_cons_succ, i64_w, i32_w]
    rfl
   refine take_ (i := 10) (N := some 13) (v := ?_) (a' := ?_) #[false, true, true, true, false, true, true, true, true, true, true, false, false, false] rfl rfl (yF HT_.out HW_.out (by kernel_rfl)) (fun _ _ _ h => h) (Or.inl ⟨by rfl, ?_⟩) hHeld ?_ ?_
   rotate_left
   ·rintro w' ⟨s0, s1, s2, s3, s4, s5, s6, s7, s8, s9, s10, s11, s12, s13, s14, s15, s16⟩
    go_simp
    with_reducible rfl
   rotate_left
   ·simp only [Act.put, List.setIfInBounds_toArray, List.set_cons_zero, List.set_cons_succ, i64_w, i32_w]
    rfl
   refine join_ (σ := Value × Value × Value) 2 #[true, true, true, true, true, true, true, true, true, true, true, true, false, false] (fun s_ => [(3, s_.1), (7, s_.2.1), (14, s_.2.2)]) (fun s_ w' => (w'.cell? ⟨gb252, 0, none⟩ = some (.int .i64 a0_0) ∧ w'.cell? ⟨gb252, 1, none⟩ = some (.string a0_1) ∧ w'.cell? ⟨gb252, 2, none⟩ = some (.slice A0_2 l0_2.length c0_2) ∧ w'.cell? ⟨gb252, 3, none⟩ = some (.string a0_3) ∧ w'.cell? ⟨gb252, 4, none⟩ = some (.string a0_4) ∧ w'.cell? ⟨gb252, 5, none⟩ = some (.int .i64 a0_5) ∧ w'.cell? ⟨gb252, 6, none⟩ = some (.int .i64 a0_6) ∧ w'.cell? ⟨gb252, 7, none⟩ = some (.string a0_7) ∧ w'.cell? ⟨gb252, 8, none⟩ = some (.string a0_8) ∧ w'.cell? ⟨gb252, 9, none⟩ = some (.int .i64 a0_9) ∧ w'.cell? ⟨gb252, 10, none⟩ = some (.int .i64 a0_10) ∧ w'.cell? ⟨gb252, 11, none⟩ = some (.string a0_11) ∧ w'.cell? ⟨gb252, 12, none⟩ = some (.string a0_12) ∧ w'.cell? ⟨gb252, 13, none⟩ = some (.int .i64 a0_13) ∧ w'.cell? ⟨gb252, 14, none⟩ = some (.int .i64 a0_14) ∧ w'.cell? ⟨gb252, 15, none⟩ = some (.string a0_15) ∧ w'.cell? ⟨gb252, 16, none⟩ = some (.slice A0_16 l0_16.length c0_16)) ∧ (Kd.R k40 40 w' w.heap.size (fun k_ => some k_ ≠ (s_.2.2 : Value).ownBlock) s_.2.1 y256) ∧ (Kd.R k40 40 w' w.heap.size (fun k_ => some k_ ≠ (s_.2.1 : Value).ownBlock) s_.2.2 y259) ∧ (w'.heap[gb252]? = some (.cells #[.int .i64 a0_0, .string a0_1, .slice A0_2 l0_2.length c0_2, .string a0_3, .string a0_4, .int .i64 a0_5, .int .i64 a0_6, .string a0_7, .string a0_8, .int .i64 a0_9, .int .i64 a0_10, .string a0_11, .string a0_12, .int .i64 a0_13, .int .i64 a0_14, .string a0_15, .slice A0_16 l0_16.length c0_16] 43 (0, 0))) ∧ (Below w.heap.size w w')) ?_ ?_
   rotate_left
   ·intro hCont
    refine two_ (i := 0) (j := 11) (Ni := some 3) (Nj := some 14) #[true, true, true, true, false, true, true, true, true, true, true, false, false, false] #[false, true, true, true, false, true, true, true, true, true, true, true, false, false] rfl rfl rfl rfl (two_of HT_.out (by kernel_rfl)) (by decide) (by decide) (fun K hK => ?_) (fun K hK => ?_)
    ·skip
     refine Kd.R_lit_step k40 _ 40 ?hg (N := 3) ?hd (xs := ([] : List (S40))) (inner := []) (ok := fun _ => True) (okp := fun _ => True) ?hr ?hp (fun _ hk => hk) trivial (Below.refl _ _) (Nat.le_refl _) (by simp) ?_; (case hd => rfl); (case hg => rfl); (case hr => first | (go_simp; done) | (go_simp; rfl)); (case hp => exact (Reps.none _ _))
     intro v254 w6 ho7 hb hg_ hnew_
     clear hg_ hnew_
     (first | rw [← Ny253.out] at ho7 | (simp only [Int.reduceToNat] at ho7; rw [← Ny253.out] at ho7))
     have n0_ := zb.mk (Kd.yr ho7 (zi (by repeat (first | exact ub HB.out | apply zd | apply zc | apply ze | refine zh ?_ ‹_›))))
     have n1_ := zb.mk (zo (ul BK252.out) hb)
     have n2_ := zb.mk (zn (by repeat (first | exact ub HB.out | apply zd | apply zc | apply ze | refine zh ?_ ‹_›)) hb)
     clear BK252
     clear HB
     have HO255 := n0_
     have BK252 := n1_
     have HB := n2_
     clear n0_ n1_ n2_
     clear hb ho7
     refine hK.out _ _ ⟨(zf BK252.out 0).trans rfl, (zf BK252.out 1).trans rfl, (zf BK252.out 2).trans rfl, (zf BK252.out 3).trans rfl, (zf BK252.out 4).trans rfl, (zf BK252.out 5).trans rfl, (zf BK252.out 6).trans rfl, (zf BK252.out 7).trans rfl, (zf BK252.out 8).trans rfl, (zf BK252.out 9).trans rfl, (zf BK252.out 10).trans rfl, (zf BK252.out 11).trans rfl, (zf BK252.out 12).trans rfl, (zf BK252.out 13).trans rfl, (zf BK252.out 14).trans rfl, (zf BK252.out 15).trans rfl, (zf BK252.out 16).trans rfl⟩ (fun hHeld => ?_)
     clear hK K
     refine norm_ (a' := ?_) ?_ ?_
     rotate_left
     ·show Act.put _ (some 3) _ = _
      simp only [Act.put, List.setIfInBounds_toArray, List.set_cons_zero, List.set_cons_succ, i64_w, i32_w]
      rfl
     refine two_ (i := 4) (j := 11) (Ni := some 7) (Nj := some 14) #[true, true, true, true, true, true, true, true, true, true, true, false, false, false] #[true, true, true, true, false, true, true, true, true, true, true, true, false, false] rfl rfl rfl rfl (two_of HT_.out (by kernel_rfl)) (by decide) (by decide) (fun K hK => ?_) (fun K hK => ?_)
     ·skip
      refine Kd.qo k40 (w0 := w) w.heap.size (by rfl) (.tmp 3) (.tmp 6) 34 40 (.agg #[(.string ⟨#[]⟩), (.int .i64 0), (.int .i64 0), (.string ⟨#[]⟩)]) 48 rfl Try.underlying34 info40 rfl (by decide) (by omega) v254 y253 l0_2 _ _ _ (fun _ => True) (fun _ => False) rfl rfl ?aO ?aR (fun _ _ h => h) (fun _ h => h.elim) ?aF ?aB ?aS ?aL ?_
      (case aR => exact uc (Kd.zL HR0_2.out HB.out))
      (case aB => exact (by repeat (first | exact ub HB.out | apply zd | apply zc | apply ze | refine zh ?_ ‹_›)))
      (case aF => exact (fun _ _ => trivial))
      (case aO => exact (ur HO255.out))
      (case aS => exact (zi (by repeat (first | exact ub HB.out | apply zd | apply zc | apply ze | refine zh ?_ ‹_›))))
      (case aL => have := LMc2.out; omega)
      intro v257 w8 ho hb hg hat
      rw [← Ny256.out] at ho
      have n0_ := zb.mk (yL (ul BK252.out) hg (Kd.R_ne HO255.out BK252.out (by decide)))
      have n1_ := zb.mk (hb)
      have n2_ := zb.mk (ho)
      clear BK252
      clear HB
      clear HO255
      have BK252 := n0_
      have HB := n1_
      have HO258 := n2_
      clear n0_ n1_ n2_
      clear ho hb hg hat
      refine hK.out _ _ ⟨(zf BK252.out 0).trans rfl, (zf BK252.out 1).trans rfl, (zf BK252.out 2).trans rfl, (zf BK252.out 3).trans rfl, (zf BK252.out 4).trans rfl, (zf BK252.out 5).trans rfl, (zf BK252.out 6).trans rfl, (zf BK252.out 7).trans rfl, (zf BK252.out 8).trans rfl, (zf BK252.out 9).trans rfl, (zf BK252.out 10).trans rfl, (zf BK252.out 11).trans rfl, (zf BK252.out 12).trans rfl, (zf BK252.out 13).trans rfl, (zf BK252.out 14).trans rfl, (zf BK252.out 15).trans rfl, (zf BK252.out 16).trans rfl⟩ (fun hHeld => ?_)
      clear hK K
      refine norm_ (a' := ?_) ?_ ?_
      rotate_left
      ·show Act.put _ (some 7) _ = _
       simp only [Act.put, List.setIfInBounds_toArray, List.set_cons_zero, List.set_cons_succ, i64_w, i32_w]
       rfl
      refine one_ (i := 11) (N := some 14) #[true, true, true, true, true, true, true, true, true, true, true, true, false, false] rfl rfl (ql HT_.out (by kernel_rfl)) (by decide) (fun K hK => ?_)
      refine Kd.R_lit_step k40 _ 40 ?hg (N := 14) ?hd (xs := ([(⟨a0_4, (⟨a0_5, a0_6, a0_7⟩ : S38)⟩ : S40), (⟨a0_8, (⟨a0_9, a0_10, a0_11⟩ : S38)⟩ : S40), (⟨a0_12, (⟨a0_13, a0_14, a0_15⟩ : S38)⟩ : S40)] : List (S40))) (inner := [.string a0_4, .int .i64 a0_5, .int .i64 a0_6, .string a0_7, .string a0_8, .int .i64 a0_9, .int .i64 a0_10, .string a0_11, .string a0_12, .int .i64 a0_13, .int .i64 a0_14, .string a0_15]) (ok := fun _ => True) (okp := fun _ => True) ?hr ?hp (fun _ hk => hk) trivial (Below.refl _ _) (Nat.le_refl _) (by simp) ?_; (case hd => rfl); (case hg => rfl); (case hr => first | (go_simp; done) | (go_simp; rfl)); (case hp => exact (Reps.c4 (show Kd.M k40 _ _ _ (⟨a0_4, (⟨a0_5, a0_6, a0_7⟩ : S38)⟩ : S40) [.string a0_4, .int .i64 a0_5, .int .i64 a0_6, .string a0_7] from (qF _ _ _ (⟨a0_4, (⟨a0_5, a0_6, a0_7⟩ : S38)⟩ : S40) )) (Reps.c4 (show Kd.M k40 _ _ _ (⟨a0_8, (⟨a0_9, a0_10, a0_11⟩ : S38)⟩ : S40) [.string a0_8, .int .i64 a0_9, .int .i64 a0_10, .string a0_11] from (qF _ _ _ (⟨a0_8, (⟨a0_9, a0_10, a0_11⟩ : S38)⟩ : S40) )) (Reps.c4 (show Kd.M k40 _ _ _ (⟨a0_12, (⟨a0_13, a0_14, a0_15⟩ : S38)⟩ : S40) [.string a0_12, .int .i64 a0_13, .int .i64 a0_14, .string a0_15] from (qF _ _ _ (⟨a0_12, (⟨a0_13, a0_14, a0_15⟩ : S38)⟩ : S40) )) (Reps.none _ _)))))
      intro v260 w9 ho10 hb hg_ hnew_
      clear hg_ hnew_
      (first | rw [← Ny259.out] at ho10 | (simp only [Int.reduceToNat] at ho10; rw [← Ny259.out] at ho10))
      have n0_ := zb.mk (Kd.qH (ur HO258.out) (Kd.yI ho10) hb)
      have n1_ := zb.mk (Kd.yr (Kd.R_new' ho10 (Kd.R_lt (ur HO258.out))) (zi (by repeat (first | exact ub HB.out | apply zd | apply zc | apply ze | refine zh ?_ ‹_›))))
      have n2_ := zb.mk (zo (ul BK252.out) hb)
      have n3_ := zb.mk (zn (by repeat (first | exact ub HB.out | apply zd | apply zc | apply ze | refine zh ?_ ‹_›)) hb)
      clear HO258
      clear BK252
      clear HB
      have HO258 := n0_
      have HO261 := n1_
      have BK252 := n2_
      have HB := n3_
      clear n0_ n1_ n2_ n3_
      clear hb ho10
      refine hK.out _ _ ⟨(zf BK252.out 0).trans rfl, (zf BK252.out 1).trans rfl, (zf BK252.out 2).trans rfl, (zf BK252.out 3).trans rfl, (zf BK252.out 4).trans rfl, (zf BK252.out 5).trans rfl, (zf BK252.out 6).trans rfl, (zf BK252.out 7).trans rfl, (zf BK252.out 8).trans rfl, (zf BK252.out 9).trans rfl, (zf BK252.out 10).trans rfl, (zf BK252.out 11).trans rfl, (zf BK252.out 12).trans rfl, (zf BK252.out 13).trans rfl, (zf BK252.out 14).trans rfl, (zf BK252.out 15).trans rfl, (zf BK252.out 16).trans rfl⟩ (fun hHeld => ?_)
      clear hK K
      refine norm_ (a' := ?_) ?_ ?_
      rotate_left
      ·show Act.put _ (some 14) _ = _
       simp only [Act.put, List.setIfInBounds_toArray, List.set_cons_zero, List.set_cons_succ, i64_w, i32_w]
       rfl
      exact norm_ (by simp only [putAll, Act.put, List.setIfInBounds_toArray, List.set_cons_zero, List.set_cons_succ]) (hCont (v254, v257, v260) _ ⟨hHeld, (ur (Kd.yt HO258.out (fun _ hk => hk.2))), (ur (Kd.yt HO261.out (fun _ hk => hk.2))), (ul BK252.out), (by repeat (first | exact ub HB.out | apply zd | apply zc | apply ze | refine zh ?_ ‹_›))⟩)
     ·skip
      refine Kd.R_lit_step k40 _ 40 ?hg (N := 14) ?hd (xs := ([(⟨a0_4, (⟨a0_5, a0_6, a0_7⟩ : S38)⟩ : S40), (⟨a0_8, (⟨a0_9, a0_10, a0_11⟩ : S38)⟩ : S40), (⟨a0_12, (⟨a0_13, a0_14, a0_15⟩ : S38)⟩ : S40)] : List (S40))) (inner := [.string a0_4, .int .i64 a0_5, .int .i64 a0_6, .string a0_7, .string a0_8, .int .i64 a0_9, .int .i64 a0_10, .string a0_11, .string a0_12, .int .i64 a0_13, .int .i64 a0_14, .string a0_15]) (ok := fun _ => True) (okp := fun _ => True) ?hr ?hp (fun _ hk => hk) trivial (Below.refl _ _) (Nat.le_refl _) (by simp) ?_; (case hd => rfl); (case hg => rfl); (case hr => first | (go_simp; done) | (go_simp; rfl)); (case hp => exact (Reps.c4 (show Kd.M k40 _ _ _ (⟨a0_4, (⟨a0_5, a0_6, a0_7⟩ : S38)⟩ : S40) [.string a0_4, .int .i64 a0_5, .int .i64 a0_6, .string a0_7] from (qF _ _ _ (⟨a0_4, (⟨a0_5, a0_6, a0_7⟩ : S38)⟩ : S40) )) (Reps.c4 (show Kd.M k40 _ _ _ (⟨a0_8, (⟨a0_9, a0_10, a0_11⟩ : S38)⟩ : S40) [.string a0_8, .int .i64 a0_9, .int .i64 a0_10, .string a0_11] from (qF _ _ _ (⟨a0_8, (⟨a0_9, a0_10, a0_11⟩ : S38)⟩ : S40) )) (Reps.c4 (show Kd.M k40 _ _ _ (⟨a0_12, (⟨a0_13, a0_14, a0_15⟩ : S38)⟩ : S40) [.string a0_12, .int .i64 a0_13, .int .i64 a0_14, .string a0_15] from (qF _ _ _ (⟨a0_12, (⟨a0_13, a0_14, a0_15⟩ : S38)⟩ : S40) )) (Reps.none _ _)))))
      intro v260 w8 ho9 hb hg_ hnew_
      clear hg_ hnew_
      (first | rw [← Ny259.out] at ho9 | (simp only [Int.reduceToNat] at ho9; rw [← Ny259.out] at ho9))
      have n0_ := zb.mk (Kd.qH (ur HO255.out) (Kd.yI ho9) hb)
      have n1_ := zb.mk (Kd.yr (Kd.R_new' ho9 (Kd.R_lt (ur HO255.out))) (zi (by repeat (first | exact ub HB.out | apply zd | apply zc | apply ze | refine zh ?_ ‹_›))))
      have n2_ := zb.mk (zo (ul BK252.out) hb)
      have n3_ := zb.mk (zn (by repeat (first | exact ub HB.out | apply zd | apply zc | apply ze | refine zh ?_ ‹_›)) hb)
      clear HO255
      clear BK252
      clear HB
      have HO255 := n0_
      have HO261 := n1_
      have BK252 := n2_
      have HB := n3_
      clear n0_ n1_ n2_ n3_
      clear hb ho9
      refine hK.out _ _ ⟨(zf BK252.out 0).trans rfl, (zf BK252.out 1).trans rfl, (zf BK252.out 2).trans rfl, (zf BK252.out 3).trans rfl, (zf BK252.out 4).trans rfl, (zf BK252.out 5).trans rfl, (zf BK252.out 6).trans rfl, (zf BK252.out 7).trans rfl, (zf BK252.out 8).trans rfl, (zf BK252.out 9).trans rfl, (zf BK252.out 10).trans rfl, (zf BK252.out 11).trans rfl, (zf BK252.out 12).trans rfl, (zf BK252.out 13).trans rfl, (zf BK252.out 14).trans rfl, (zf BK252.out 15).trans rfl, (zf BK252.out 16).trans rfl⟩ (fun hHeld => ?_)
      clear hK K
      refine norm_ (a' := ?_) ?_ ?_
      rotate_left
      ·show Act.put _ (some 14) _ = _
       simp only [Act.put, List.setIfInBounds_toArray, List.set_cons_zero, List.set_cons_succ, i64_w, i32_w]
       rfl
      refine one_ (i := 4) (N := some 7) #[true, true, true, true, true, true, true, true, true, true, true, true, false, false] rfl rfl (ql HT_.out (by kernel_rfl)) (by decide) (fun K hK => ?_)
      refine Kd.qo k40 (w0 := w) w.heap.size (by rfl) (.tmp 3) (.tmp 6) 34 40 (.agg #[(.string ⟨#[]⟩), (.int .i64 0), (.int .i64 0), (.string ⟨#[]⟩)]) 48 rfl Try.underlying34 info40 rfl (by decide) (by omega) v254 y253 l0_2 _ _ _ (fun k_ => some k_ ≠ (v260 : Value).ownBlock) (fun _ => False) rfl rfl ?aO ?aR (fun _ _ h => h) (fun _ h => h.elim) ?aF ?aB ?aS ?aL ?_
      (case aR => exact uc (Kd.zL HR0_2.out HB.out))
      (case aB => exact (by repeat (first | exact ub HB.out | apply zd | apply zc | apply ze | refine zh ?_ ‹_›)))
      (case aF => exact (fun k_ hk => Kd.fresh' (Kd.R_lt (ur HO261.out)) k_ hk))
      (case aO => exact (ur (Kd.yt HO255.out (fun _ hk => hk.2))))
      (case aS => exact (zi (by repeat (first | exact ub HB.out | apply zd | apply zc | apply ze | refine zh ?_ ‹_›))))
      (case aL => have := LMc2.out; omega)
      intro v257 w10 ho hb hg hat
      rw [← Ny256.out] at ho
      have n0_ := zb.mk (yL (ul BK252.out) hg (Kd.R_ne HO255.out BK252.out (by decide)))
      have n1_ := zb.mk (Kd.R_after (ok := (fun _ => True)) (ur HO261.out) hg hat)
      have n2_ := zb.mk (hb)
      have n3_ := zb.mk (ho)
      clear BK252
      clear HO261
      clear HB
      clear HO255
      have BK252 := n0_
      have HO261 := n1_
      have HB := n2_
      have HO258 := n3_
      clear n0_ n1_ n2_ n3_
      clear ho hb hg hat
      refine hK.out _ _ ⟨(zf BK252.out 0).trans rfl, (zf BK252.out 1).trans rfl, (zf BK252.out 2).trans rfl, (zf BK252.out 3).trans rfl, (zf BK252.out 4).trans rfl, (zf BK252.out 5).trans rfl, (zf BK252.out 6).trans rfl, (zf BK252.out 7).trans rfl, (zf BK252.out 8).trans rfl, (zf BK252.out 9).trans rfl, (zf BK252.out 10).trans rfl, (zf BK252.out 11).trans rfl, (zf BK252.out 12).trans rfl, (zf BK252.out 13).trans rfl, (zf BK252.out 14).trans rfl, (zf BK252.out 15).trans rfl, (zf BK252.out 16).trans rfl⟩ (fun hHeld => ?_)
      clear hK K
      refine norm_ (a' := ?_) ?_ ?_
      rotate_left
      ·show Act.put _ (some 7) _ = _
       simp only [Act.put, List.setIfInBounds_toArray, List.set_cons_zero, List.set_cons_succ, i64_w, i32_w]
       rfl
      exact norm_ (by simp only [putAll, Act.put, List.setIfInBounds_toArray, List.set_cons_zero, List.set_cons_succ]) (hCont (v254, v257, v260) _ ⟨hHeld, (ur HO258.out), (ur (Kd.yt HO261.out (fun _ hk => hk.2))), (ul BK252.out), (by repeat (first | exact ub HB.out | apply zd | apply zc | apply ze | refine zh ?_ ‹_›))⟩)
    ·skip
     refine Kd.R_lit_step k40 _ 40 ?hg (N := 14) ?hd (xs := ([(⟨a0_4, (⟨a0_5, a0_6, a0_7⟩ : S38)⟩ : S40), (⟨a0_8, (⟨a0_9, a0_10, a0_11⟩ : S38)⟩ : S40), (⟨a0_12, (⟨a0_13, a0_14, a0_15⟩ : S38)⟩ : S40)] : List (S40))) (inner := [.string a0_4, .int .i64 a0_5, .int .i64 a0_6, .string a0_7, .string a0_8, .int .i64 a0_9, .int .i64 a0_10, .string a0_11, .string a0_12, .int .i64 a0_13, .int .i64 a0_14, .string a0_15]) (ok := fun _ => True) (okp := fun _ => True) ?hr ?hp (fun _ hk => hk) trivial (Below.refl _ _) (Nat.le_refl _) (by simp) ?_; (case hd => rfl); (case hg => rfl); (case hr => first | (go_simp; done) | (go_simp; rfl)); (case hp => exact (Reps.c4 (show Kd.M k40 _ _ _ (⟨a0_4, (⟨a0_5, a0_6, a0_7⟩ : S38)⟩ : S40) [.string a0_4, .int .i64 a0_5, .int .i64 a0_6, .string a0_7] from (qF _ _ _ (⟨a0_4, (⟨a0_5, a0_6, a0_7⟩ : S38)⟩ : S40) )) (Reps.c4 (show Kd.M k40 _ _ _ (⟨a0_8, (⟨a0_9, a0_10, a0_11⟩ : S38)⟩ : S40) [.string a0_8, .int .i64 a0_9, .int .i64 a0_10, .string a0_11] from (qF _ _ _ (⟨a0_8, (⟨a0_9, a0_10, a0_11⟩ : S38)⟩ : S40) )) (Reps.c4 (show Kd.M k40 _ _ _ (⟨a0_12, (⟨a0_13, a0_14, a0_15⟩ : S38)⟩ : S40) [.string a0_12, .int .i64 a0_13, .int .i64 a0_14, .string a0_15] from (qF _ _ _ (⟨a0_12, (⟨a0_13, a0_14, a0_15⟩ : S38)⟩ : S40) )) (Reps.none _ _)))))
     intro v260 w6 ho7 hb hg_ hnew_
     clear hg_ hnew_
     (first | rw [← Ny259.out] at ho7 | (simp only [Int.reduceToNat] at ho7; rw [← Ny259.out] at ho7))
     have n0_ := zb.mk (Kd.yr ho7 (zi (by repeat (first | exact ub HB.out | apply zd | apply zc | apply ze | refine zh ?_ ‹_›))))
     have n1_ := zb.mk (zo (ul BK252.out) hb)
     have n2_ := zb.mk (zn (by repeat (first | exact ub HB.out | apply zd | apply zc | apply ze | refine zh ?_ ‹_›)) hb)
     clear BK252
     clear HB
     have HO261 := n0_
     have BK252 := n1_
     have HB := n2_
     clear n0_ n1_ n2_
     clear hb ho7
     refine hK.out _ _ ⟨(zf BK252.out 0).trans rfl, (zf BK252.out 1).trans rfl, (zf BK252.out 2).trans rfl, (zf BK252.out 3).trans rfl, (zf BK252.out 4).trans rfl, (zf BK252.out 5).trans rfl, (zf BK252.out 6).trans rfl, (zf BK252.out 7).trans rfl, (zf BK252.out 8).trans rfl, (zf BK252.out 9).trans rfl, (zf BK252.out 10).trans rfl, (zf BK252.out 11).trans rfl, (zf BK252.out 12).trans rfl, (zf BK252.out 13).trans rfl, (zf BK252.out 14).trans rfl, (zf BK252.out 15).trans rfl, (zf BK252.out 16).trans rfl⟩ (fun hHeld => ?_)
     clear hK K
     refine norm_ (a' := ?_) ?_ ?_
     rotate_left
     ·show Act.put _ (some 14) _ = _
      simp only [Act.put, List.setIfInBounds_toArray, List.set_cons_zero, List.set_cons_succ, i64_w, i32_w]
      rfl
     refine one_ (i := 0) (N := some 3) #[true, true, true, true, false, true, true, true, true, true, true, true, false, false] rfl rfl (ql HT_.out (by kernel_rfl)) (by decide) (fun K hK => ?_)
     refine Kd.R_lit_step k40 _ 40 ?hg (N := 3) ?hd (xs := ([] : List (S40))) (inner := []) (ok := fun _ => True) (okp := fun _ => True) ?hr ?hp (fun _ hk => hk) trivial (Below.refl _ _) (Nat.le_refl _) (by simp) ?_; (case hd => rfl); (case hg => rfl); (case hr => first | (go_simp; done) | (go_simp; rfl)); (case hp => exact (Reps.none _ _))
     intro v254 w8 ho9 hb hg_ hnew_
     clear hg_ hnew_
     (first | rw [← Ny253.out] at ho9 | (simp only [Int.reduceToNat] at ho9; rw [← Ny253.out] at ho9))
     have n0_ := zb.mk (Kd.qH (ur HO261.out) (Kd.yI ho9) hb)
     have n1_ := zb.mk (Kd.yr (Kd.R_new' ho9 (Kd.R_lt (ur HO261.out))) (zi (by repeat (first | exact ub HB.out | apply zd | apply zc | apply ze | refine zh ?_ ‹_›))))
     have n2_ := zb.mk (zo (ul BK252.out) hb)
     have n3_ := zb.mk (zn (by repeat (first | exact ub HB.out | apply zd | apply zc | apply ze | refine zh ?_ ‹_›)) hb)
     clear HO261
     clear BK252
     clear HB
     have HO261 := n0_
     have HO255 := n1_
     have BK252 := n2_
     have HB := n3_
     clear n0_ n1_ n2_ n3_
     clear hb ho9
     refine hK.out _ _ ⟨(zf BK252.out 0).trans rfl, (zf BK252.out 1).trans rfl, (zf BK252.out 2).trans rfl, (zf BK252.out 3).trans rfl, (zf BK252.out 4).trans rfl, (zf BK252.out 5).trans rfl, (zf BK252.out 6).trans rfl, (zf BK252.out 7).trans rfl, (zf BK252.out 8).trans rfl, (zf BK252.out 9).trans rfl, (zf BK252.out 10).trans rfl, (zf BK252.out 11).trans rfl, (zf BK252.out 12).trans rfl, (zf BK252.out 13).trans rfl, (zf BK252.out 14).trans rfl, (zf BK252.out 15).trans rfl, (zf BK252.out 16).trans rfl⟩ (fun hHeld => ?_)
     clear hK K
     refine norm_ (a' := ?_) ?_ ?_
     rotate_left
     ·show Act.put _ (some 3) _ = _
      simp only [Act.put, List.setIfInBounds_toArray, List.set_cons_zero, List.set_cons_succ, i64_w, i32_w]
      rfl
     refine one_ (i := 4) (N := some 7) #[true, true, true, true, true, true, true, true, true, true, true, true, false, false] rfl rfl (ql HT_.out (by kernel_rfl)) (by decide) (fun K hK => ?_)
     refine Kd.qo k40 (w0 := w) w.heap.size (by rfl) (.tmp 3) (.tmp 6) 34 40 (.agg #[(.string ⟨#[]⟩), (.int .i64 0), (.int .i64 0), (.string ⟨#[]⟩)]) 48 rfl Try.underlying34 info40 rfl (by decide) (by omega) v254 y253 l0_2 _ _ _ (fun k_ => some k_ ≠ (v260 : Value).ownBlock) (fun _ => False) rfl rfl ?aO ?aR (fun _ _ h => h) (fun _ h => h.elim) ?aF ?aB ?aS ?aL ?_
     (case aR => exact uc (Kd.zL HR0_2.out HB.out))
     (case aB => exact (by repeat (first | exact ub HB.out | apply zd | apply zc | apply ze | refine zh ?_ ‹_›)))
     (case aF => exact (fun k_ hk => Kd.fresh' (Kd.R_lt (ur HO261.out)) k_ hk))
     (case aO => exact (ur (Kd.yt HO255.out (fun _ hk => hk.2))))
     (case aS => exact (zi (by repeat (first | exact ub HB.out | apply zd | apply zc | apply ze | refine zh ?_ ‹_›))))
     (case aL => have := LMc2.out; omega)
     intro v257 w10 ho hb hg hat
     rw [← Ny256.out] at ho
     have n0_ := zb.mk (yL (ul BK252.out) hg (Kd.R_ne HO255.out BK252.out (by decide)))
     have n1_ := zb.mk (Kd.R_after (ok := (fun _ => True)) (ur HO261.out) hg hat)
     have n2_ := zb.mk (hb)
     have n3_ := zb.mk (ho)
     clear BK252
     clear HO261
     clear HB
     clear HO255
     have BK252 := n0_
     have HO261 := n1_
     have HB := n2_
     have HO258 := n3_
     clear n0_ n1_ n2_ n3_
     clear ho hb hg hat
     refine hK.out _ _ ⟨(zf BK252.out 0).trans rfl, (zf BK252.out 1).trans rfl, (zf BK252.out 2).trans rfl, (zf BK252.out 3).trans rfl, (zf BK252.out 4).trans rfl, (zf BK252.out 5).trans rfl, (zf BK252.out 6).trans rfl, (zf BK252.out 7).trans rfl, (zf BK252.out 8).trans rfl, (zf BK252.out 9).trans rfl, (zf BK252.out 10).trans rfl, (zf BK252.out 11).trans rfl, (zf BK252.out 12).trans rfl, (zf BK252.out 13).trans rfl, (zf BK252.out 14).trans rfl, (zf BK252.out 15).trans rfl, (zf BK252.out 16).trans rfl⟩ (fun hHeld => ?_)
     clear hK K
     refine norm_ (a' := ?_) ?_ ?_
     rotate_left
     ·show Act.put _ (some 7) _ = _
      simp only [Act.put, List.setIfInBounds_toArray, List.set_cons_zero, List.set_cons_succ, i64_w, i32_w]
      rfl
     exact norm_ (by simp only [putAll, Act.put, List.setIfInBounds_toArray, List.set_cons_zero, List.set_cons_succ]) (hCont (v254, v257, v260) _ ⟨hHeld, (ur HO258.out), (ur (Kd.yt HO261.out (fun _ hk => hk.2))), (ul BK252.out), (by repeat (first | exact ub HB.out | apply zd | apply zc | apply ze | refine zh ?_ ‹_›))⟩)
   rintro ⟨v254, v257, v260⟩ w11 ⟨hS_, h0_, h1_, h2_, h3_⟩
   have n0_ : zb (Kd.R k40 40 w11 w.heap.size (fun k_ => some k_ ≠ (v260 : Value).ownBlock) v257 y256) := ⟨h0_⟩
   have n1_ : zb (Kd.R k40 40 w11 w.heap.size (fun k_ => some k_ ≠ (v257 : Value).ownBlock) v260 y259) := ⟨h1_⟩
   have n2_ : zb (w11.heap[gb252]? = some (.cells #[.int .i64 a0_0, .string a0_1, .slice A0_2 l0_2.length c0_2, .string a0_3, .string a0_4, .int .i64 a0_5, .int .i64 a0_6, .string a0_7, .string a0_8, .int .i64 a0_9, .int .i64 a0_10, .string a0_11, .string a0_12, .int .i64 a0_13, .int .i64 a0_14, .string a0_15, .slice A0_16 l0_16.length c0_16] 43 (0, 0))) := ⟨h2_⟩
   have n3_ : zb (Below w.heap.size w w11) := ⟨h3_⟩
   clear BK252
   clear HB
   clear h0_ h1_ h2_ h3_
   have HO258 := n0_
   have HO261 := n1_
   have BK252 := n2_
   have HB := n3_
   clear n0_ n1_ n2_ n3_
   have hHeld : w11.cell? ⟨gb252, 0, none⟩ = some (.int .i64 a0_0) ∧ w11.cell? ⟨gb252, 1, none⟩ = some (.string a0_1) ∧ w11.cell? ⟨gb252, 2, none⟩ = some (.slice A0_2 l0_2.length c0_2) ∧ w11.cell? ⟨gb252, 3, none⟩ = some (.string a0_3) ∧ w11.cell? ⟨gb252, 4, none⟩ = some (.string a0_4) ∧ w11.cell? ⟨gb252, 5, none⟩ = some (.int .i64 a0_5) ∧ w11.cell? ⟨gb252, 6, none⟩ = some (.int .i64 a0_6) ∧ w11.cell? ⟨gb252, 7, none⟩ = some (.string a0_7) ∧ w11.cell? ⟨gb252, 8, none⟩ = some (.string a0_8) ∧ w11.cell? ⟨gb252, 9, none⟩ = some (.int .i64 a0_9) ∧ w11.cell? ⟨gb252, 10, none⟩ = some (.int .i64 a0_10) ∧ w11.cell? ⟨gb252, 11, none⟩ = some (.string a0_11) ∧ w11.cell? ⟨gb252, 12, none⟩ = some (.string a0_12) ∧ w11.cell? ⟨gb252, 13, none⟩ = some (.int .i64 a0_13) ∧ w11.cell? ⟨gb252, 14, none⟩ = some (.int .i64 a0_14) ∧ w11.cell? ⟨gb252, 15, none⟩ = some (.string a0_15) ∧ w11.cell? ⟨gb252, 16, none⟩ = some (.slice A0_16 l0_16.length c0_16) := hS_
   obtain ⟨Ao13, co13, eo13⟩ := Kd.yx HO261.out
   (first | subst eo13 | (injection eo13 with f1_ f2_ f3_; have f4_ := f1_.symm; have f5_ := f3_.symm; clear f1_ f2_ f3_; subst f4_; subst f5_))
   refine norm_ (a' := ?_) ?_ ?_
   rotate_left
   ·simp only [putAll, Act.put, List.setIfInBounds_toArray, List.set_cons_zero, List.set_cons_succ]
    rfl
   refine one_ (i := 12) (N := some 15) #[true, true, true, true, true, true, true, true, true, true, true, true, true, false] rfl rfl (ql HT_.out (by kernel_rfl)) (by decide) (fun K hK => ?_)
   refine Kd.qo k40 (w0 := w) w.heap.size (by rfl) (.tmp 7) (.tmp 14) 34 40 (.agg #[(.string ⟨#[]⟩), (.int .i64 0), (.int .i64 0), (.string ⟨#[]⟩)]) 48 rfl Try.underlying34 info40 rfl (by decide) (by omega) v257 y256 y259 _ _ _ (fun k_ => some k_ ≠ (.slice Ao13 y259.length co13 : Value).ownBlock) (fun _ => False) rfl rfl ?aO ?aR (fun _ _ h => h) (fun _ h => h.elim) ?aF ?aB ?aS ?aL ?_
   (case aR => repeat (first | exact (Kd.zU HO261.out).2.2 | (with_reducible refine Kd.yw ?_ _) | (with_reducible refine Kd.yv ?_ _) | (with_reducible refine Kd.yP ?_)))
   (case aB => exact (by repeat (first | exact ub HB.out | apply zd | apply zc | apply ze | refine zh ?_ ‹_›)))
   (case aF => exact (fun k_ hk => Kd.fresh' (Kd.R_lt (ur HO261.out)) k_ hk))
   (case aO => exact (ur HO258.out))
   (case aS => exact (zi (by repeat (first | exact ub HB.out | apply zd | apply zc | apply ze | refine zh ?_ ‹_›))))
   (case aL => have := LMc3.out; omega)
   intro v263 w12 ho hb hg hat
   rw [← Ny262.out] at ho
   have n0_ := zb.mk (yL (ul BK252.out) hg (Kd.R_ne HO258.out BK252.out (by decide)))
   have n1_ := zb.mk (Kd.R_after (ok := (fun _ => True)) (ur (Kd.yt HO261.out (fun _ hk => ⟨trivial, hk⟩))) hg hat)
   have n2_ := zb.mk (hb)
   have n3_ := zb.mk (ho)
   clear BK252
   clear HO261
   clear HB
   clear HO258
   have BK252 := n0_
   have HO261 := n1_
   have HB := n2_
   have HO264 := n3_
   clear n0_ n1_ n2_ n3_
   clear ho hb hg hat
   refine hK.out _ _ ⟨(zf BK252.out 0).trans rfl, (zf BK252.out 1).trans rfl, (zf BK252.out 2).trans rfl, (zf BK252.out 3).trans rfl, (zf BK252.out 4).trans rfl, (zf BK252.out 5).trans rfl, (zf BK252.out 6).trans rfl, (zf BK252.out 7).trans rfl, (zf BK252.out 8).trans rfl, (zf BK252.out 9).trans rfl, (zf BK252.out 10).trans rfl, (zf BK252.out 11).trans rfl, (zf BK252.out 12).trans rfl, (zf BK252.out 13).trans rfl, (zf BK252.out 14).trans rfl, (zf BK252.out 15).trans rfl, (zf BK252.out 16).trans rfl⟩ (fun hHeld => ?_)
   clear hK K
   refine norm_ (a' := ?_) ?_ ?_
   rotate_left
   ·show Act.put _ (some 15) _ = _
    simp only [Act.put, List.setIfInBounds_toArray, List.set_cons_zero, List.set_cons_succ, i64_w, i32_w]
    rfl
   refine pure_ (i := 13) (N := some 2) (v := ?_) (a' := ?_) #[true, true, true, true, true, true, true, true, true, true, true, true, true, true] rfl rfl (yn HT_.out (by kernel_rfl)) (fun _ _ _ h => h) (Or.inl ⟨by rfl, ?_⟩) ?_ ?_
   rotate_left
   ·intro w'
    go_simp
    with_reducible rfl
   rotate_left
   ·simp only [Act.put, List.setIfInBounds_toArray, List.set_cons_zero, List.set_cons_succ, i64_w, i32_w]
    rfl
   refine done_ (done_of HT_.out (by kernel_rfl)) ?_
   try go_wp2
   go_ret
   exact ⟨_, by first | rfl | (simp [zA, zz] <;> rfl) | (simp [*, zA, zz] <;> rfl), by (with_reducible repeat (first | apply Kd.qA | apply Kd.qz | apply Kd.R_drew)); exact Kd.yt HO264.out (fun _ hk => trivial), by repeat (first | exact ub HB.out | apply zd | apply zc | apply ze | refine zh ?_ ‹_›)⟩
  ·rw [if_neg c3] at H
   exact absurd H (by simp)
 ·rw [if_neg c2] at H
  exact absurd H (by simp)
end Go.Proofs.Ytmgbfgloegcloaa.Ps
