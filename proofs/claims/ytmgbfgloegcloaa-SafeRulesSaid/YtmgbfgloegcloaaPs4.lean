import Derived.Test.YtmgbfgloegcloaaZip
import Derived.Test.YtmgbfgloegcloaaPsD
import Derived.Test.YtmgbfgloegcloaaGgrow
namespace Go.Proofs.Ytmgbfgloegcloaa.Ps
open Go.RowKit Go.Proofs.YtmgbfgloegcloaaW.PrintWords Go.Proofs.YtmgbfgloegcloaaW.PrintLast Go.Proofs.YtmgbfgloegcloaaW.PrintMore
attribute [local go_sem] yD yB yR yQ ym yl yC yA
set_option linter.unusedVariables false
set_option linter.unusedSimpArgs false
set_option maxHeartbeats 8000000 in
set_option maxRecDepth 100000 in
theorem zV.calls (k : Nat) (A0 : Option Addr) (c0 : Nat) (l0 : List (List (S40))) (r : List (S40)) (w : World) (hr0 : Kd.C (Kd.slice 40 k40) w A0 l0.length l0) (hc0 : l0.length ≤ c0) (h : zV.f k l0 = some r) :
  Calls Try.prog 44 #[.slice A0 l0.length c0] w fun e w' => ∃ v0_ : Value, e = .returned (v0_) ∧ Kd.R k40 40 w' w.heap.size (fun _ => True) v0_ r ∧ Below w.heap.size w w' := by
 have HR0 := zb.mk hr0
 have HC0 := zb.mk hc0
 clear hr0 hc0
 have HB := zb.mk (Below.refl w.heap.size w)
 have H : (zV.l0 k l0 0 l0 (l0.length : Int) 0) = some r := h
 clear h
 have H' := zb.mk H
 clear H
 go_enter Try.func44, Try.ntmps44
 go_wp2
 go_loopg [3, 11] k (fun kq v3 v11 w' => ∃ (x3_1 : Int) (x11_1 : Int), v3 = .int .i64 x3_1 ∧ v11 = .int .i64 x11_1 ∧ zb (zV.l0 kq l0 x3_1 l0 (l0.length : Int) x11_1 = some r) ∧ zb (kq ≤ k) ∧ zb (Below w.heap.size w w'))
 case atStart => exact ⟨(0), (0), (by first | rfl | (simp; done) | (simp [*]; done)), (by first | rfl | (simp; done) | (simp [*]; done)), H', ⟨Nat.le_refl _⟩, ⟨ub HB.out⟩⟩
 case round =>
  clear H'
  obtain ⟨x3_1, x11_1, rfl, rfl, HA, HK1, HB⟩ := hrel
  cases gk with
  | zero => exact absurd HA.out (by simp [zV.l0])
  | succ k1 =>
   have H := HA.out
   clear HA
   simp only [zV.l0] at H
   by_cases c2 : x11_1 < (l0.length : Int)
   ·rw [if_pos c2] at H
    have c2b0 : decide (x11_1 < (l0.length : Int)) = true := decide_eq_true c2
    clear c2
    by_cases c3 : 0 ≤ x11_1
    ·rw [if_pos c3] at H
     have c3b0 : decide (0 ≤ x11_1) = true := decide_eq_true c3
     clear c3
     by_cases c4 : x11_1 < (l0.length : Int)
     ·rw [if_pos c4] at H
      have c4b0 : decide (x11_1 < (l0.length : Int)) = true := decide_eq_true c4
      clear c4
      by_cases c5 : (wrap64 (x3_1 + ((rd_L5 l0 x11_1).length : Int))) < 0
      ·rw [if_pos c5] at H
       exact absurd H (by simp)
      ·rw [if_neg c5] at H
       have c5b0 : decide ((wrap64 (x3_1 + ((rd_L5 l0 x11_1).length : Int))) < 0) = false := decide_eq_false c5
       clear c5
       have H' := zb.mk H
       clear H
       have p113 : 0 ≤ (x11_1 : Int) := zdd
       have q113 : x11_1 < (l0.length : Int) := zdd
       obtain ⟨ad113, A113_0, c113_0, e113, hx113_0, hl113_0, hi113_0⟩ := at_L5 HR0.out x11_1 p113 q113
       cases e113
       replace hx113_0 := zg HB.out hx113_0
       have HR113_0 := zb.mk hi113_0
       have HC113_0 := zb.mk hl113_0
       clear hi113_0 hl113_0
       replace p113 := eq_true p113
       replace q113 := eq_true q113
       go_wp2
       go_roundg k1
       case measure => have := HK1.out; omega
       case rel => exact ⟨(wrap64 (x3_1 + ((rd_L5 l0 x11_1).length : Int))), (wrap64 (x11_1 + 1)), (by first | rfl | (simp; done) | (simp [*]; done)), (by first | rfl | (simp; done) | (simp [*]; done)), H', ⟨by have := HK1.out; omega⟩, ⟨ub HB.out⟩⟩
     ·rw [if_neg c4] at H
      exact absurd H (by simp)
    ·rw [if_neg c3] at H
     exact absurd H (by simp)
   ·rw [if_neg c2] at H
    have c2b0 : decide (x11_1 < (l0.length : Int)) = false := decide_eq_false c2
    clear c2
    replace H := Option.bind_eq_some_iff.mp H
    obtain ⟨t114, A60, H⟩ := H
    replace H : (zV.l1 k1 t114 l0 (l0.length : Int) 0) = some r := H
    have A6 := zb.mk A60
    clear A60
    have H' := zb.mk H
    clear H
    go_wp2_with (first | ((with_reducible refine zP (f := 49) rfl ?_); refine yH (some 24) rfl rfl Try.func49 (by kernel_rfl) rfl #[.slice none 0 0, .int .i64 x3_1] rfl (by (try simp only [List.map_toArray, List.map_cons, List.map_nil]); first | done | rfl | (simp only [List.length_drop, List.length_take]; rfl)) ?_; (refine (api_Term_49.calls (fun k_ => some k_ = (.slice none 0 0 : Value).ownBlock) (.slice none 0 0) ([] : List (S40)) x3_1 t114 w _ ?side1 ?side2 A6.out).mono ?_); (case side1 => repeat (first | (with_reducible first | exact HB.out | apply zd | apply zc | apply ze) | exact HB.out)); (case side2 => exact Kd.R_nil _ _ _ _ _); rintro e w7 ⟨v115, rfl, ho0, hb, hkp⟩; refine ⟨_, rfl, ?_⟩; have n0_ := zb.mk (Kd.yt (ok' := fun k_ => True) ho0 (fun k_ hk_ => trivial)); have n1_ := zb.mk (hb); clear HB; have HO116 := n0_; have HB := n1_; clear n0_ n1_; (try clear hb); (try clear hkp); (try clear ho0)))
    go_loopg [6, 27] k1 (fun kq v6 v27 w' => ∃ (x6_2 : List (S40)) (x27_2 : Int), v27 = .int .i64 x27_2 ∧ zb (zV.l1 kq x6_2 l0 (l0.length : Int) x27_2 = some r) ∧ zb (kq ≤ k1) ∧ zb (Kd.R k40 40 w' w.heap.size (fun _ => True) v6 x6_2) ∧ zb (Below w.heap.size w w'))
    case atStart => exact ⟨(t114), (0), (by first | rfl | (simp; done) | (simp [*]; done)), H', ⟨Nat.le_refl _⟩, ⟨ur HO116.out⟩, ⟨ub HB.out⟩⟩
    case round =>
     clear H'
     try clear c1
     try clear p1
     try clear q1
     try clear hx1
     try clear c2
     try clear c2b0
     try clear p2
     try clear c3
     try clear c3b0
     try clear c4
     try clear c4b0
     try clear c5
     try clear c5b0
     try clear p6
     try clear hx113_0
     try clear p113
     try clear q113
     obtain ⟨x6_2, x27_2, rfl, HA, HK2, HO_6, HB⟩ := hrel
     cases gk with
     | zero => exact absurd HA.out (by simp [zV.l1])
     | succ k2 =>
      have H := HA.out
      clear HA
      simp only [zV.l1] at H
      by_cases c8 : x27_2 < (l0.length : Int)
      ·rw [if_pos c8] at H
       have c8b0 : decide (x27_2 < (l0.length : Int)) = true := decide_eq_true c8
       clear c8
       by_cases c9 : 0 ≤ x27_2
       ·rw [if_pos c9] at H
        have c9b0 : decide (0 ≤ x27_2) = true := decide_eq_true c9
        clear c9
        by_cases c10 : x27_2 < (l0.length : Int)
        ·rw [if_pos c10] at H
         have c10b0 : decide (x27_2 < (l0.length : Int)) = true := decide_eq_true c10
         clear c10
         by_cases c11 : x6_2.length + (rd_L5 l0 x27_2).length < 2932031007402
         ·rw [if_pos c11] at H
          have LMc11 := zb.mk c11
          clear c11
          obtain ⟨y118, hy118⟩ : ∃ y_ : List (S40), y_ = (x6_2 ++ (rd_L5 l0 x27_2)) := ⟨_, rfl⟩
          replace H : (zV.l1 k2 y118 l0 (l0.length : Int) (wrap64 (x27_2 + 1))) = some r := by first | (rw [hy118]; with_reducible exact H) | (have H2_ := (Option.bind_some _ _).symm.trans H; rw [hy118]; with_reducible exact H2_) | (have H2_ := (Option.bind_some _ _).symm.trans H; with_reducible exact H2_) | with_reducible exact H | (rw [hy118]; exact H) | exact H
          have Ny118 := zb.mk hy118
          clear hy118
          have H' := zb.mk H
          clear H
          have p117 : 0 ≤ (x27_2 : Int) := zdd
          have q117 : x27_2 < (l0.length : Int) := zdd
          obtain ⟨ad117, A117_0, c117_0, e117, hx117_0, hl117_0, hi117_0⟩ := at_L5 HR0.out x27_2 p117 q117
          cases e117
          replace hx117_0 := zg HB.out hx117_0
          have HR117_0 := zb.mk hi117_0
          have HC117_0 := zb.mk hl117_0
          clear hi117_0 hl117_0
          replace p117 := eq_true p117
          replace q117 := eq_true q117
          go_wp2_with (first | ((with_reducible refine qa (b := .append) (xs := #[.tmp 31, .tmp 32]) rfl ?_); at_builtin; refine Kd.R_append_rows k40 (w0 := w) w.heap.size rfl (.tmp 31) (.tmp 32) 34 40 (.agg #[(.string ⟨#[]⟩), (.int .i64 0), (.int .i64 0), (.string ⟨#[]⟩)]) 48 rfl Try.underlying34 info40 rfl (by decide) (by omega) u6 x6_2 (rd_L5 l0 x27_2) _ _ _ (fun _ => True) (fun _ => False) rfl rfl ?aO ?aR (fun _ _ h => h) (fun _ h => h.elim) ?aF ?aB ?aS ?aL ?_; (case aR => exact uc (Kd.zL HR117_0.out HB.out)); (case aB => exact (ub HB.out)); (case aF => exact (fun _ _ => trivial)); (case aO => exact (ur HO_6.out)); (case aS => exact (zi (ub HB.out))); (case aL => have := LMc11.out; omega); intro v119 w12 ho hb hg hat; rw [← Ny118.out] at ho; have n0_ := zb.mk (hb); have n1_ := zb.mk (ho); clear HB; clear HO_6; have HB := n0_; have HO120 := n1_; clear n0_ n1_; clear ho hb hg hat))
          go_roundg k2
          case measure => have := HK1.out; have := HK2.out; omega
          case rel => exact ⟨(y118), (wrap64 (x27_2 + 1)), (by first | rfl | (simp; done) | (simp [*]; done)), H', ⟨by have := HK1.out; have := HK2.out; omega⟩, ⟨ur HO120.out⟩, ⟨ub HB.out⟩⟩
         ·rw [if_neg c11] at H
          exact absurd H (by simp)
        ·rw [if_neg c10] at H
         exact absurd H (by simp)
       ·rw [if_neg c9] at H
        exact absurd H (by simp)
      ·rw [if_neg c8] at H
       have c8b0 : decide (x27_2 < (l0.length : Int)) = false := decide_eq_false c8
       clear c8
       obtain rfl := Option.some.inj H
       go_wp2
       go_ret
       exact ⟨_, by first | rfl | (simp [zA, zz] <;> rfl) | (simp [*, zA, zz] <;> rfl), by (with_reducible repeat (first | apply Kd.qA | apply Kd.qz | apply Kd.R_drew)); exact HO_6.out, ub HB.out⟩
end Go.Proofs.Ytmgbfgloegcloaa.Ps
namespace Go.Proofs.Ytmgbfgloegcloaa.Ps
open Go.RowKit Go.Proofs.YtmgbfgloegcloaaW.PrintWords Go.Proofs.YtmgbfgloegcloaaW.PrintLast Go.Proofs.YtmgbfgloegcloaaW.PrintMore
attribute [local go_sem] yD yB yR yQ ym yl yC yA
set_option linter.unusedVariables false
set_option linter.unusedSimpArgs false
set_option maxHeartbeats 8000000 in
set_option maxRecDepth 100000 in
theorem qm.calls (k : Nat) (a0_0 : Int) (a0_1 : ByteArray) (P0_2_ : Nat → Prop) (A0_2 : Option Addr) (c0_2 : Nat) (l0_2 : List (S40)) (a0_3 : ByteArray) (a0_4 : ByteArray) (a0_5 : Int) (a0_6 : Int) (a0_7 : ByteArray) (a0_8 : ByteArray) (a0_9 : Int) (a0_10 : Int) (a0_11 : ByteArray) (a0_12 : ByteArray) (a0_13 : Int) (a0_14 : Int) (a0_15 : ByteArray) (A0_16 : Option Addr) (c0_16 : Nat) (l0_16 : List (S82)) (r : List (S40)) (w : World) (hs0_2 : Kd.V k40 40 w w.heap.size (fun k_ => P0_2_ k_) (.slice A0_2 l0_2.length c0_2) l0_2) (hr0_16 : Kd.C k82 w A0_16 l0_16.length l0_16) (hc0_16 : l0_16.length ≤ c0_16) (h : qm.f k a0_0 a0_1 l0_2 a0_3 a0_4 a0_5 a0_6 a0_7 a0_8 a0_9 a0_10 a0_11 a0_12 a0_13 a0_14 a0_15 l0_16 = some r) :
  Calls Try.prog 30 #[.agg #[.int .i64 a0_0, .string a0_1, .slice A0_2 l0_2.length c0_2, .string a0_3, .string a0_4, .int .i64 a0_5, .int .i64 a0_6, .string a0_7, .string a0_8, .int .i64 a0_9, .int .i64 a0_10, .string a0_11, .string a0_12, .int .i64 a0_13, .int .i64 a0_14, .string a0_15, .slice A0_16 l0_16.length c0_16]] w fun e w' => ∃ v0_ : Value, e = .returned (v0_) ∧ Kd.R k40 40 w' w.heap.size (fun k_ => (w.heap.size ≤ k_)) v0_ r ∧ Below w.heap.size w w' := by
 have hu43 := Try.underlying43
 have hu40 := Try.underlying40
 have HO0_2 := zb.mk (show Kd.V k40 40 w w.heap.size (fun k_ => (P0_2_ k_ ∨ w.heap.size ≤ k_)) (.slice A0_2 l0_2.length c0_2) l0_2 from Kd.zy hs0_2 (fun k_ hk => .inl hk))
 have HR0_16 := zb.mk hr0_16
 have HC0_16 := zb.mk hc0_16
 clear hr0_16 hc0_16
 have HB := zb.mk (Below.refl w.heap.size w)
 have H : ((zV.f k (([l0_2, (([(⟨a0_4, (⟨a0_5, a0_6, a0_7⟩ : S38)⟩ : S40), (⟨a0_8, (⟨a0_9, a0_10, a0_11⟩ : S38)⟩ : S40), (⟨a0_12, (⟨a0_13, a0_14, a0_15⟩ : S38)⟩ : S40)] : List (S40)))] : List (List (S40))))).bind fun t128 => (some t128)) = some r := h
 clear h
 obtain ⟨y122, hy122⟩ : ∃ y_ : List (S40), y_ = (([(⟨a0_4, (⟨a0_5, a0_6, a0_7⟩ : S38)⟩ : S40), (⟨a0_8, (⟨a0_9, a0_10, a0_11⟩ : S38)⟩ : S40), (⟨a0_12, (⟨a0_13, a0_14, a0_15⟩ : S38)⟩ : S40)] : List (S40))) := ⟨_, rfl⟩
 replace H : ((zV.f k (([l0_2, y122] : List (List (S40))))).bind fun t128 => (some t128)) = some r := by first | (rw [hy122]; with_reducible exact H) | (have H2_ := (Option.bind_some _ _).symm.trans H; rw [hy122]; with_reducible exact H2_) | (have H2_ := (Option.bind_some _ _).symm.trans H; with_reducible exact H2_) | with_reducible exact H | (rw [hy122]; exact H) | exact H
 have Ny122 := zb.mk hy122
 clear hy122
 obtain ⟨y125, hy125⟩ : ∃ y_ : List (List (S40)), y_ = (([l0_2, y122] : List (List (S40)))) := ⟨_, rfl⟩
 replace H : ((zV.f k y125).bind fun t128 => (some t128)) = some r := by first | (rw [hy125]; with_reducible exact H) | (have H2_ := (Option.bind_some _ _).symm.trans H; rw [hy125]; with_reducible exact H2_) | (have H2_ := (Option.bind_some _ _).symm.trans H; with_reducible exact H2_) | with_reducible exact H | (rw [hy125]; exact H) | exact H
 have Ny125 := zb.mk hy125
 clear hy125
 replace H := Option.bind_eq_some_iff.mp H
 obtain ⟨t128, A20, H⟩ := H
 replace H : (some t128) = some r := H
 have A2 := zb.mk A20
 clear A20
 obtain rfl := Option.some.inj H
 go_enter Try.func30, Try.ntmps30
 go_wp2_with (first | ((with_reducible refine zQ (N := 1) rfl ?_); refine zM ?hg (N := 1) ?hd (cs := #[.int .i64 a0_0, .string a0_1, .slice A0_2 l0_2.length c0_2, .string a0_3, .string a0_4, .int .i64 a0_5, .int .i64 a0_6, .string a0_7, .string a0_8, .int .i64 a0_9, .int .i64 a0_10, .string a0_11, .string a0_12, .int .i64 a0_13, .int .i64 a0_14, .string a0_15, .slice A0_16 l0_16.length c0_16]) (t := 43) ?hr ?_; (case hd => rfl); (case hg => rfl); (case hr => first | (go_simp; done) | (go_simp; rfl)); intro gb121 hg w3 hbox hb; have n0_ := zb.mk (Kd.zN (Kd.zI (uv HO0_2.out) gb121 (Nat.le_of_eq hg.symm)) hb); have n1_ := zb.mk (zn (ub HB.out) hb); have n2_ := zb.mk (hbox); have n3_ := zb.mk ((by rw [hg]; exact (zi (ub HB.out)) : w.heap.size ≤ gb121)); have n4_ := zb.mk ((by rw [hg]; exact (zi (ub HB.out)) : w.heap.size ≤ gb121)); clear HO0_2; clear HB; have HO0_2 := n0_; have HB := n1_; have BK121 := n2_; have GW121 := n3_; have GE121 := n4_; clear n0_ n1_ n2_ n3_ n4_; clear hb hbox hg; obtain ⟨hcz4_0, hcz4_1, hcz4_2, hcz4_3, hcz4_4, hcz4_5, hcz4_6, hcz4_7, hcz4_8, hcz4_9, hcz4_10, hcz4_11, hcz4_12, hcz4_13, hcz4_14, hcz4_15, hcz4_16⟩ := blk17 BK121.out; obtain ⟨hfz4_0, hfz4_1, hfz4_2, hfz4_3, hfz4_4, hfz4_5, hfz4_6, hfz4_7, hfz4_8, hfz4_9, hfz4_10, hfz4_11, hfz4_12, hfz4_13, hfz4_14, hfz4_15, hfz4_16⟩ := frz17 BK121.out) | ((with_reducible refine zQ (N := 12) rfl ?_); refine Kd.R_lit k40 _ 40 ?hg (N := 12) ?hd (xs := ([(⟨a0_4, (⟨a0_5, a0_6, a0_7⟩ : S38)⟩ : S40), (⟨a0_8, (⟨a0_9, a0_10, a0_11⟩ : S38)⟩ : S40), (⟨a0_12, (⟨a0_13, a0_14, a0_15⟩ : S38)⟩ : S40)] : List (S40))) (inner := [.string a0_4, .int .i64 a0_5, .int .i64 a0_6, .string a0_7, .string a0_8, .int .i64 a0_9, .int .i64 a0_10, .string a0_11, .string a0_12, .int .i64 a0_13, .int .i64 a0_14, .string a0_15]) (ok := fun _ => True) (okp := fun _ => True) ?hr ?hp (fun _ hk => hk) trivial (Below.refl _ _) (Nat.le_refl _) (by simp) ?_; (case hd => rfl); (case hg => rfl); (case hr => first | (go_simp; done) | (go_simp; rfl)); (case hp => exact (Reps.c4 (show Kd.M k40 _ _ _ (⟨a0_4, (⟨a0_5, a0_6, a0_7⟩ : S38)⟩ : S40) [.string a0_4, .int .i64 a0_5, .int .i64 a0_6, .string a0_7] from (qF _ _ _ (⟨a0_4, (⟨a0_5, a0_6, a0_7⟩ : S38)⟩ : S40) )) (Reps.c4 (show Kd.M k40 _ _ _ (⟨a0_8, (⟨a0_9, a0_10, a0_11⟩ : S38)⟩ : S40) [.string a0_8, .int .i64 a0_9, .int .i64 a0_10, .string a0_11] from (qF _ _ _ (⟨a0_8, (⟨a0_9, a0_10, a0_11⟩ : S38)⟩ : S40) )) (Reps.c4 (show Kd.M k40 _ _ _ (⟨a0_12, (⟨a0_13, a0_14, a0_15⟩ : S38)⟩ : S40) [.string a0_12, .int .i64 a0_13, .int .i64 a0_14, .string a0_15] from (qF _ _ _ (⟨a0_12, (⟨a0_13, a0_14, a0_15⟩ : S38)⟩ : S40) )) (Reps.none _ _))))); intro v123 w5 ho6 hb hg_ hnew_; clear hg_ hnew_; (first | rw [← Ny122.out] at ho6 | (simp only [Int.reduceToNat] at ho6; rw [← Ny122.out] at ho6)); have n0_ := zb.mk (Kd.yk (uv HO0_2.out) (Kd.yI ho6) hb); have n1_ := zb.mk (Kd.yr (Kd.R_newM (M := fun k_ => (w.heap.size ≤ k_)) ho6 (zi (by repeat (first | exact ub HB.out | apply zd | apply zc | apply ze | refine zh ?_ ‹_›))) (fun k_ h_ => h_)) (zi (by repeat (first | exact ub HB.out | apply zd | apply zc | apply ze | refine zh ?_ ‹_›)))); have n2_ := zb.mk (zo (ul BK121.out) hb); have n3_ := zb.mk (zn (by repeat (first | exact ub HB.out | apply zd | apply zc | apply ze | refine zh ?_ ‹_›)) hb); clear HO0_2; clear BK121; clear HB; have HO0_2 := n0_; have HO124 := n1_; have BK121 := n2_; have HB := n3_; clear n0_ n1_ n2_ n3_; clear hb ho6; obtain ⟨Ao7, co7, eo7⟩ := Kd.yx HO124.out; subst eo7) | ((with_reducible refine zQ (N := 13) rfl ?_); refine Kd.N_lit (Kd.slice 40 k40) _ 34 ?hg (N' := 13) ?hd (xs := ([l0_2, y122] : List (List (S40)))) (inner := [.slice A0_2 l0_2.length c0_2, .slice Ao7 y122.length co7]) (ok := (fun k_ => (P0_2_ k_ ∨ w.heap.size ≤ k_) ∧ k_ ≠ gb121)) (okp := (fun k_ => (P0_2_ k_ ∨ w.heap.size ≤ k_) ∧ k_ ≠ gb121)) ?hr ?hp (fun _ hk => hk) ((show ∀ k_, w5.heap.size ≤ k_ → (fun k_ => (P0_2_ k_ ∨ w.heap.size ≤ k_) ∧ k_ ≠ gb121) k_ from fun k_ hk => ⟨(.inr (Nat.le_trans (zi (by repeat (first | exact ub HB.out | apply zd | apply zc | apply ze | refine zh ?_ ‹_›))) hk)), Kd.freshB (g := gb121) (o := .cells #[.int .i64 a0_0, .string a0_1, .slice A0_2 l0_2.length c0_2, .string a0_3, .string a0_4, .int .i64 a0_5, .int .i64 a0_6, .string a0_7, .string a0_8, .int .i64 a0_9, .int .i64 a0_10, .string a0_11, .string a0_12, .int .i64 a0_13, .int .i64 a0_14, .string a0_15, .slice A0_16 l0_16.length c0_16] 43 (0, 0)) (ul BK121.out) k_ hk⟩) _ (Nat.le_refl _)) (Below.refl _ _) (Nat.le_refl _) (by simp) ?_; (case hd => rfl); (case hg => rfl); (case hr => first | (go_simp; done) | (go_simp; rfl)); (case hp => exact (Reps.one (show Kd.FK (Kd.slice 40 k40) _ _ l0_2 [.slice A0_2 l0_2.length c0_2] from (Kd.FK_slice_mk (Kd.ya (Kd.zy (ok' := (fun k_ => (P0_2_ k_ ∨ w.heap.size ≤ k_) ∧ k_ ≠ gb121)) (HO0_2.out) (fun k_ hk => ⟨hk.1.1, hk.1.2⟩))).2.1 (Kd.V_F (Kd.zy (ok' := (fun k_ => (P0_2_ k_ ∨ w.heap.size ≤ k_) ∧ k_ ≠ gb121)) (HO0_2.out) (fun k_ hk => ⟨hk.1.1, hk.1.2⟩))))) (Reps.one (show Kd.FK (Kd.slice 40 k40) _ _ y122 [.slice Ao7 y122.length co7] from (Kd.FK_slice_mk (Kd.zU (Kd.yt (ok' := (fun k_ => (P0_2_ k_ ∨ w.heap.size ≤ k_) ∧ k_ ≠ gb121)) (Kd.qd (HO124.out) BK121.out (by decide)) (fun k_ hk => ⟨(.inr (hk.1.1)), hk.2⟩))).2.1 (Kd.R_F (Kd.yt (ok' := (fun k_ => (P0_2_ k_ ∨ w.heap.size ≤ k_) ∧ k_ ≠ gb121)) (Kd.qd (HO124.out) BK121.out (by decide)) (fun k_ hk => ⟨(.inr (hk.1.1)), hk.2⟩))))) (Reps.none _ _)))); intro v126 w8 ho9 hb hg_ hnew_; clear hg_ hnew_; (first | rw [← Ny125.out] at ho9 | (simp only [Int.reduceToNat] at ho9; rw [← Ny125.out] at ho9)); have n0_ := zb.mk (Kd.yk (uv HO0_2.out) (Kd.yj ho9) hb); have n1_ := zb.mk (Kd.N_lower ho9 (zi (by repeat (first | exact ub HB.out | apply zd | apply zc | apply ze | refine zh ?_ ‹_›)))); have n2_ := zb.mk (zo (ul BK121.out) hb); have n3_ := zb.mk (zn (by repeat (first | exact ub HB.out | apply zd | apply zc | apply ze | refine zh ?_ ‹_›)) hb); clear HO0_2; clear BK121; clear HB; clear HO124; have HO0_2 := n0_; have HO127 := n1_; have BK121 := n2_; have HB := n3_; clear n0_ n1_ n2_ n3_; clear hb ho9; obtain ⟨Ao10, co10, eo10⟩ := Kd.qk HO127.out; subst eo10) | ((with_reducible refine zP (f := 44) rfl ?_); refine yH (some 14) rfl rfl Try.func44 (by kernel_rfl) rfl #[.slice Ao10 y125.length co10] rfl (by (try simp only [List.map_toArray, List.map_cons, List.map_nil]); first | done | rfl | (simp only [List.length_drop, List.length_take]; rfl)) ?_; (with_reducible refine (zV.calls k _ _ y125 t128 _ ?side1 ?side2 A2.out).mono ?_); (case side1 => repeat (first | exact (Kd.yV HO127.out).2.2 | (with_reducible refine Kd.yw ?_ _) | (with_reducible refine Kd.yv ?_ _) | (with_reducible refine Kd.yP ?_))); (case side2 => exact (Kd.yV HO127.out).2.1); rintro e w11 ⟨v129, rfl, ho0, hb⟩; refine ⟨_, rfl, ?_⟩; have n0_ := zb.mk (Kd.yk (uv HO0_2.out) (Kd.yI ho0) hb); have n1_ := zb.mk (Kd.qf (un HO127.out) (Kd.yI ho0) hb); have n2_ := zb.mk (Kd.yr (Kd.R_newM (M := fun k_ => (w.heap.size ≤ k_)) ho0 (zi (by repeat (first | exact ub HB.out | apply zd | apply zc | apply ze | refine zh ?_ ‹_›))) (fun k_ h_ => h_)) (zi (by repeat (first | exact ub HB.out | apply zd | apply zc | apply ze | refine zh ?_ ‹_›)))); have n3_ := zb.mk (zo (ul BK121.out) hb); have n4_ := zb.mk (zn (by repeat (first | exact ub HB.out | apply zd | apply zc | apply ze | refine zh ?_ ‹_›)) hb); clear HO0_2; clear HO127; clear BK121; clear HB; have HO0_2 := n0_; have HO127 := n1_; have HO130 := n2_; have BK121 := n3_; have HB := n4_; clear n0_ n1_ n2_ n3_ n4_; (try clear hb); (try clear hb2); (try clear hk); (try clear hi); (try clear ho0)))
 go_ret
 exact ⟨_, by first | rfl | (simp [zA, zz] <;> rfl) | (simp [*, zA, zz] <;> rfl), by (with_reducible repeat (first | apply Kd.qA | apply Kd.qz | apply Kd.R_drew)); exact Kd.yt HO130.out (fun _ hk => hk.1), by repeat (first | exact ub HB.out | apply zd | apply zc | apply ze | refine zh ?_ ‹_›)⟩
end Go.Proofs.Ytmgbfgloegcloaa.Ps
