import Derived.Test.YtmgbfgloegcloaaZip
import Derived.Test.YtmgbfgloegcloaaPsD
namespace Go.Proofs.Ytmgbfgloegcloaa.Ps
open Go.RowKit Go.Proofs.YtmgbfgloegcloaaW.PrintWords Go.Proofs.YtmgbfgloegcloaaW.PrintLast Go.Proofs.YtmgbfgloegcloaaW.PrintMore
attribute [local go_sem] yD yB yR yQ ym yl yC yA
set_option linter.unusedVariables false
set_option linter.unusedSimpArgs false
set_option maxHeartbeats 8000000 in
set_option maxRecDepth 100000 in
theorem zr.calls (k : Nat) (A0 : Option Addr) (c0 : Nat) (l0 : List ByteArray) (a1 : ByteArray) (r : List ByteArray) (w : World) (hr0 : Kd.C Kd.string w A0 l0.length l0) (hc0 : l0.length ≤ c0) (h : zr.f k l0 a1 = some r) :
  Calls Try.prog 32 #[.slice A0 l0.length c0, .string a1] w fun e w' => ∃ v0_ : Value, e = .returned (v0_) ∧ Kd.R Kd.string 9 w' w.heap.size (fun _ => True) v0_ r ∧ Below w.heap.size w w' := by
 have HR0 := zb.mk hr0
 have HC0 := zb.mk hc0
 clear hr0 hc0
 have HB := zb.mk (Below.refl w.heap.size w)
 have H : (zr.l0 k l0 a1 ([] : List ByteArray) false (l0.length : Int) 0) = some r := h
 clear h
 have H' := zb.mk H
 clear H
 go_enter Try.func32, Try.ntmps32
 go_wp2
 go_loopg [5, 6, 10] k (fun kq v5 v6 v10 w' => ∃ (x5_1 : List ByteArray) (x6_1 : Bool) (x10_1 : Int), v6 = .bool x6_1 ∧ v10 = .int .i64 x10_1 ∧ zb (zr.l0 kq l0 a1 x5_1 x6_1 (l0.length : Int) x10_1 = some r) ∧ zb (kq ≤ k) ∧ zb (Kd.R Kd.string 9 w' w.heap.size (fun _ => True) v5 x5_1) ∧ zb (Below w.heap.size w w'))
 case atStart => exact ⟨(([] : List ByteArray)), (false), (0), (by first | rfl | (simp; done) | (simp [*]; done)), (by first | rfl | (simp; done) | (simp [*]; done)), H', ⟨Nat.le_refl _⟩, ⟨by first | exact Kd.R_nil _ _ _ _ _ | exact Kd.N_nil _ _ _ _ _ | exact Kd.V_nil _ _ _ _ _ | exact Kd.Q_nil _ _ _ _ _ | exact Kd.S_nil _ _ _ _ _⟩, ⟨ub HB.out⟩⟩
 case round =>
  clear H'
  try clear p2
  obtain ⟨x5_1, x6_1, x10_1, rfl, rfl, HA, HK1, HO_5, HB⟩ := hrel
  cases gk with
  | zero => exact absurd HA.out (by simp [zr.l0])
  | succ k1 =>
   have H := HA.out
   clear HA
   simp only [zr.l0] at H
   by_cases c3 : x10_1 < (l0.length : Int)
   ·rw [if_pos c3] at H
    have c3b0 : decide (x10_1 < (l0.length : Int)) = true := decide_eq_true c3
    clear c3
    have HC4 := zb.mk H
    clear H
    go_upto_region 6 with (fail)
    go_cut [22] (fun v22 wc => ∃ (kq : Nat) (x22_3 : Bool), v22 = .bool x22_3 ∧ zb (zr.j1 kq l0 a1 x5_1 x6_1 x10_1 (l0.length : Int) x10_1 x22_3 = some r) ∧ zb (kq ≤ k1) ∧ zb (Kd.R Kd.string 9 wc w.heap.size (fun _ => True) u5 x5_1) ∧ zb (Below w.heap.size w wc))
    case first =>
     have H := HC4.out
     clear HC4
     by_cases c5 : x6_1 = true
     ·subst c5
      have H1 : (zr.j1 k1 l0 a1 x5_1 true x10_1 (l0.length : Int) x10_1 false) = some r := by rw [if_pos rfl] at H; exact H
      clear H
      have H := H1
      clear H1
      have H' := zb.mk H
      clear H
      go_wp2
      go_meet
      case rel => exact ⟨_, (false), (by first | rfl | (simp; done) | (simp [*]; done)), H', ⟨by have := HK1.out; first | omega | exact Nat.le_refl _⟩, ⟨ur HO_5.out⟩, ⟨ub HB.out⟩⟩
     ·replace c5 := Bool.eq_false_iff.mpr c5
      subst c5
      have H1 : (if 0 ≤ x10_1 then (if x10_1 < (l0.length : Int) then (zr.j1 k1 l0 a1 x5_1 false x10_1 (l0.length : Int) x10_1 (Op.bytesLess a1.toList ((rdOf ByteArray.empty l0 x10_1).toList) || (a1.toList == ((rdOf ByteArray.empty l0 x10_1).toList)))) else (none)) else (none)) = some r := by rw [if_neg (show ¬ (false = true) by decide)] at H; exact H
      clear H
      have H := H1
      clear H1
      by_cases c6 : 0 ≤ x10_1
      ·rw [if_pos c6] at H
       have c6b0 : decide (0 ≤ x10_1) = true := decide_eq_true c6
       clear c6
       (first | rw [c6b0] | (simp only [i64_w, i32_w]; rw [c6b0]) | skip)
       by_cases c7 : x10_1 < (l0.length : Int)
       ·rw [if_pos c7] at H
        have c7b0 : decide (x10_1 < (l0.length : Int)) = true := decide_eq_true c7
        clear c7
        have H' := zb.mk H
        clear H
        have p229 : 0 ≤ (x10_1 : Int) := zdd
        have q229 : x10_1 < (l0.length : Int) := zdd
        obtain ⟨ad229, e229, hx229_0⟩ := Kd.yX HR0.out x10_1 p229 q229
        cases e229
        replace hx229_0 := zg HB.out hx229_0
        replace p229 := eq_true p229
        replace q229 := eq_true q229
        go_wp2
        go_meet
        case rel => exact ⟨_, ((Op.bytesLess a1.toList ((rdOf ByteArray.empty l0 x10_1).toList) || (a1.toList == ((rdOf ByteArray.empty l0 x10_1).toList)))), (by first | rfl | (simp; done) | (simp [*]; done)), H', ⟨by have := HK1.out; first | omega | exact Nat.le_refl _⟩, ⟨ur HO_5.out⟩, ⟨ub HB.out⟩⟩
       ·rw [if_neg c7] at H
        exact absurd H (by simp)
      ·rw [if_neg c6] at H
       exact absurd H (by simp)
    case rest =>
     clear HC4
     try clear p2
     try clear q2
     try clear hx2
     try clear c3
     try clear c3b0
     try clear c5
     try clear c6
     try clear c6b0
     try clear c7
     try clear c7b0
     try clear hx229_0
     try clear p2
     try clear p229
     try clear q229
     obtain ⟨kq, x22_3, rfl, HA, HJ3, HO_5, HB⟩ := hcut
     cases kq with
     | zero => exact absurd HA.out (by simp [zr.j1])
     | succ kj3 =>
      have H := HA.out
      clear HA
      simp only [zr.j1] at H
      by_cases c8 : x22_3 = true
      ·subst c8
       have H1 : (if x5_1.length < 8796093022208 then ((some (x5_1 ++ [a1] : List ByteArray)).bind fun y230 => (if 0 ≤ x10_1 then (if x10_1 < (l0.length : Int) then (if (rdOf ByteArray.empty l0 x10_1).toList = a1.toList then (zr.l0 kj3 l0 a1 y230 true (l0.length : Int) (wrap64 (x10_1 + 1))) else (if y230.length < 8796093022208 then (zr.l0 kj3 l0 a1 (y230 ++ [rdOf ByteArray.empty l0 x10_1]) true (l0.length : Int) (wrap64 (x10_1 + 1))) else (none))) else (none)) else (none))) else (none)) = some r := by rw [if_pos rfl] at H; exact H
       clear H
       have H := H1
       clear H1
       by_cases c9 : x5_1.length < 8796093022208
       ·rw [if_pos c9] at H
        have LMc9 := zb.mk c9
        clear c9
        obtain ⟨y230, hy230⟩ : ∃ y_ : List ByteArray, y_ = (x5_1 ++ [a1]) := ⟨_, rfl⟩
        replace H : (if 0 ≤ x10_1 then (if x10_1 < (l0.length : Int) then (if (rdOf ByteArray.empty l0 x10_1).toList = a1.toList then (zr.l0 kj3 l0 a1 y230 true (l0.length : Int) (wrap64 (x10_1 + 1))) else (if y230.length < 8796093022208 then (zr.l0 kj3 l0 a1 (y230 ++ [rdOf ByteArray.empty l0 x10_1]) true (l0.length : Int) (wrap64 (x10_1 + 1))) else (none))) else (none)) else (none)) = some r := by first | (rw [hy230]; with_reducible exact H) | (have H2_ := (Option.bind_some _ _).symm.trans H; rw [hy230]; with_reducible exact H2_) | (have H2_ := (Option.bind_some _ _).symm.trans H; with_reducible exact H2_) | with_reducible exact H | (rw [hy230]; exact H) | exact H
        have Ny230 := zb.mk hy230
        clear hy230
        by_cases c10 : 0 ≤ x10_1
        ·rw [if_pos c10] at H
         have c10b0 : decide (0 ≤ x10_1) = true := decide_eq_true c10
         clear c10
         by_cases c11 : x10_1 < (l0.length : Int)
         ·rw [if_pos c11] at H
          have c11b0 : decide (x10_1 < (l0.length : Int)) = true := decide_eq_true c11
          clear c11
          by_cases c12 : (rdOf ByteArray.empty l0 x10_1).toList = a1.toList
          ·rw [if_pos c12] at H
           have c12b0 : ((rdOf ByteArray.empty l0 x10_1).toList == a1.toList) = true := beq_iff_eq.mpr c12
           have c12b1 : ((rdOf ByteArray.empty l0 x10_1).toList != a1.toList) = false := bne_eq_false_iff_eq.mpr c12
           clear c12
           have H' := zb.mk H
           clear H
           go_wp2_with (first | ((with_reducible refine qa (b := .append) (xs := #[.tmp 23, .tmp 25]) rfl ?_); at_builtin; refine Kd.R_append Kd.string (w0 := w) w.heap.size rfl (.tmp 23) (.tmp 25) 23 9 (.string ⟨#[]⟩) 16 rfl Try.underlying23 info9 rfl (by decide) (by omega) u5 x5_1 a1 [.string a1] (fun _ => True) (fun _ => False) rfl rfl ?aP (fun _ hk => hk.elim) ?aF ?aO ?aB ?aS ?aL ?_; (case aP => exact rfl); (case aB => exact (ub HB.out)); (case aF => exact (fun _ _ => trivial)); (case aO => exact (ur HO_5.out)); (case aS => exact (zi (ub HB.out))); (case aL => have := LMc9.out; omega); intro v231 w13 ho hb hg hat; rw [← Ny230.out] at ho; have n0_ := zb.mk (hb); have n1_ := zb.mk (ho); clear HB; clear HO_5; have HB := n0_; have HO232 := n1_; clear n0_ n1_; clear ho hb hg hat; have p233 : 0 ≤ (x10_1 : Int) := zdd; have q233 : x10_1 < (l0.length : Int) := zdd; obtain ⟨ad233, e233, hx233_0⟩ := Kd.yX HR0.out x10_1 p233 q233; cases e233; replace hx233_0 := zg HB.out hx233_0; replace p233 := eq_true p233; replace q233 := eq_true q233))
           go_roundg kj3
           case measure => have := HK1.out; have := HJ3.out; omega
           case rel => exact ⟨(y230), (true), (wrap64 (x10_1 + 1)), (by first | rfl | (simp; done) | (simp [*]; done)), (by first | rfl | (simp; done) | (simp [*]; done)), H', ⟨by have := HK1.out; have := HJ3.out; omega⟩, ⟨ur HO232.out⟩, ⟨ub HB.out⟩⟩
          ·rw [if_neg c12] at H
           have c12b0 : ((rdOf ByteArray.empty l0 x10_1).toList == a1.toList) = false := beq_eq_false_iff_ne.mpr c12
           have c12b1 : ((rdOf ByteArray.empty l0 x10_1).toList != a1.toList) = true := bne_iff_ne.mpr c12
           by_cases c14 : y230.length < 8796093022208
           ·rw [if_pos c14] at H
            have LMc14 := zb.mk c14
            clear c14
            obtain ⟨y235, hy235⟩ : ∃ y_ : List ByteArray, y_ = (y230 ++ [rdOf ByteArray.empty l0 x10_1]) := ⟨_, rfl⟩
            replace H : (zr.l0 kj3 l0 a1 y235 true (l0.length : Int) (wrap64 (x10_1 + 1))) = some r := by first | (rw [hy235]; with_reducible exact H) | (have H2_ := (Option.bind_some _ _).symm.trans H; rw [hy235]; with_reducible exact H2_) | (have H2_ := (Option.bind_some _ _).symm.trans H; with_reducible exact H2_) | with_reducible exact H | (rw [hy235]; exact H) | exact H
            have Ny235 := zb.mk hy235
            clear hy235
            have H' := zb.mk H
            clear H
            go_wp2_with (first | ((with_reducible refine qa (b := .append) (xs := #[.tmp 23, .tmp 25]) rfl ?_); at_builtin; refine Kd.R_append Kd.string (w0 := w) w.heap.size rfl (.tmp 23) (.tmp 25) 23 9 (.string ⟨#[]⟩) 16 rfl Try.underlying23 info9 rfl (by decide) (by omega) u5 x5_1 a1 [.string a1] (fun _ => True) (fun _ => False) rfl rfl ?aP (fun _ hk => hk.elim) ?aF ?aO ?aB ?aS ?aL ?_; (case aP => exact rfl); (case aB => exact (ub HB.out)); (case aF => exact (fun _ _ => trivial)); (case aO => exact (ur HO_5.out)); (case aS => exact (zi (ub HB.out))); (case aL => have := LMc9.out; omega); intro v231 w15 ho hb hg hat; rw [← Ny230.out] at ho; have n0_ := zb.mk (hb); have n1_ := zb.mk (ho); clear HB; clear HO_5; have HB := n0_; have HO232 := n1_; clear n0_ n1_; clear ho hb hg hat; have p233 : 0 ≤ (x10_1 : Int) := zdd; have q233 : x10_1 < (l0.length : Int) := zdd; obtain ⟨ad233, e233, hx233_0⟩ := Kd.yX HR0.out x10_1 p233 q233; cases e233; replace hx233_0 := zg HB.out hx233_0; replace p233 := eq_true p233; replace q233 := eq_true q233; have p234 : 0 ≤ (x10_1 : Int) := zdd; have q234 : x10_1 < (l0.length : Int) := zdd; obtain ⟨ad234, e234, hx234_0⟩ := Kd.yX HR0.out x10_1 p234 q234; obtain rfl : ad233 = ad234 := (by injection e234); replace hx234_0 := zg HB.out hx234_0; replace p234 := eq_true p234; replace q234 := eq_true q234) | ((with_reducible refine qa (b := .append) (xs := #[.tmp 33, .tmp 38]) rfl ?_); at_builtin; refine Kd.R_append Kd.string (w0 := w) w.heap.size rfl (.tmp 33) (.tmp 38) 23 9 (.string ⟨#[]⟩) 16 rfl Try.underlying23 info9 rfl (by decide) (by omega) v231 y230 (rdOf ByteArray.empty l0 x10_1) [.string (rdOf ByteArray.empty l0 x10_1)] (fun _ => True) (fun _ => False) rfl rfl ?aP (fun _ hk => hk.elim) ?aF ?aO ?aB ?aS ?aL ?_; (case aP => exact rfl); (case aB => exact (ub HB.out)); (case aF => exact (fun _ _ => trivial)); (case aO => exact (ur HO232.out)); (case aS => exact (zi (ub HB.out))); (case aL => have := LMc14.out; omega); intro v236 w16 ho hb hg hat; rw [← Ny235.out] at ho; have n0_ := zb.mk (hb); have n1_ := zb.mk (ho); clear HB; clear HO232; have HB := n0_; have HO237 := n1_; clear n0_ n1_; clear ho hb hg hat))
            go_roundg kj3
            case measure => have := HK1.out; have := HJ3.out; omega
            case rel => exact ⟨(y235), (true), (wrap64 (x10_1 + 1)), (by first | rfl | (simp; done) | (simp [*]; done)), (by first | rfl | (simp; done) | (simp [*]; done)), H', ⟨by have := HK1.out; have := HJ3.out; omega⟩, ⟨ur HO237.out⟩, ⟨ub HB.out⟩⟩
           ·rw [if_neg c14] at H
            exact absurd H (by simp)
         ·rw [if_neg c11] at H
          exact absurd H (by simp)
        ·rw [if_neg c10] at H
         exact absurd H (by simp)
       ·rw [if_neg c9] at H
        exact absurd H (by simp)
      ·replace c8 := Bool.eq_false_iff.mpr c8
       subst c8
       have H1 : (if 0 ≤ x10_1 then (if x10_1 < (l0.length : Int) then (if (rdOf ByteArray.empty l0 x10_1).toList = a1.toList then (zr.l0 kj3 l0 a1 x5_1 x6_1 (l0.length : Int) (wrap64 (x10_1 + 1))) else (if x5_1.length < 8796093022208 then (zr.l0 kj3 l0 a1 (x5_1 ++ [rdOf ByteArray.empty l0 x10_1]) x6_1 (l0.length : Int) (wrap64 (x10_1 + 1))) else (none))) else (none)) else (none)) = some r := by rw [if_neg (show ¬ (false = true) by decide)] at H; exact H
       clear H
       have H := H1
       clear H1
       by_cases c17 : 0 ≤ x10_1
       ·rw [if_pos c17] at H
        have c17b0 : decide (0 ≤ x10_1) = true := decide_eq_true c17
        clear c17
        by_cases c18 : x10_1 < (l0.length : Int)
        ·rw [if_pos c18] at H
         have c18b0 : decide (x10_1 < (l0.length : Int)) = true := decide_eq_true c18
         clear c18
         by_cases c19 : (rdOf ByteArray.empty l0 x10_1).toList = a1.toList
         ·rw [if_pos c19] at H
          have c19b0 : ((rdOf ByteArray.empty l0 x10_1).toList == a1.toList) = true := beq_iff_eq.mpr c19
          have c19b1 : ((rdOf ByteArray.empty l0 x10_1).toList != a1.toList) = false := bne_eq_false_iff_eq.mpr c19
          clear c19
          have H' := zb.mk H
          clear H
          have p238 : 0 ≤ (x10_1 : Int) := zdd
          have q238 : x10_1 < (l0.length : Int) := zdd
          obtain ⟨ad238, e238, hx238_0⟩ := Kd.yX HR0.out x10_1 p238 q238
          cases e238
          replace hx238_0 := zg HB.out hx238_0
          replace p238 := eq_true p238
          replace q238 := eq_true q238
          go_wp2
          go_roundg kj3
          case measure => have := HK1.out; have := HJ3.out; omega
          case rel => exact ⟨(x5_1), (x6_1), (wrap64 (x10_1 + 1)), (by first | rfl | (simp; done) | (simp [*]; done)), (by first | rfl | (simp; done) | (simp [*]; done)), H', ⟨by have := HK1.out; have := HJ3.out; omega⟩, ⟨ur HO_5.out⟩, ⟨ub HB.out⟩⟩
         ·rw [if_neg c19] at H
          have c19b0 : ((rdOf ByteArray.empty l0 x10_1).toList == a1.toList) = false := beq_eq_false_iff_ne.mpr c19
          have c19b1 : ((rdOf ByteArray.empty l0 x10_1).toList != a1.toList) = true := bne_iff_ne.mpr c19
          by_cases c20 : x5_1.length < 8796093022208
          ·rw [if_pos c20] at H
           have LMc20 := zb.mk c20
           clear c20
           obtain ⟨y240, hy240⟩ : ∃ y_ : List ByteArray, y_ = (x5_1 ++ [rdOf ByteArray.empty l0 x10_1]) := ⟨_, rfl⟩
           replace H : (zr.l0 kj3 l0 a1 y240 x6_1 (l0.length : Int) (wrap64 (x10_1 + 1))) = some r := by first | (rw [hy240]; with_reducible exact H) | (have H2_ := (Option.bind_some _ _).symm.trans H; rw [hy240]; with_reducible exact H2_) | (have H2_ := (Option.bind_some _ _).symm.trans H; with_reducible exact H2_) | with_reducible exact H | (rw [hy240]; exact H) | exact H
           have Ny240 := zb.mk hy240
           clear hy240
           have H' := zb.mk H
           clear H
           have p238 : 0 ≤ (x10_1 : Int) := zdd
           have q238 : x10_1 < (l0.length : Int) := zdd
           obtain ⟨ad238, e238, hx238_0⟩ := Kd.yX HR0.out x10_1 p238 q238
           cases e238
           replace hx238_0 := zg HB.out hx238_0
           replace p238 := eq_true p238
           replace q238 := eq_true q238
           have p239 : 0 ≤ (x10_1 : Int) := zdd
           have q239 : x10_1 < (l0.length : Int) := zdd
           obtain ⟨ad239, e239, hx239_0⟩ := Kd.yX HR0.out x10_1 p239 q239
           obtain rfl : ad238 = ad239 := (by injection e239)
           replace hx239_0 := zg HB.out hx239_0
           replace p239 := eq_true p239
           replace q239 := eq_true q239
           go_wp2_with (first | ((with_reducible refine qa (b := .append) (xs := #[.tmp 33, .tmp 38]) rfl ?_); at_builtin; refine Kd.R_append Kd.string (w0 := w) w.heap.size rfl (.tmp 33) (.tmp 38) 23 9 (.string ⟨#[]⟩) 16 rfl Try.underlying23 info9 rfl (by decide) (by omega) u5 x5_1 (rdOf ByteArray.empty l0 x10_1) [.string (rdOf ByteArray.empty l0 x10_1)] (fun _ => True) (fun _ => False) rfl rfl ?aP (fun _ hk => hk.elim) ?aF ?aO ?aB ?aS ?aL ?_; (case aP => exact rfl); (case aB => exact (ub HB.out)); (case aF => exact (fun _ _ => trivial)); (case aO => exact (ur HO_5.out)); (case aS => exact (zi (ub HB.out))); (case aL => have := LMc20.out; omega); intro v241 w21 ho hb hg hat; rw [← Ny240.out] at ho; have n0_ := zb.mk (hb); have n1_ := zb.mk (ho); clear HB; clear HO_5; have HB := n0_; have HO242 := n1_; clear n0_ n1_; clear ho hb hg hat))
           go_roundg kj3
           case measure => have := HK1.out; have := HJ3.out; omega
           case rel => exact ⟨(y240), (x6_1), (wrap64 (x10_1 + 1)), (by first | rfl | (simp; done) | (simp [*]; done)), (by first | rfl | (simp; done) | (simp [*]; done)), H', ⟨by have := HK1.out; have := HJ3.out; omega⟩, ⟨ur HO242.out⟩, ⟨ub HB.out⟩⟩
          ·rw [if_neg c20] at H
           exact absurd H (by simp)
        ·rw [if_neg c18] at H
         exact absurd H (by simp)
       ·rw [if_neg c17] at H
        exact absurd H (by simp)
   ·rw [if_neg c3] at H
    have c3b0 : decide (x10_1 < (l0.length : Int)) = false := decide_eq_false c3
    clear c3
    by_cases c22 : x6_1 = true
    ·subst c22
     have H1 : (some x5_1) = some r := by rw [if_pos rfl] at H; exact H
     clear H
     have H := H1
     clear H1
     obtain rfl := Option.some.inj H
     go_wp2
     go_ret
     exact ⟨_, by first | rfl | (simp [zA, zz] <;> rfl) | (simp [*, zA, zz] <;> rfl), by (with_reducible repeat (first | apply Kd.qA | apply Kd.qz | apply Kd.R_drew)); exact HO_5.out, ub HB.out⟩
    ·replace c22 := Bool.eq_false_iff.mpr c22
     subst c22
     have H1 : (if x5_1.length < 8796093022208 then (some (x5_1 ++ [a1])) else (none)) = some r := by rw [if_neg (show ¬ (false = true) by decide)] at H; exact H
     clear H
     have H := H1
     clear H1
     by_cases c23 : x5_1.length < 8796093022208
     ·rw [if_pos c23] at H
      have LMc23 := zb.mk c23
      clear c23
      obtain ⟨y226, hy226⟩ : ∃ y_ : List ByteArray, y_ = (x5_1 ++ [a1]) := ⟨_, rfl⟩
      replace H : (some y226) = some r := by first | (rw [hy226]; with_reducible exact H) | (have H2_ := (Option.bind_some _ _).symm.trans H; rw [hy226]; with_reducible exact H2_) | (have H2_ := (Option.bind_some _ _).symm.trans H; with_reducible exact H2_) | with_reducible exact H | (rw [hy226]; exact H) | exact H
      have Ny226 := zb.mk hy226
      clear hy226
      obtain rfl := Option.some.inj H
      go_wp2_with (first | ((with_reducible refine qa (b := .append) (xs := #[.tmp 43, .tmp 45]) rfl ?_); at_builtin; refine Kd.R_append Kd.string (w0 := w) w.heap.size rfl (.tmp 43) (.tmp 45) 23 9 (.string ⟨#[]⟩) 16 rfl Try.underlying23 info9 rfl (by decide) (by omega) u5 x5_1 a1 [.string a1] (fun _ => True) (fun _ => False) rfl rfl ?aP (fun _ hk => hk.elim) ?aF ?aO ?aB ?aS ?aL ?_; (case aP => exact rfl); (case aB => exact (ub HB.out)); (case aF => exact (fun _ _ => trivial)); (case aO => exact (ur HO_5.out)); (case aS => exact (zi (ub HB.out))); (case aL => have := LMc23.out; omega); intro v227 w24 ho hb hg hat; rw [← Ny226.out] at ho; have n0_ := zb.mk (hb); have n1_ := zb.mk (ho); clear HB; clear HO_5; have HB := n0_; have HO228 := n1_; clear n0_ n1_; clear ho hb hg hat))
      go_ret
      exact ⟨_, by first | rfl | (simp [zA, zz] <;> rfl) | (simp [*, zA, zz] <;> rfl), by (with_reducible repeat (first | apply Kd.qA | apply Kd.qz | apply Kd.R_drew)); exact HO228.out, ub HB.out⟩
     ·rw [if_neg c23] at H
      exact absurd H (by simp)
end Go.Proofs.Ytmgbfgloegcloaa.Ps
namespace Go.Proofs.Ytmgbfgloegcloaa.Ps
open Go.RowKit Go.Proofs.YtmgbfgloegcloaaW.PrintWords Go.Proofs.YtmgbfgloegcloaaW.PrintLast Go.Proofs.YtmgbfgloegcloaaW.PrintMore
attribute [local go_sem] yD yB yR yQ ym yl yC yA
set_option linter.unusedVariables false
set_option linter.unusedSimpArgs false
set_option maxHeartbeats 8000000 in
set_option maxRecDepth 100000 in
theorem zp.calls (k : Nat) (A0 : Option Addr) (c0 : Nat) (l0 : List (S40)) (A1 : Option Addr) (c1 : Nat) (l1 : List ByteArray) (r : List ByteArray) (w : World) (hr0 : Kd.C k40 w A0 l0.length l0) (hc0 : l0.length ≤ c0) (hr1 : Kd.C Kd.string w A1 l1.length l1) (hc1 : l1.length ≤ c1) (h : zp.f k l0 l1 = some r) :
  Calls Try.prog 19 #[.slice A0 l0.length c0, .slice A1 l1.length c1] w fun e w' => ∃ v0_ : Value, e = .returned (v0_) ∧ Kd.R Kd.string 9 w' w.heap.size (fun _ => True) v0_ r ∧ Below w.heap.size w w' := by
 have HR0 := zb.mk hr0
 have HC0 := zb.mk hc0
 clear hr0 hc0
 have HR1 := zb.mk hr1
 have HC1 := zb.mk hc1
 clear hr1 hc1
 have HB := zb.mk (Below.refl w.heap.size w)
 have H : (zp.l0 k l0 l1 ([] : List ByteArray) (l1.length : Int) 0) = some r := h
 clear h
 have H' := zb.mk H
 clear H
 go_enter Try.func19, Try.ntmps19
 go_wp2
 go_loopg [5, 10] k (fun kq v5 v10 w' => ∃ (x5_1 : List ByteArray) (x10_1 : Int), v10 = .int .i64 x10_1 ∧ zb (zp.l0 kq l0 l1 x5_1 (l1.length : Int) x10_1 = some r) ∧ zb (kq ≤ k) ∧ zb (Kd.R Kd.string 9 w' w.heap.size (fun _ => True) v5 x5_1) ∧ zb (Below w.heap.size w w'))
 case atStart => exact ⟨(([] : List ByteArray)), (0), (by first | rfl | (simp; done) | (simp [*]; done)), H', ⟨Nat.le_refl _⟩, ⟨by first | exact Kd.R_nil _ _ _ _ _ | exact Kd.N_nil _ _ _ _ _ | exact Kd.V_nil _ _ _ _ _ | exact Kd.Q_nil _ _ _ _ _ | exact Kd.S_nil _ _ _ _ _⟩, ⟨ub HB.out⟩⟩
 case round =>
  clear H'
  try clear c1
  try clear p2
  obtain ⟨x5_1, x10_1, rfl, HA, HK1, HO_5, HB⟩ := hrel
  cases gk with
  | zero => exact absurd HA.out (by simp [zp.l0])
  | succ k1 =>
   have H := HA.out
   clear HA
   simp only [zp.l0] at H
   by_cases c3 : x10_1 < (l1.length : Int)
   ·rw [if_pos c3] at H
    have c3b0 : decide (x10_1 < (l1.length : Int)) = true := decide_eq_true c3
    clear c3
    by_cases c4 : 0 ≤ x10_1
    ·rw [if_pos c4] at H
     have c4b0 : decide (0 ≤ x10_1) = true := decide_eq_true c4
     clear c4
     by_cases c5 : x10_1 < (l1.length : Int)
     ·rw [if_pos c5] at H
      have c5b0 : decide (x10_1 < (l1.length : Int)) = true := decide_eq_true c5
      clear c5
      replace H := Option.bind_eq_some_iff.mp H
      obtain ⟨t244, A60, H⟩ := H
      replace H : (zp.l0 k1 l0 l1 t244 (l1.length : Int) (wrap64 (x10_1 + 1))) = some r := H
      have A6 := zb.mk A60
      clear A60
      have H' := zb.mk H
      clear H
      have p243 : 0 ≤ (x10_1 : Int) := zdd
      have q243 : x10_1 < (l1.length : Int) := zdd
      obtain ⟨ad243, e243, hx243_0⟩ := Kd.yX HR1.out x10_1 p243 q243
      cases e243
      replace hx243_0 := zg HB.out hx243_0
      replace p243 := eq_true p243
      replace q243 := eq_true q243
      obtain ⟨Ao7, co7, eo7⟩ := Kd.yx HO_5.out
      subst eo7
      go_wp2_with (first | ((with_reducible refine zP (f := 32) rfl ?_); refine yH (some 18) rfl rfl Try.func32 (by kernel_rfl) rfl #[.slice Ao7 x5_1.length co7, .string (rdOf ByteArray.empty l1 x10_1)] rfl (by (try simp only [List.map_toArray, List.map_cons, List.map_nil]); first | done | rfl | (simp only [List.length_drop, List.length_take]; rfl)) ?_; (with_reducible refine (zr.calls k1 _ _ x5_1 (rdOf ByteArray.empty l1 x10_1) t244 _ ?side1 ?side2 A6.out).mono ?_); (case side1 => repeat (first | exact (Kd.zU HO_5.out).2.2 | (with_reducible refine Kd.yw ?_ _) | (with_reducible refine Kd.yv ?_ _) | (with_reducible refine Kd.yP ?_))); (case side2 => exact (Kd.zU HO_5.out).2.1); rintro e w8 ⟨v245, rfl, ho0, hb⟩; refine ⟨_, rfl, ?_⟩; have n0_ := zb.mk (Kd.qH (ur HO_5.out) (Kd.yI ho0) hb); have n1_ := zb.mk (Kd.yr (Kd.R_new' ho0 (Kd.R_lt (ur HO_5.out))) (zi (ub HB.out))); have n2_ := zb.mk (zn (ub HB.out) hb); clear HO_5; clear HB; have HO_5 := n0_; have HO246 := n1_; have HB := n2_; clear n0_ n1_ n2_; (try clear hb); (try clear hb2); (try clear hk); (try clear hi); (try clear ho0)))
      go_roundg k1
      case measure => have := HK1.out; omega
      case rel => exact ⟨(t244), (wrap64 (x10_1 + 1)), (by first | rfl | (simp; done) | (simp [*]; done)), H', ⟨by have := HK1.out; omega⟩, ⟨ur (Kd.yt HO246.out (fun _ hk => trivial))⟩, ⟨ub HB.out⟩⟩
     ·rw [if_neg c5] at H
      exact absurd H (by simp)
    ·rw [if_neg c4] at H
     exact absurd H (by simp)
   ·rw [if_neg c3] at H
    have c3b0 : decide (x10_1 < (l1.length : Int)) = false := decide_eq_false c3
    clear c3
    have H' := zb.mk H
    clear H
    go_wp2
    go_loopg [5, 22] k1 (fun kq v5 v22 w' => ∃ (x5_2 : List ByteArray) (x22_2 : Int), v22 = .int .i64 x22_2 ∧ zb (zp.l1 kq l0 x5_2 (l0.length : Int) x22_2 = some r) ∧ zb (kq ≤ k1) ∧ zb (Kd.R Kd.string 9 w' w.heap.size (fun _ => True) v5 x5_2) ∧ zb (Below w.heap.size w w'))
    case atStart => exact ⟨(x5_1), (0), (by first | rfl | (simp; done) | (simp [*]; done)), H', ⟨Nat.le_refl _⟩, ⟨ur HO_5.out⟩, ⟨ub HB.out⟩⟩
    case round =>
     clear H'
     try clear c1
     try clear p2
     try clear q2
     try clear hx2
     try clear c3
     try clear c3b0
     try clear c4
     try clear c4b0
     try clear c5
     try clear c5b0
     try clear p6
     try clear hx243_0
     try clear p2
     try clear p243
     try clear q243
     obtain ⟨x5_2, x22_2, rfl, HA, HK2, HO_5, HB⟩ := hrel
     cases gk with
     | zero => exact absurd HA.out (by simp [zp.l1])
     | succ k2 =>
      have H := HA.out
      clear HA
      simp only [zp.l1] at H
      by_cases c9 : x22_2 < (l0.length : Int)
      ·rw [if_pos c9] at H
       have c9b0 : decide (x22_2 < (l0.length : Int)) = true := decide_eq_true c9
       clear c9
       by_cases c10 : 0 ≤ x22_2
       ·rw [if_pos c10] at H
        have c10b0 : decide (0 ≤ x22_2) = true := decide_eq_true c10
        clear c10
        by_cases c11 : x22_2 < (l0.length : Int)
        ·rw [if_pos c11] at H
         have c11b0 : decide (x22_2 < (l0.length : Int)) = true := decide_eq_true c11
         clear c11
         by_cases c12 : ((yf l0 x22_2).f0).toList = ([] : List UInt8)
         ·rw [if_pos c12] at H
          have c12b0 : (((yf l0 x22_2).f0).toList == ([] : List UInt8)) = true := beq_iff_eq.mpr c12
          have c12b1 : (((yf l0 x22_2).f0).toList != ([] : List UInt8)) = false := bne_eq_false_iff_eq.mpr c12
          clear c12
          have H' := zb.mk H
          clear H
          have p247 : 0 ≤ (x22_2 : Int) := zdd
          have q247 : x22_2 < (l0.length : Int) := zdd
          obtain ⟨ad247, e247, hx247_0, hx247_1, hx247_2, hx247_3⟩ := at_T40 HR0.out x22_2 p247 q247
          cases e247
          obtain ⟨hx247_0, hx247_1, hx247_2, hx247_3⟩ := lift4 HB.out hx247_0 hx247_1 hx247_2 hx247_3
          replace p247 := eq_true p247
          replace q247 := eq_true q247
          go_wp2
          go_roundg k2
          case measure => have := HK1.out; have := HK2.out; omega
          case rel => exact ⟨(x5_2), (wrap64 (x22_2 + 1)), (by first | rfl | (simp; done) | (simp [*]; done)), H', ⟨by have := HK1.out; have := HK2.out; omega⟩, ⟨ur HO_5.out⟩, ⟨ub HB.out⟩⟩
         ·rw [if_neg c12] at H
          have c12b0 : (((yf l0 x22_2).f0).toList == ([] : List UInt8)) = false := beq_eq_false_iff_ne.mpr c12
          have c12b1 : (((yf l0 x22_2).f0).toList != ([] : List UInt8)) = true := bne_iff_ne.mpr c12
          replace H := Option.bind_eq_some_iff.mp H
          obtain ⟨t249, A130, H⟩ := H
          replace H : (zp.l1 k2 l0 t249 (l0.length : Int) (wrap64 (x22_2 + 1))) = some r := H
          have A13 := zb.mk A130
          clear A130
          have H' := zb.mk H
          clear H
          have p247 : 0 ≤ (x22_2 : Int) := zdd
          have q247 : x22_2 < (l0.length : Int) := zdd
          obtain ⟨ad247, e247, hx247_0, hx247_1, hx247_2, hx247_3⟩ := at_T40 HR0.out x22_2 p247 q247
          cases e247
          obtain ⟨hx247_0, hx247_1, hx247_2, hx247_3⟩ := lift4 HB.out hx247_0 hx247_1 hx247_2 hx247_3
          replace p247 := eq_true p247
          replace q247 := eq_true q247
          have p248 : 0 ≤ (x22_2 : Int) := zdd
          have q248 : x22_2 < (l0.length : Int) := zdd
          obtain ⟨ad248, e248, hx248_0, hx248_1, hx248_2, hx248_3⟩ := at_T40 HR0.out x22_2 p248 q248
          obtain rfl : ad247 = ad248 := (by injection e248)
          obtain ⟨hx248_0, hx248_1, hx248_2, hx248_3⟩ := lift4 HB.out hx248_0 hx248_1 hx248_2 hx248_3
          replace p248 := eq_true p248
          replace q248 := eq_true q248
          obtain ⟨Ao14, co14, eo14⟩ := Kd.yx HO_5.out
          subst eo14
          go_wp2_with (first | ((with_reducible refine zP (f := 32) rfl ?_); refine yH (some 37) rfl rfl Try.func32 (by kernel_rfl) rfl #[.slice Ao14 x5_2.length co14, .string ((yf l0 x22_2).f0)] rfl (by (try simp only [List.map_toArray, List.map_cons, List.map_nil]); first | done | rfl | (simp only [List.length_drop, List.length_take]; rfl)) ?_; (with_reducible refine (zr.calls k2 _ _ x5_2 ((yf l0 x22_2).f0) t249 _ ?side1 ?side2 A13.out).mono ?_); (case side1 => repeat (first | exact (Kd.zU HO_5.out).2.2 | (with_reducible refine Kd.yw ?_ _) | (with_reducible refine Kd.yv ?_ _) | (with_reducible refine Kd.yP ?_))); (case side2 => exact (Kd.zU HO_5.out).2.1); rintro e w15 ⟨v250, rfl, ho0, hb⟩; refine ⟨_, rfl, ?_⟩; have n0_ := zb.mk (Kd.qH (ur HO_5.out) (Kd.yI ho0) hb); have n1_ := zb.mk (Kd.yr (Kd.R_new' ho0 (Kd.R_lt (ur HO_5.out))) (zi (ub HB.out))); have n2_ := zb.mk (zn (ub HB.out) hb); clear HO_5; clear HB; have HO_5 := n0_; have HO251 := n1_; have HB := n2_; clear n0_ n1_ n2_; (try clear hb); (try clear hb2); (try clear hk); (try clear hi); (try clear ho0)))
          go_roundg k2
          case measure => have := HK1.out; have := HK2.out; omega
          case rel => exact ⟨(t249), (wrap64 (x22_2 + 1)), (by first | rfl | (simp; done) | (simp [*]; done)), H', ⟨by have := HK1.out; have := HK2.out; omega⟩, ⟨ur (Kd.yt HO251.out (fun _ hk => trivial))⟩, ⟨ub HB.out⟩⟩
        ·rw [if_neg c11] at H
         exact absurd H (by simp)
       ·rw [if_neg c10] at H
        exact absurd H (by simp)
      ·rw [if_neg c9] at H
       have c9b0 : decide (x22_2 < (l0.length : Int)) = false := decide_eq_false c9
       clear c9
       obtain rfl := Option.some.inj H
       go_wp2
       go_ret
       exact ⟨_, by first | rfl | (simp [zA, zz] <;> rfl) | (simp [*, zA, zz] <;> rfl), by (with_reducible repeat (first | apply Kd.qA | apply Kd.qz | apply Kd.R_drew)); exact HO_5.out, ub HB.out⟩
end Go.Proofs.Ytmgbfgloegcloaa.Ps
