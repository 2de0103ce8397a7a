/- THE WALKS OF THE REFERENCE'S FUNCTIONS ON float64: each comes to what the plain laws name. No condition. -/
import Derived.Test.YtolefpeiceiocaaGreatW1
import Derived.LoopTactic
import Derived.Lib.Hide
import Derived.Test.YtolefpeiceiocaaGreatW4
namespace Go.Proofs.YtolefpeiceiocaaGreat
open Go.RowKit AnteFlo

theorem refRight_any (n : Int) (w : World) : Calls Tryz.prog 40 #[.int .i64 n] w fun e w' => e = .returned (.bool (right n)) ∧ w = w' := by
  go_enter Tryz.func40, Tryz.ntmps40
  go_wp2
  all_goals go_ret
  · exact ⟨by simp [right, *], rfl⟩
  · have h : n ≤ 9218868437227405312 := by assumption
    exact ⟨by simp [right, h], rfl⟩
  · have h : 9218868437227405312 < n := by assumption
    have h' : ¬ n ≤ 9218868437227405312 := by omega
    exact ⟨by simp [right, h'], rfl⟩

theorem ge_run {r q : Nat} (hr : r ≤ 9218868437227405312) (hq : q ≤ 9218868437227405312) : (FloatKind.f64.format.order r q == some .gt || FloatKind.f64.format.order r q == some .eq) = decide (q ≤ r) := cmp_ge hr hq
theorem lt_run {r q : Nat} (hr : r ≤ 9218868437227405312) (hq : q ≤ 9218868437227405312) : (FloatKind.f64.format.order r q == some .lt) = decide (r < q) := cmp_lt hr hq
theorem eq_run {r q : Nat} (hr : r ≤ 9218868437227405312) (hq : q ≤ 9218868437227405312) : (FloatKind.f64.format.order r q == some .eq) = decide (r = q) := cmp_eq hr hq

theorem div_run {x y r : Nat} (h : D.div x y = some r) (t : TypeId) (w : World) : (binOp .quo t (.float .f64 x) (.float .f64 y)).run Tryz.prog w = .ok (.float .f64 r) w := run_float_arith w .quo t .f64 x y r h
theorem mul_run {x y r : Nat} (h : D.mul x y = some r) (t : TypeId) (w : World) : (binOp .mul t (.float .f64 x) (.float .f64 y)).run Tryz.prog w = .ok (.float .f64 r) w := run_float_arith w .mul t .f64 x y r h
theorem sub_run {x y r : Nat} (h : D.sub x y = some r) (t : TypeId) (w : World) : (binOp .sub t (.float .f64 x) (.float .f64 y)).run Tryz.prog w = .ok (.float .f64 r) w := run_float_arith w .sub t .f64 x y r h

/-- what a slot holds -/
def fltOf : Value → Nat
  | .float _ b => b
  | _ => 0

/-- the sign of what is no NaN -/
theorem negative_any (s : Bool) {r : Nat} (hr : r ≤ 9218868437227405312) (w : World) : Calls Tryz.prog 42 #[.float .f64 (D.word s r)] w fun e w' => e = .returned (.bool s) ∧ w = w' := by
  have h1 : (FloatKind.f64.format.order (D.word s r) 0 == some .eq) = decide (r = 0) := order_zero_eq s hr
  by_cases h0 : r = 0
  · subst h0
    rw [decide_eq_true rfl] at h1
    have h2 := div_run (x := 4607182418800017408) (y := D.word s 0) (r := D.word s 9218868437227405312) (by
      have := div_word_zero false s (r := 4607182418800017408) (by omega) (by omega)
      rw [word_false] at this; rw [this]; simp)
    have h3 : (FloatKind.f64.format.order (D.word s 9218868437227405312) 0 == some .lt) = (s && decide (9218868437227405312 ≠ 0)) := order_zero_lt s (by omega)
    generalize D.word s 0 = x at *
    generalize D.word s 9218868437227405312 = y at *
    go_enter Tryz.func42, Tryz.ntmps42
    go_wp2
    go_ret
    exact ⟨by simp, rfl⟩
  · rw [decide_eq_false h0] at h1
    have h3 : (FloatKind.f64.format.order (D.word s r) 0 == some .lt) = s := by
      have := order_zero_lt s hr
      rw [decide_eq_true h0, Bool.and_true] at this; exact this
    generalize D.word s r = x at *
    go_enter Tryz.func42, Tryz.ntmps42
    go_wp2
    go_ret
    exact ⟨rfl, rfl⟩

theorem bits_any {r0 : Nat} (hr : r0 ≤ 9218868437227405312) (w : World) : Calls Tryz.prog 43 #[.float .f64 r0] w fun e w' => e = .returned (.int .i64 (r0 : Int)) ∧ w = w' := by
  by_cases h0 : r0 = 0
  · subst h0
    have h1 := eq_run (r := 0) (q := 0) (by omega) (by omega)
    go_enter Tryz.func43, Tryz.ntmps43
    go_wp2
    go_ret
    exact ⟨rfl, rfl⟩
  · have h1 := eq_run (r := r0) (q := 0) hr (by omega)
    rw [decide_eq_false h0] at h1
    by_cases hi : r0 = 9218868437227405312
    · subst hi
      have h2 := div_run half_inf
      have h3 := eq_run (r := 9218868437227405312) (q := 9218868437227405312) (by omega) (by omega)
      go_enter Tryz.func43, Tryz.ntmps43
      go_wp2
      go_ret
      exact ⟨rfl, rfl⟩
    · obtain ⟨q, hq1, hq2, hq3⟩ := half_ne (r := r0) h0 (by omega)
      have h2 := div_run hq3
      have h3 := eq_run hr hq1
      rw [decide_eq_false (fun e => hq2 e.symm)] at h3
      clear hq1 hq2 hq3
      go_enter Tryz.func43, Tryz.ntmps43
      go_wp2_with fail
      have hm := mag_lt r0
      go_loop [0, 3] (fun f e => ∃ r k : Nat, f = .float .f64 r ∧ e = .int .i64 (k : Int) ∧ r + (k - 1023) * 4503599627370496 = r0 ∧ 1023 ≤ k ∧ (k = 1023 ∨ 4607182418800017408 ≤ r)) (fun f _ => fltOf f)
      case atStart => exact ⟨r0, 1023, rfl, rfl, by omega, by omega, .inl rfl⟩
      case round =>
        obtain ⟨r, k, rfl, rfl, hk, hk0, hk2⟩ := hrel
        have g1 := ge_run (r := r) (q := 4611686018427387904) (by omega) (by omega)
        have hb : (k : Int) ≤ 4000 := by omega
        have hb0 : 0 ≤ (k : Int) := by omega
        have HK := Lib.hid hk
        clear hk
        by_cases hge : 4611686018427387904 ≤ r
        · rw [decide_eq_true hge] at g1
          have hk := HK.out
          have g2 := div_run (half_nat (r := r) (by omega) (by omega))
          clear hk
          obtain ⟨x, hx⟩ : ∃ x, r - 4503599627370496 = x := ⟨_, rfl⟩
          rw [hx] at g2
          have HX := Lib.hid hx
          clear hx
          go_wp2
          go_round
          case rel =>
            have hk := HK.out
            have hx := HX.out
            exact ⟨x, k + 1, rfl, by go_num, by omega, by omega, .inr (by omega)⟩
          case measure =>
            have hx := HX.out
            change x < r; omega
        · rw [decide_eq_false hge] at g1
          go_wp2
          clear g1
          -- behind the halving: the doubling
          have HS : Hid (Ph2 r0 r k) := ph2_start HK.out hk0 hk2 (by omega)
          have hr2 : r < 4611686018427387904 := by omega
          clear hge hk2 HK hm
          go_loop [0, 3] (fun f e => ∃ r k : Nat, f = .float .f64 r ∧ e = .int .i64 (k : Int) ∧ r < 4611686018427387904 ∧ 1 ≤ k ∧ k ≤ 4000 ∧ Ph2 r0 r k) (fun _ e => (intOf e).toNat)
          case atStart => exact ⟨r, k, rfl, rfl, hr2, by omega, by omega, HS.out⟩
          case round =>
            clear hr2 hb hb0 hk0 HS
            obtain ⟨r, k, rfl, rfl, hr2, hk1, hk3, hrel⟩ := hrel
            have HR := Lib.hid hrel
            clear hrel
            have g1 : (FloatKind.f64.format.order r 4607182418800017408 == some .lt) = decide (r < 4607182418800017408) := lt_run (r := r) (q := 4607182418800017408) (by omega) (by omega)
            by_cases hgo : r < 4607182418800017408 ∧ 1 < k
            · obtain ⟨hlt, hk4⟩ := hgo
              rw [decide_eq_true hlt] at g1
              have g2 := mul_run (dbl_nat hlt)
              have g3 : decide ((1 : Int) < (k : Int)) = true := by simp; omega
              go_wp2
              go_round
              case rel =>
                have := ph2_step HR.out hlt hk4
                exact ⟨dbl r, k - 1, rfl, by go_num, this.2, by omega, by omega, this.1⟩
              case measure => simp [intOf]; omega
            · have HE : Hid (k = expo r0 + 1 ∧ val r = mag r0 * pw 1022) := ph2_end HR.out hr2 hk1 (by omega)
              have HM : Hid (mag r0 < 9007199254740992) := mag_lt r0
              rcases Nat.lt_or_ge r 4607182418800017408 with hlt | hge
              · rw [decide_eq_true hlt] at g1
                have g3 : decide ((1 : Int) < (k : Int)) = false := by simp; omega
                clear hgo hlt
                go_wp2
                clear g3
                clear g1 HR hr2
                go_loop [0, 4, 5] (fun f d j => ∃ r i : Nat, f = .float .f64 r ∧ d = .int .i64 ((digits (mag r0) i : Nat) : Int) ∧ j = .int .i64 (i : Int) ∧ i ≤ 53 ∧ Ph3 (mag r0) r i) (fun _ _ j => 53 - (intOf j).toNat)
                case atStart => exact ⟨r, 0, rfl, by rw [digits_zero HM.out]; rfl, rfl, by omega, ph3_start HM.out HE.out.2⟩
                case round =>
                  obtain ⟨r, i, rfl, rfl, rfl, hi, hrel⟩ := hrel
                  have hr2 := ph3_lt hrel
                  have HR := Lib.hid hrel
                  clear hrel
                  have hd := digits_le HM.out hi
                  obtain ⟨d, HD⟩ : ∃ d, Hid (digits (mag r0) i = d) := ⟨_, rfl⟩
                  rw [HD.out] at hd ⊢
                  by_cases hlt : i < 53
                  · have g1 := ge_run (r := r) (q := 4607182418800017408) (by omega) (by omega)
                    have hd2 := digits_le HM.out (i := i + 1) (by omega)
                    rcases Nat.lt_or_ge r 4607182418800017408 with hs | hs
                    · rw [decide_eq_false (by omega)] at g1
                      obtain ⟨p, p1, p2, p3⟩ := ph3_low HR.out hs
                      have g2 := mul_run p1
                      rw [HD.out] at p3
                      have hd3 : 2 * d ≤ 9007199254740991 := by omega
                      have P2 := Lib.hid p2
                      have P3 := Lib.hid p3
                      clear p1 p2 p3 hd2 hs
                      go_wp2
                      go_round
                      case rel => exact ⟨p, i + 1, rfl, by rw [P3.out]; go_num, by go_num, by omega, P2.out⟩
                      case measure => simp [intOf]; omega
                    · rw [decide_eq_true hs] at g1
                      obtain ⟨q', p, p1, p0, p2, p3⟩ := ph3_high HR.out hs
                      have g2 := sub_run p1
                      have g3 := mul_run p0
                      rw [HD.out] at p3
                      have hd3 : 2 * d + 1 ≤ 9007199254740991 := by omega
                      have P2 := Lib.hid p2
                      have P3 := Lib.hid p3
                      clear p1 p2 p3 p0 hd2 hs
                      go_wp2
                      go_round
                      case rel => exact ⟨p, i + 1, rfl, by rw [P3.out]; go_num, by go_num, by omega, P2.out⟩
                      case measure => simp [intOf]; omega
                  · have hi53 : i = 53 := by omega
                    have hdm : mag r0 = d := by rw [← HD.out, hi53, digits_end]
                    have HDM := Lib.hid hdm
                    have hend := bits_end r0
                    have hke := HE.out.1
                    rw [hdm, ← hke] at hend
                    have HEND := Lib.hid hend
                    clear hdm hi53 hend hke hr2
                    rcases Nat.lt_or_ge d 4503599627370496 with hs | hs
                    · have hs2 : ((d : Int) < 4503599627370496) = True := eq_true (by omega)
                      have HS := Lib.hid hs
                      clear hs
                      go_wp2
                      go_ret
                      have hend := HEND.out
                      have hs := HS.out
                      exact ⟨ret_int (by omega), rfl⟩
                    · have hs2 : ((d : Int) < 4503599627370496) = False := eq_false (by omega)
                      have HS := Lib.hid hs
                      clear hs
                      go_wp2
                      go_ret
                      have hend := HEND.out
                      have hs := HS.out
                      exact ⟨ret_int (by unfold wrap64; omega), rfl⟩
              · rw [decide_eq_false (by omega)] at g1
                clear hgo hge
                go_wp2
                clear g1 HR hr2
                go_loop [0, 4, 5] (fun f d j => ∃ r i : Nat, f = .float .f64 r ∧ d = .int .i64 ((digits (mag r0) i : Nat) : Int) ∧ j = .int .i64 (i : Int) ∧ i ≤ 53 ∧ Ph3 (mag r0) r i) (fun _ _ j => 53 - (intOf j).toNat)
                case atStart => exact ⟨r, 0, rfl, by rw [digits_zero HM.out]; rfl, rfl, by omega, ph3_start HM.out HE.out.2⟩
                case round =>
                  obtain ⟨r, i, rfl, rfl, rfl, hi, hrel⟩ := hrel
                  have hr2 := ph3_lt hrel
                  have HR := Lib.hid hrel
                  clear hrel
                  have hd := digits_le HM.out hi
                  obtain ⟨d, HD⟩ : ∃ d, Hid (digits (mag r0) i = d) := ⟨_, rfl⟩
                  rw [HD.out] at hd ⊢
                  by_cases hlt : i < 53
                  · have g1 := ge_run (r := r) (q := 4607182418800017408) (by omega) (by omega)
                    have hd2 := digits_le HM.out (i := i + 1) (by omega)
                    rcases Nat.lt_or_ge r 4607182418800017408 with hs | hs
                    · rw [decide_eq_false (by omega)] at g1
                      obtain ⟨p, p1, p2, p3⟩ := ph3_low HR.out hs
                      have g2 := mul_run p1
                      rw [HD.out] at p3
                      have hd3 : 2 * d ≤ 9007199254740991 := by omega
                      have P2 := Lib.hid p2
                      have P3 := Lib.hid p3
                      clear p1 p2 p3 hd2 hs
                      go_wp2
                      go_round
                      case rel => exact ⟨p, i + 1, rfl, by rw [P3.out]; go_num, by go_num, by omega, P2.out⟩
                      case measure => simp [intOf]; omega
                    · rw [decide_eq_true hs] at g1
                      obtain ⟨q', p, p1, p0, p2, p3⟩ := ph3_high HR.out hs
                      have g2 := sub_run p1
                      have g3 := mul_run p0
                      rw [HD.out] at p3
                      have hd3 : 2 * d + 1 ≤ 9007199254740991 := by omega
                      have P2 := Lib.hid p2
                      have P3 := Lib.hid p3
                      clear p1 p2 p3 p0 hd2 hs
                      go_wp2
                      go_round
                      case rel => exact ⟨p, i + 1, rfl, by rw [P3.out]; go_num, by go_num, by omega, P2.out⟩
                      case measure => simp [intOf]; omega
                  · have hi53 : i = 53 := by omega
                    have hdm : mag r0 = d := by rw [← HD.out, hi53, digits_end]
                    have HDM := Lib.hid hdm
                    have hend := bits_end r0
                    have hke := HE.out.1
                    rw [hdm, ← hke] at hend
                    have HEND := Lib.hid hend
                    clear hdm hi53 hend hke hr2
                    rcases Nat.lt_or_ge d 4503599627370496 with hs | hs
                    · have hs2 : ((d : Int) < 4503599627370496) = True := eq_true (by omega)
                      have HS := Lib.hid hs
                      clear hs
                      go_wp2
                      go_ret
                      have hend := HEND.out
                      have hs := HS.out
                      exact ⟨ret_int (by omega), rfl⟩
                    · have hs2 : ((d : Int) < 4503599627370496) = False := eq_false (by omega)
                      have HS := Lib.hid hs
                      clear hs
                      go_wp2
                      go_ret
                      have hend := HEND.out
                      have hs := HS.out
                      exact ⟨ret_int (by unfold wrap64; omega), rfl⟩

/-- 0 less a number is it with the other sign -/
theorem zero_less {r : Nat} (hr : r ≤ 9218868437227405312) : D.sub 0 (D.word true r) = some r := by
  rw [sub_word 0 true (by omega)]
  rcases Nat.lt_or_ge r 9218868437227405312 with h | h
  · have := add_exact false false false (r := 0) (q := r) (x := r) (by omega) h h (by simp [sval, val_zero]) (fun _ => rfl)
    rw [word_false, word_false] at this; exact this
  · obtain rfl : r = 9218868437227405312 := by omega
    have := add_word_inf false false (r := 0) (by omega)
    rw [word_false, word_false] at this; exact this

theorem refCode_any {b : Nat} (hb : b < 18446744073709551616) (w : World) : Calls Tryz.prog 23 #[.float .f64 b] w fun e w' => e = .returned (.int .i64 (code b)) ∧ w = w' := by
  have ho := order_self hb
  rcases word_cases hb with h | ⟨s, r, hr, rfl⟩
  · rw [h] at ho
    have hc := code_nan h
    clear hb h
    go_enter Tryz.func23, Tryz.ntmps23
    go_wp2_with fail
    go_ret
    exact ⟨ret_int hc.symm, rfl⟩
  · rw [isNan_word s (by omega), decide_eq_false (by omega)] at ho
    have hc := code_word s hr
    clear hb
    cases s
    · have hn := negative_any false hr w
      rw [word_false] at hc ho hn ⊢
      simp only [Bool.false_eq_true, if_false] at hc
      have HC := Lib.hid hc
      clear hc
      go_enter Tryz.func23, Tryz.ntmps23
      go_wp2_with fail
      refine hn.mono ?_; rintro e w' ⟨rfl, rfl⟩
      go_wp2_with fail
      refine (bits_any hr _).mono ?_; rintro e w' ⟨rfl, rfl⟩
      go_wp2_with fail
      go_ret
      exact ⟨ret_int HC.out.symm, rfl⟩
    · have hn := negative_any true hr w
      have g := sub_run (zero_less hr)
      simp only [if_true] at hc
      have HC := Lib.hid hc
      clear hc
      generalize D.word true r = x at *
      go_enter Tryz.func23, Tryz.ntmps23
      go_wp2_with fail
      refine hn.mono ?_; rintro e w' ⟨rfl, rfl⟩
      go_wp2_with fail
      refine (bits_any hr _).mono ?_; rintro e w' ⟨rfl, rfl⟩
      go_wp2_with fail
      go_ret
      refine ⟨ret_int ?_, rfl⟩
      rw [HC.out]
end Go.Proofs.YtolefpeiceiocaaGreat
/- THE WALKS OF THE REFERENCE'S WAY BACK, OF same, awake AND THE FOUR OPERATIONS. No condition. -/
namespace Go.Proofs.YtolefpeiceiocaaGreat
open Go.RowKit AnteFlo

theorem float_of (n : Int) : floatOfInt .f64 n = ofInt n := rfl

theorem refBack_pos {n : Nat} (hn : n ≤ 9218868437227405312) (w : World) : Calls Tryz.prog 22 #[.int .i64 (n : Int)] w fun e w' => e = .returned (.float .f64 n) ∧ w = w' := by
  have hr : right (n : Int) = true := by unfold right; simp; omega
  have hne : ((n : Int) == 9221120237041090561) = false := beq_eq_false_iff_ne.2 (by omega)
  by_cases hi : n = 9218868437227405312
  · subst hi
    have g := div_run (x := 4607182418800017408) (y := 0) (r := 9218868437227405312) (by
      have := div_word_zero false false (r := 4607182418800017408) (by omega) (by omega)
      rw [word_false, word_false] at this; rw [this]; simp [word_false])
    go_enter Tryz.func22, Tryz.ntmps22
    go_wp2_with fail
    refine (refRight_any _ _).mono ?_; rintro e w' ⟨rfl, rfl⟩
    have hr2 : right 9218868437227405312 = true := hr
    go_wp2_with fail
    go_ret
    exact ⟨rfl, rfl⟩
  have hi2 : ((n : Int) == 9218868437227405312) = false := beq_eq_false_iff_ne.2 (by omega)
  have hsp := mag_split n
  obtain ⟨E, hE⟩ : ∃ E, n / 4503599627370496 = E := ⟨_, rfl⟩
  obtain ⟨M, hM⟩ : ∃ M, n % 4503599627370496 = M := ⟨_, rfl⟩
  have hE2 : ((n : Int) / 4503599627370496) = (E : Int) := by omega
  have hM2 : ((n : Int) % 4503599627370496) = (M : Int) := by omega
  have hMl : M < 4503599627370496 := by omega
  have hEl : E ≤ 2046 := by omega
  have HMl := Lib.hid hMl
  rw [hE, hM] at hsp
  by_cases hE0 : E = 0
  · obtain ⟨s1, s2⟩ := hsp.1 hE0
    clear hsp hE hM hi hMl
    subst hE0
    obtain ⟨m, hm⟩ : ∃ m, m = M := ⟨_, rfl⟩
    obtain ⟨e0, he0⟩ : ∃ e0, e0 = 1 := ⟨_, rfl⟩
    have HMag : Hid (mag n = m) := by rw [hm]; exact s1
    have HE0 : Hid (e0 = expo n + 1) := by rw [he0]; exact s2.symm
    have Hm : Hid (m < 9007199254740992) := by have := HMl.out; show m < _; omega
    obtain ⟨q0, Q0, Q1⟩ := bk_start (m := m) (e0 := e0) Hm.out
    have he2 : e0 ≤ 2046 := by omega
    have he1 : 1 ≤ e0 := by omega
    have HQ := Lib.hid Q0
    have fo : floatOfInt .f64 (M : Int) = q0 := by rw [float_of, ← hm]; exact Q1
    have hc0 : decide ((0 : Int) < 0) = false := by decide
    have hz : decide ((n : Int) < 0) = false := by simp
    clear s1 s2 Q0 Q1 hm hn
    have He0 := Lib.hid he0
    clear he0
    go_enter Tryz.func22, Tryz.ntmps22
    go_wp2_with fail
    refine (refRight_any _ _).mono ?_; rintro e w' ⟨rfl, rfl⟩
    rw [hr]
    go_wp2_with fail
    -- the loops
    clear hM2 hE2 hr hne hi2 fo hc0 hz
    go_loop [4, 6] (fun e f => ∃ r k : Nat, f = .float .f64 r ∧ e = .int .i64 (k : Int) ∧ 1 ≤ k ∧ k ≤ 2046 ∧ k ≤ e0 ∧ (k = e0 ∨ 1075 ≤ k) ∧ Bk m e0 r k) (fun e _ => (intOf e).toNat)
    case atStart => exact ⟨q0, e0, rfl, by rw [He0.out]; rfl, by omega, by omega, by omega, .inl rfl, HQ.out⟩
    case round =>
      obtain ⟨r, k, rfl, rfl, hk1, hk2, hk3, hk4, hrel⟩ := hrel
      have HR := Lib.hid hrel
      clear hrel
      have H4 := Lib.hid hk4
      clear hk4
      by_cases hgt : 1075 < k
      · obtain ⟨q, q1, q2⟩ := bk_up Hm.out HR.out hgt he2 hk3
        have g := mul_run q2
        have Q1 := Lib.hid q1
        clear q1 q2
        go_wp2
        go_round
        case rel => exact ⟨q, k - 1, rfl, by go_num, by omega, by omega, by have := H4.out; omega, by omega, Q1.out⟩
        case measure => simp [intOf]; omega
      · go_wp2
        go_loop [4, 6] (fun e f => ∃ r k : Nat, f = .float .f64 r ∧ e = .int .i64 (k : Int) ∧ 1 ≤ k ∧ k ≤ 1075 ∧ (k = 1075 ∨ e0 ≤ k) ∧ Bk m e0 r k) (fun e _ => 1075 - (intOf e).toNat)
        case atStart => have := H4.out; exact ⟨r, k, rfl, rfl, by omega, by omega, by omega, HR.out⟩
        case round =>
          clear HR hgt hk1 hk2 hk3 H4
          obtain ⟨r, k, rfl, rfl, hk1, hk2, hk4, hrel⟩ := hrel
          have HR := Lib.hid hrel
          clear hrel
          have H5 := Lib.hid hk4
          clear hk4
          by_cases hlt : k < 1075
          · obtain ⟨q, q1, q2⟩ := bk_down Hm.out HR.out hlt (by have := H5.out; omega) he1
            have g := div_run q2
            have Q1 := Lib.hid q1
            clear q1 q2
            have hki : ((k : Int) < 1075) = True := eq_true (by omega)
            have hkj : (k : Int) ≤ 2000 := by omega
            have H6 := Lib.hid hlt
            have H7 := Lib.hid hk2
            clear hlt hk2
            go_wp2
            have hlt := H6.out
            have hk2 := H7.out
            go_round
            case rel => exact ⟨q, k + 1, rfl, by go_num, by omega, by omega, by have := H5.out; omega, Q1.out⟩
            case measure => simp [intOf]; omega
          · have hkk : k = 1075 := by omega
            have HF : Hid (r = n) := by
              have h := HR.out
              rw [hkk, ← HMag.out] at h
              exact bk_end HE0.out h
            have hki : ((k : Int) < 1075) = False := eq_false (by omega)
            clear hkk hlt hk2
            go_wp2
            go_ret
            exact ⟨ret_float HF.out, rfl⟩
  · obtain ⟨s1, s2⟩ := hsp.2 (by omega)
    clear hsp hE hM hi hMl
    obtain ⟨m, hm⟩ : ∃ m, m = M + 4503599627370496 := ⟨_, rfl⟩
    obtain ⟨e0, he0⟩ : ∃ e0, e0 = E := ⟨_, rfl⟩
    have HMag : Hid (mag n = m) := by rw [hm]; exact s1
    have HE0 : Hid (e0 = expo n + 1) := by rw [he0]; exact s2.symm
    have Hm : Hid (m < 9007199254740992) := by have := HMl.out; show m < _; omega
    obtain ⟨q0, Q0, Q1⟩ := bk_start (m := m) (e0 := e0) Hm.out
    have he2 : e0 ≤ 2046 := by omega
    have he1 : 1 ≤ e0 := by omega
    have HQ := Lib.hid Q0
    have fo : floatOfInt .f64 ((M : Int) + 4503599627370496) = q0 := by rw [float_of]; rw [hm] at Q1; rw [← Q1]; rfl
    have hc0 : decide ((0 : Int) < (E : Int)) = true := by simp; omega
    have hz : decide ((n : Int) < 0) = false := by simp
    have hMi : (M : Int) ≤ 4503599627370496 := by have := HMl.out; omega
    clear s1 s2 Q0 Q1 hm hn
    have He0 := Lib.hid he0
    clear he0
    go_enter Tryz.func22, Tryz.ntmps22
    go_wp2_with fail
    refine (refRight_any _ _).mono ?_; rintro e w' ⟨rfl, rfl⟩
    rw [hr]
    go_wp2_with fail
    -- the loops
    clear hM2 hE2 hr hne hi2 fo hc0 hz hMi
    go_loop [4, 6] (fun e f => ∃ r k : Nat, f = .float .f64 r ∧ e = .int .i64 (k : Int) ∧ 1 ≤ k ∧ k ≤ 2046 ∧ k ≤ e0 ∧ (k = e0 ∨ 1075 ≤ k) ∧ Bk m e0 r k) (fun e _ => (intOf e).toNat)
    case atStart => exact ⟨q0, e0, rfl, by rw [He0.out], by omega, by omega, by omega, .inl rfl, HQ.out⟩
    case round =>
      obtain ⟨r, k, rfl, rfl, hk1, hk2, hk3, hk4, hrel⟩ := hrel
      have HR := Lib.hid hrel
      clear hrel
      have H4 := Lib.hid hk4
      clear hk4
      by_cases hgt : 1075 < k
      · obtain ⟨q, q1, q2⟩ := bk_up Hm.out HR.out hgt he2 hk3
        have g := mul_run q2
        have Q1 := Lib.hid q1
        clear q1 q2
        go_wp2
        go_round
        case rel => exact ⟨q, k - 1, rfl, by go_num, by omega, by omega, by have := H4.out; omega, by omega, Q1.out⟩
        case measure => simp [intOf]; omega
      · go_wp2
        go_loop [4, 6] (fun e f => ∃ r k : Nat, f = .float .f64 r ∧ e = .int .i64 (k : Int) ∧ 1 ≤ k ∧ k ≤ 1075 ∧ (k = 1075 ∨ e0 ≤ k) ∧ Bk m e0 r k) (fun e _ => 1075 - (intOf e).toNat)
        case atStart => have := H4.out; exact ⟨r, k, rfl, rfl, by omega, by omega, by omega, HR.out⟩
        case round =>
          clear HR hgt hk1 hk2 hk3 H4
          obtain ⟨r, k, rfl, rfl, hk1, hk2, hk4, hrel⟩ := hrel
          have HR := Lib.hid hrel
          clear hrel
          have H5 := Lib.hid hk4
          clear hk4
          by_cases hlt : k < 1075
          · obtain ⟨q, q1, q2⟩ := bk_down Hm.out HR.out hlt (by have := H5.out; omega) he1
            have g := div_run q2
            have Q1 := Lib.hid q1
            clear q1 q2
            have hki : ((k : Int) < 1075) = True := eq_true (by omega)
            have hkj : (k : Int) ≤ 2000 := by omega
            have H6 := Lib.hid hlt
            have H7 := Lib.hid hk2
            clear hlt hk2
            go_wp2
            have hlt := H6.out
            have hk2 := H7.out
            go_round
            case rel => exact ⟨q, k + 1, rfl, by go_num, by omega, by omega, by have := H5.out; omega, Q1.out⟩
            case measure => simp [intOf]; omega
          · have hkk : k = 1075 := by omega
            have HF : Hid (r = n) := by
              have h := HR.out
              rw [hkk, ← HMag.out] at h
              exact bk_end HE0.out h
            have hki : ((k : Int) < 1075) = False := eq_false (by omega)
            clear hkk hlt hk2
            go_wp2
            go_ret
            exact ⟨ret_float HF.out, rfl⟩
end Go.Proofs.YtolefpeiceiocaaGreat
/- THE WALK OF ref01.Back at any number. Condition: the range of an int64. -/
namespace Go.Proofs.YtolefpeiceiocaaGreat
open Go.RowKit AnteFlo
theorem drewN_drewN (w : World) (a b : Nat) : (w.drewN a).drewN b = w.drewN (a + b) := by
  unfold World.drewN; simp [Nat.add_assoc]

theorem refBack_any (n : Int) (hn : -9223372036854775808 ≤ n ∧ n ≤ 9223372036854775807) (w : World) :
    Calls Tryz.prog 22 #[.int .i64 n] w fun e w' => ∃ b, e = .returned (.float .f64 b) ∧ alike b (back n) ∧ b < 18446744073709551616 ∧ ∃ k, w' = w.drewN k := by
  rcases back_cases n with ⟨h, hb⟩ | ⟨s, r, hr, rfl, hb, h1, h2⟩
  · have hd := @run_fdiv Tryz.prog
    have hf : ∀ w : World, alike (fbits 3 0 0 w) (back n) := fun w => .inr ⟨fbits_none (by rw [fop3, show (0 : Nat) = D.word false 0 from (word_false 0).symm, div_zero_zero]) w, by rw [hb]; exact nan_is⟩
    have HF := Lib.hid hf
    clear hf
    have hc : right n = false ∨ (right n = true ∧ (n == 9221120237041090561) = true) := by
      rcases h with h | h
      · exact .inl h
      · subst h; exact .inr ⟨rfl, by simp⟩
    clear h hb
    rcases hc with hc | ⟨hc, hc2⟩
    · go_enter Tryz.func22, Tryz.ntmps22
      go_wp2_with fail
      refine (refRight_any _ _).mono ?_; rintro e w' ⟨rfl, rfl⟩
      go_wp2_with fail
      go_ret
      exact ⟨_, rfl, HF.out _, fbits_lt .., fworld_drewN ..⟩
    · go_enter Tryz.func22, Tryz.ntmps22
      go_wp2_with fail
      refine (refRight_any _ _).mono ?_; rintro e w' ⟨rfl, rfl⟩
      go_wp2_with fail
      go_ret
      exact ⟨_, rfl, HF.out _, fbits_lt .., fworld_drewN ..⟩
  · cases s
    · simp only [Bool.false_eq_true, if_false] at hb hn h1 h2 ⊢
      rw [hb]
      refine (refBack_pos hr w).mono ?_
      rintro e w' ⟨rfl, rfl⟩
      exact ⟨_, rfl, .inl (word_false r).symm, by omega, 0, rfl⟩
    · simp only [if_true] at hb hn h1 h2 ⊢
      rw [hb]
      have hne : ((-1 - (r : Int)) == 9221120237041090561) = false := beq_eq_false_iff_ne.2 h2
      by_cases h0 : r = 0
      · subst h0
        have g1 := div_run (x := 4607182418800017408) (y := 0) (r := 9218868437227405312) (by
          have := div_word_zero false false (r := 4607182418800017408) (by omega) (by omega)
          rw [word_false, word_false] at this; rw [this]; simp [word_false])
        have g2 := div_run (x := 13830554455654793216) (y := 9218868437227405312) (r := D.word true 0) (by
          have := div_word_inf true false (r := 4607182418800017408) (by omega)
          rw [word_false, word_true] at this; rw [this]; rfl)
        have hr1 : right (-1) = true := h1
        have HW : Hid (D.word true 0 < 18446744073709551616) := word_lt true (by omega)
        generalize D.word true 0 = y at *
        clear hb h1 h2 hn
        simp only [Int.natCast_zero, Int.sub_zero] at hne ⊢
        go_enter Tryz.func22, Tryz.ntmps22
        go_wp2_with fail
        refine (refRight_any _ _).mono ?_; rintro e w' ⟨rfl, rfl⟩
        go_wp2_with fail
        go_ret
        exact ⟨_, rfl, .inl rfl, HW.out, 0, rfl⟩
      · have g1 := sub_run (x := 0) (y := r) (r := D.word true r) (by
          have h := sub_word 0 false (q := r) (by omega)
          rw [word_false] at h
          rw [h]
          rcases Nat.lt_or_ge r 9218868437227405312 with hl | hl
          · have := add_exact false true true (r := 0) (q := r) (x := r) (by omega) hl hl (by simp [sval, val_zero]) (fun e => absurd e h0)
            rw [word_false] at this; exact this
          · obtain rfl : r = 9218868437227405312 := by omega
            have := add_word_inf false true (r := 0) (by omega)
            rw [word_false] at this; exact this)
        have HW : Hid (D.word true r < 18446744073709551616) := word_lt true (by omega)
        have hm1 : ((-1 - (r : Int)) == -1) = false := beq_eq_false_iff_ne.2 (by omega)
        have hlt : ((-1 - (r : Int)) < 0) = True := eq_true (by omega)
        have hback : (-1 - (-1 - (r : Int))) = (r : Int) := by omega
        have hb1 : (r : Int) ≤ 9223372036854775806 := by omega
        obtain ⟨n, hn'⟩ : ∃ n : Int, n = -1 - (r : Int) := ⟨_, rfl⟩
        rw [← hn'] at hne hm1 hlt hback h1 ⊢
        have HN := Lib.hid hn'
        generalize D.word true r = y at *
        clear hn' hb h2 hn h0
        go_enter Tryz.func22, Tryz.ntmps22
        go_wp2_with fail
        refine (refRight_any _ _).mono ?_; rintro e w' ⟨rfl, rfl⟩
        go_wp2_with fail
        refine (refBack_pos hr _).mono ?_; rintro e w' ⟨rfl, rfl⟩
        go_wp2_with fail
        go_ret
        exact ⟨_, rfl, .inl rfl, HW.out, 0, rfl⟩
end Go.Proofs.YtolefpeiceiocaaGreat
