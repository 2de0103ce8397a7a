/- THE WALKS OF THE REFERENCE'S WAY BACK, OF same, awake AND THE FOUR OPERATIONS. No condition. -/
import Derived.Test.YtcoidmkaddnkdaaW2
namespace Go.Proofs.Ytcoidmkaddnkdaa
open Go.RowKit AnteFlo

theorem float_of (n : Int) : floatOfInt .f64 n = ofInt n := rfl

theorem refBack_pos {n : Nat} (hn : n ≤ 9218868437227405312) (w : World) : Calls Try.prog 25 #[.int .i64 (n : Int)] w fun e w' => e = .returned (.float .f64 n) ∧ w = w' := by
  have hr : right (n : Int) = true := by unfold right; simp; omega
  have hne : ((n : Int) == 9221120237041090561) = false := beq_eq_false_iff_ne.2 (by omega)
  by_cases hi : n = 9218868437227405312
  · subst hi
    have g := div_run (x := 4607182418800017408) (y := 0) (r := 9218868437227405312) (by
      have := div_word_zero false false (r := 4607182418800017408) (by omega) (by omega)
      rw [word_false, word_false] at this; rw [this]; simp [word_false])
    go_enter Try.func25, Try.ntmps25
    go_wp2_with fail
    refine (refRight_any _ _).mono ?_; rintro e w' ⟨rfl, rfl⟩
    have hr2 : right 9218868437227405312 = true := hr
    go_wp2_with fail
    go_ret
    exact ⟨rfl, rfl⟩
  have hi2 : ((n : Int) == 9218868437227405312) = false := beq_eq_false_iff_ne.2 (by omega)
  have hsp := mag_split n
  obtain ⟨E, hE⟩ : ∃ E, n / 4503599627370496 = E := ⟨_, rfl⟩
  obtain ⟨M, hM⟩ : ∃ M, n % 4503599627370496 = M := ⟨_, rfl⟩
  have hE2 : ((n : Int) / 4503599627370496) = (E : Int) := by omega
  have hM2 : ((n : Int) % 4503599627370496) = (M : Int) := by omega
  have hMl : M < 4503599627370496 := by omega
  have hEl : E ≤ 2046 := by omega
  have HMl := Lib.hid hMl
  rw [hE, hM] at hsp
  by_cases hE0 : E = 0
  · obtain ⟨s1, s2⟩ := hsp.1 hE0
    clear hsp hE hM hi hMl
    subst hE0
    obtain ⟨m, hm⟩ : ∃ m, m = M := ⟨_, rfl⟩
    obtain ⟨e0, he0⟩ : ∃ e0, e0 = 1 := ⟨_, rfl⟩
    have HMag : Hid (mag n = m) := by rw [hm]; exact s1
    have HE0 : Hid (e0 = expo n + 1) := by rw [he0]; exact s2.symm
    have Hm : Hid (m < 9007199254740992) := by have := HMl.out; show m < _; omega
    obtain ⟨q0, Q0, Q1⟩ := bk_start (m := m) (e0 := e0) Hm.out
    have he2 : e0 ≤ 2046 := by omega
    have he1 : 1 ≤ e0 := by omega
    have HQ := Lib.hid Q0
    have fo : floatOfInt .f64 (M : Int) = q0 := by rw [float_of, ← hm]; exact Q1
    have hc0 : decide ((0 : Int) < 0) = false := by decide
    have hz : decide ((n : Int) < 0) = false := by simp
    clear s1 s2 Q0 Q1 hm hn
    have He0 := Lib.hid he0
    clear he0
    go_enter Try.func25, Try.ntmps25
    go_wp2_with fail
    refine (refRight_any _ _).mono ?_; rintro e w' ⟨rfl, rfl⟩
    rw [hr]
    go_wp2_with fail
    -- the loops
    clear hM2 hE2 hr hne hi2 fo hc0 hz
    go_loop [4, 6] (fun e f => ∃ r k : Nat, f = .float .f64 r ∧ e = .int .i64 (k : Int) ∧ 1 ≤ k ∧ k ≤ 2046 ∧ k ≤ e0 ∧ (k = e0 ∨ 1075 ≤ k) ∧ Bk m e0 r k) (fun e _ => (intOf e).toNat)
    case atStart => exact ⟨q0, e0, rfl, by rw [He0.out]; rfl, by omega, by omega, by omega, .inl rfl, HQ.out⟩
    case round =>
      obtain ⟨r, k, rfl, rfl, hk1, hk2, hk3, hk4, hrel⟩ := hrel
      have HR := Lib.hid hrel
      clear hrel
      have H4 := Lib.hid hk4
      clear hk4
      by_cases hgt : 1075 < k
      · obtain ⟨q, q1, q2⟩ := bk_up Hm.out HR.out hgt he2 hk3
        have g := mul_run q2
        have Q1 := Lib.hid q1
        clear q1 q2
        go_wp2
        go_round
        case rel => exact ⟨q, k - 1, rfl, by go_num, by omega, by omega, by have := H4.out; omega, by omega, Q1.out⟩
        case measure => simp [intOf]; omega
      · go_wp2
        go_loop [4, 6] (fun e f => ∃ r k : Nat, f = .float .f64 r ∧ e = .int .i64 (k : Int) ∧ 1 ≤ k ∧ k ≤ 1075 ∧ (k = 1075 ∨ e0 ≤ k) ∧ Bk m e0 r k) (fun e _ => 1075 - (intOf e).toNat)
        case atStart => have := H4.out; exact ⟨r, k, rfl, rfl, by omega, by omega, by omega, HR.out⟩
        case round =>
          clear HR hgt hk1 hk2 hk3 H4
          obtain ⟨r, k, rfl, rfl, hk1, hk2, hk4, hrel⟩ := hrel
          have HR := Lib.hid hrel
          clear hrel
          have H5 := Lib.hid hk4
          clear hk4
          by_cases hlt : k < 1075
          · obtain ⟨q, q1, q2⟩ := bk_down Hm.out HR.out hlt (by have := H5.out; omega) he1
            have g := div_run q2
            have Q1 := Lib.hid q1
            clear q1 q2
            have hki : ((k : Int) < 1075) = True := eq_true (by omega)
            have hkj : (k : Int) ≤ 2000 := by omega
            have H6 := Lib.hid hlt
            have H7 := Lib.hid hk2
            clear hlt hk2
            go_wp2
            have hlt := H6.out
            have hk2 := H7.out
            go_round
            case rel => exact ⟨q, k + 1, rfl, by go_num, by omega, by omega, by have := H5.out; omega, Q1.out⟩
            case measure => simp [intOf]; omega
          · have hkk : k = 1075 := by omega
            have HF : Hid (r = n) := by
              have h := HR.out
              rw [hkk, ← HMag.out] at h
              exact bk_end HE0.out h
            have hki : ((k : Int) < 1075) = False := eq_false (by omega)
            clear hkk hlt hk2
            go_wp2
            go_ret
            exact ⟨ret_float HF.out, rfl⟩
  · obtain ⟨s1, s2⟩ := hsp.2 (by omega)
    clear hsp hE hM hi hMl
    obtain ⟨m, hm⟩ : ∃ m, m = M + 4503599627370496 := ⟨_, rfl⟩
    obtain ⟨e0, he0⟩ : ∃ e0, e0 = E := ⟨_, rfl⟩
    have HMag : Hid (mag n = m) := by rw [hm]; exact s1
    have HE0 : Hid (e0 = expo n + 1) := by rw [he0]; exact s2.symm
    have Hm : Hid (m < 9007199254740992) := by have := HMl.out; show m < _; omega
    obtain ⟨q0, Q0, Q1⟩ := bk_start (m := m) (e0 := e0) Hm.out
    have he2 : e0 ≤ 2046 := by omega
    have he1 : 1 ≤ e0 := by omega
    have HQ := Lib.hid Q0
    have fo : floatOfInt .f64 ((M : Int) + 4503599627370496) = q0 := by rw [float_of]; rw [hm] at Q1; rw [← Q1]; rfl
    have hc0 : decide ((0 : Int) < (E : Int)) = true := by simp; omega
    have hz : decide ((n : Int) < 0) = false := by simp
    have hMi : (M : Int) ≤ 4503599627370496 := by have := HMl.out; omega
    clear s1 s2 Q0 Q1 hm hn
    have He0 := Lib.hid he0
    clear he0
    go_enter Try.func25, Try.ntmps25
    go_wp2_with fail
    refine (refRight_any _ _).mono ?_; rintro e w' ⟨rfl, rfl⟩
    rw [hr]
    go_wp2_with fail
    -- the loops
    clear hM2 hE2 hr hne hi2 fo hc0 hz hMi
    go_loop [4, 6] (fun e f => ∃ r k : Nat, f = .float .f64 r ∧ e = .int .i64 (k : Int) ∧ 1 ≤ k ∧ k ≤ 2046 ∧ k ≤ e0 ∧ (k = e0 ∨ 1075 ≤ k) ∧ Bk m e0 r k) (fun e _ => (intOf e).toNat)
    case atStart => exact ⟨q0, e0, rfl, by rw [He0.out], by omega, by omega, by omega, .inl rfl, HQ.out⟩
    case round =>
      obtain ⟨r, k, rfl, rfl, hk1, hk2, hk3, hk4, hrel⟩ := hrel
      have HR := Lib.hid hrel
      clear hrel
      have H4 := Lib.hid hk4
      clear hk4
      by_cases hgt : 1075 < k
      · obtain ⟨q, q1, q2⟩ := bk_up Hm.out HR.out hgt he2 hk3
        have g := mul_run q2
        have Q1 := Lib.hid q1
        clear q1 q2
        go_wp2
        go_round
        case rel => exact ⟨q, k - 1, rfl, by go_num, by omega, by omega, by have := H4.out; omega, by omega, Q1.out⟩
        case measure => simp [intOf]; omega
      · go_wp2
        go_loop [4, 6] (fun e f => ∃ r k : Nat, f = .float .f64 r ∧ e = .int .i64 (k : Int) ∧ 1 ≤ k ∧ k ≤ 1075 ∧ (k = 1075 ∨ e0 ≤ k) ∧ Bk m e0 r k) (fun e _ => 1075 - (intOf e).toNat)
        case atStart => have := H4.out; exact ⟨r, k, rfl, rfl, by omega, by omega, by omega, HR.out⟩
        case round =>
          clear HR hgt hk1 hk2 hk3 H4
          obtain ⟨r, k, rfl, rfl, hk1, hk2, hk4, hrel⟩ := hrel
          have HR := Lib.hid hrel
          clear hrel
          have H5 := Lib.hid hk4
          clear hk4
          by_cases hlt : k < 1075
          · obtain ⟨q, q1, q2⟩ := bk_down Hm.out HR.out hlt (by have := H5.out; omega) he1
            have g := div_run q2
            have Q1 := Lib.hid q1
            clear q1 q2
            have hki : ((k : Int) < 1075) = True := eq_true (by omega)
            have hkj : (k : Int) ≤ 2000 := by omega
            have H6 := Lib.hid hlt
            have H7 := Lib.hid hk2
            clear hlt hk2
            go_wp2
            have hlt := H6.out
            have hk2 := H7.out
            go_round
            case rel => exact ⟨q, k + 1, rfl, by go_num, by omega, by omega, by have := H5.out; omega, Q1.out⟩
            case measure => simp [intOf]; omega
          · have hkk : k = 1075 := by omega
            have HF : Hid (r = n) := by
              have h := HR.out
              rw [hkk, ← HMag.out] at h
              exact bk_end HE0.out h
            have hki : ((k : Int) < 1075) = False := eq_false (by omega)
            clear hkk hlt hk2
            go_wp2
            go_ret
            exact ⟨ret_float HF.out, rfl⟩
end Go.Proofs.Ytcoidmkaddnkdaa
