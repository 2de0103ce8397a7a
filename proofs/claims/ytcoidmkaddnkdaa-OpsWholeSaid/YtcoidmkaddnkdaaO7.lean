/- THE WALK OF THE DOCUMENT's PRODUCT. No condition. -/
import Derived.Test.YtcoidmkaddnkdaaO6
namespace Go.Proofs.Ytcoidmkaddnkdaa
open Go.RowKit AnteFlo AnteVal AnteOps

def tm (P : Int) : Int := if fits P = true then P else 0
theorem tm_fits {P : Int} (h : fits P = true) : tm P = P := if_pos h
theorem tm_not {P : Int} (h : fits P = false) : tm P = 0 := by unfold tm; rw [h]; rfl

theorem ret_ib' {a b : Int} {c d : Bool} (h : a = b ∧ c = d) : Ending.returned (.tuple #[.int .i64 a, .bool c]) = .returned (.tuple #[.int .i64 b, .bool d]) := by rw [h.1, h.2]
theorem inv_end {P t : Int} (h : t = P ∧ I64 P) : t = tm P ∧ true = fits P := by
  have := fits_of h.2
  exact ⟨by rw [tm_fits this]; exact h.1, this.symm⟩
theorem inv_not {P : Int} (h : fits P = false) : (0 : Int) = tm P ∧ false = fits P := ⟨(tm_not h).symm, h.symm⟩

theorem times_pos (P x y : Int) (hx : I64 x) (hy : I64 y) (hp : Pr P 0 x y) (w : World) (g1 : ¬ x = 0) :
    Calls Try.prog 28 #[.int .i64 x, .int .i64 y] w fun e w' => e = .returned (.tuple #[.int .i64 (tm P), .bool (fits P)]) ∧ w' = w := by
  have e1 : (x == 0) = false := by simpa using g1
  have e2 : (y == 0) = false := by have := hp.pos; simp; omega
  have e3 : (y == -9223372036854775808) = false := by have := hp.pos; simp; omega
  have e4 : (y < 0) = False := eq_false (by have := hp.pos; omega)
  have HI : Hid (Inv P y 0 x true) := .inr ⟨hy, rfl, by unfold I64; omega, hx, hp⟩
  clear g1 hx hy hp
  go_enter Try.func28, Try.ntmps28
  go_wp2_with fail
  go_loop [1, 6, 7, 8, 9] (fun b s d f h => ∃ (c t u : Int) (g : Bool), b = .int .i64 c ∧ s = .int .i64 t ∧ d = .int .i64 u ∧ f = .bool true ∧ h = .bool g ∧ Inv P c t u g) (fun b _ _ _ _ => (intOf b).toNat)
  case atStart => exact ⟨y, 0, x, true, rfl, rfl, rfl, rfl, rfl, HI.out⟩
  case round =>
    obtain ⟨c, t, u, g, rfl, rfl, rfl, rfl, rfl, hi⟩ := hrel
    clear HI
    rcases hi with ⟨rfl, hi⟩ | ⟨hc, rfl, ht, hu, hp⟩
    · have HE := Lib.hid (inv_end hi)
      clear hi
      go_wp2_with fail
      go_ret2
      exact ⟨ret_ib' HE.out, rfl⟩
    · have k1 : (0 < c) = True := eq_true hp.pos
      have m : (c % 2 = 1 ∧ (Int.tmod c 2 == 1) = true) ∨ (c % 2 = 0 ∧ (Int.tmod c 2 == 1) = false) := by have := hp.pos; rw [Int.tmod_eq_emod_of_nonneg (by omega)]; simp; omega
      have dv : Int.tdiv c 2 = c / 2 := by have := hp.pos; exact Int.tdiv_eq_ediv_of_nonneg (by omega)
      have dw : wrap64 (c / 2) = c / 2 := by unfold I64 at hc; unfold wrap64; omega
      have HC := Lib.hid hc
      have HT := Lib.hid ht
      have HU := Lib.hid hu
      have HP := Lib.hid hp
      clear hc ht hu hp
      rcases m with ⟨m1, m2⟩ | ⟨m1, m2⟩
      · have HM := Lib.hid m1
        clear m1
        cases h1 : fits (t + u)
        · have HN := Lib.hid (inv_not (pr_odd_not HP.out h1 HT.out HU.out))
          have H1 := Lib.hid h1
          clear h1
          go_wp2_with fail
          refine (refAdd_not HT.out HU.out H1.out _).mono ?_; rintro e w' ⟨rfl, rfl⟩
          go_wp2_with fail
          go_ret2
          exact ⟨ret_ib' HN.out, rfl⟩
        · have H1 := Lib.hid h1
          have HTT : Hid (I64 (t + u)) := fits_iff h1
          have HQ := Lib.hid (pr_odd HP.out HM.out)
          clear h1
          go_wp2_with fail
          refine (refAdd_fits HT.out HU.out H1.out _).mono ?_; rintro e w' ⟨rfl, rfl⟩
          have q := HQ.out
          clear HQ
          rcases q with ⟨q1, q2⟩ | q
          · have k2 : (0 < c / 2) = False := eq_false (by omega)
            cases h2 : fits (u + u)
            · have H2 := Lib.hid h2
              have HI2 : Hid (Inv P (c / 2) (t + u) 0 false) := .inl ⟨q1, q2, q2 ▸ HTT.out⟩
              clear q1 q2 h2
              go_wp2_with fail
              refine (refAdd_not HU.out HU.out H2.out _).mono ?_; rintro e w' ⟨rfl, rfl⟩
              go_wp2_with fail
              go_round
              case rel => exact ⟨c / 2, (t + u), 0, false, rfl, rfl, rfl, rfl, rfl, HI2.out⟩
              case measure => have := HP.out.pos; simp [intOf]; omega
            · have H2 := Lib.hid h2
              have HI2 : Hid (Inv P (c / 2) (t + u) (u + u) true) := .inl ⟨q1, q2, q2 ▸ HTT.out⟩
              clear q1 q2 h2
              go_wp2_with fail
              refine (refAdd_fits HU.out HU.out H2.out _).mono ?_; rintro e w' ⟨rfl, rfl⟩
              go_wp2_with fail
              go_round
              case rel => exact ⟨c / 2, (t + u), u + u, true, rfl, rfl, rfl, rfl, rfl, HI2.out⟩
              case measure => have := HP.out.pos; simp [intOf]; omega
          · have k2 : (0 < c / 2) = True := eq_true q.pos
            cases h2 : fits (u + u)
            · have H2 := Lib.hid h2
              have HN := Lib.hid (inv_not (pr_big q h2 HTT.out))
              clear q h2
              go_wp2_with fail
              refine (refAdd_not HU.out HU.out H2.out _).mono ?_; rintro e w' ⟨rfl, rfl⟩
              go_wp2_with fail
              go_ret2
              exact ⟨ret_ib' HN.out, rfl⟩
            · have H2 := Lib.hid h2
              have HI2 : Hid (Inv P (c / 2) (t + u) (u + u) true) := .inr ⟨by have := HC.out; unfold I64 at *; omega, rfl, HTT.out, fits_iff h2, q⟩
              clear q h2
              go_wp2_with fail
              refine (refAdd_fits HU.out HU.out H2.out _).mono ?_; rintro e w' ⟨rfl, rfl⟩
              go_wp2_with fail
              go_round
              case rel => exact ⟨c / 2, (t + u), u + u, true, rfl, rfl, rfl, rfl, rfl, HI2.out⟩
              case measure => have := HP.out.pos; simp [intOf]; omega
      · have HTT := HT
        have q : (c / 2 = 0 ∧ t = P) ∨ Pr P t (u + u) (c / 2) := .inr (pr_even HP.out m1)
        clear m1
        rcases q with ⟨q1, q2⟩ | q
        · have k2 : (0 < c / 2) = False := eq_false (by omega)
          cases h2 : fits (u + u)
          · have H2 := Lib.hid h2
            have HI2 : Hid (Inv P (c / 2) t 0 false) := .inl ⟨q1, q2, q2 ▸ HTT.out⟩
            clear q1 q2 h2
            go_wp2_with fail
            refine (refAdd_not HU.out HU.out H2.out _).mono ?_; rintro e w' ⟨rfl, rfl⟩
            go_wp2_with fail
            go_round
            case rel => exact ⟨c / 2, t, 0, false, rfl, rfl, rfl, rfl, rfl, HI2.out⟩
            case measure => have := HP.out.pos; simp [intOf]; omega
          · have H2 := Lib.hid h2
            have HI2 : Hid (Inv P (c / 2) t (u + u) true) := .inl ⟨q1, q2, q2 ▸ HTT.out⟩
            clear q1 q2 h2
            go_wp2_with fail
            refine (refAdd_fits HU.out HU.out H2.out _).mono ?_; rintro e w' ⟨rfl, rfl⟩
            go_wp2_with fail
            go_round
            case rel => exact ⟨c / 2, t, u + u, true, rfl, rfl, rfl, rfl, rfl, HI2.out⟩
            case measure => have := HP.out.pos; simp [intOf]; omega
        · have k2 : (0 < c / 2) = True := eq_true q.pos
          cases h2 : fits (u + u)
          · have H2 := Lib.hid h2
            have HN := Lib.hid (inv_not (pr_big q h2 HTT.out))
            clear q h2
            go_wp2_with fail
            refine (refAdd_not HU.out HU.out H2.out _).mono ?_; rintro e w' ⟨rfl, rfl⟩
            go_wp2_with fail
            go_ret2
            exact ⟨ret_ib' HN.out, rfl⟩
          · have H2 := Lib.hid h2
            have HI2 : Hid (Inv P (c / 2) t (u + u) true) := .inr ⟨by have := HC.out; unfold I64 at *; omega, rfl, HTT.out, fits_iff h2, q⟩
            clear q h2
            go_wp2_with fail
            refine (refAdd_fits HU.out HU.out H2.out _).mono ?_; rintro e w' ⟨rfl, rfl⟩
            go_wp2_with fail
            go_round
            case rel => exact ⟨c / 2, t, u + u, true, rfl, rfl, rfl, rfl, rfl, HI2.out⟩
            case measure => have := HP.out.pos; simp [intOf]; omega

/-- the second factor is below 0 -/
theorem times_neg (P x y : Int) (hx : I64 (wrap64 (-x))) (hy : I64 (wrap64 (-y))) (hp : Pr P 0 (wrap64 (-x)) (wrap64 (-y))) (w : World) (g1 : ¬ x = 0) (g2 : y < 0) (g3 : ¬ x = -9223372036854775808) (g4 : ¬ y = -9223372036854775808) :
    Calls Try.prog 28 #[.int .i64 x, .int .i64 y] w fun e w' => e = .returned (.tuple #[.int .i64 (tm P), .bool (fits P)]) ∧ w' = w := by
  have e1 : (x == 0) = false := by simpa using g1
  have e2 : (y == 0) = false := by simp; omega
  have e3 : (y == -9223372036854775808) = false := by simpa using g4
  have e5 : (x == -9223372036854775808) = false := by simpa using g3
  have e4 : (y < 0) = True := eq_true g2
  have HI : Hid (Inv P (wrap64 (-y)) 0 (wrap64 (-x)) true) := .inr ⟨hy, rfl, by unfold I64; omega, hx, hp⟩
  clear g1 g2 g3 g4 hx hy hp
  go_enter Try.func28, Try.ntmps28
  go_wp2_with fail
  go_loop [1, 6, 7, 8, 9] (fun b s d f h => ∃ (c t u : Int) (g : Bool), b = .int .i64 c ∧ s = .int .i64 t ∧ d = .int .i64 u ∧ f = .bool true ∧ h = .bool g ∧ Inv P c t u g) (fun b _ _ _ _ => (intOf b).toNat)
  case atStart => exact ⟨(wrap64 (-y)), 0, (wrap64 (-x)), true, rfl, rfl, rfl, rfl, rfl, HI.out⟩
  case round =>
    obtain ⟨c, t, u, g, rfl, rfl, rfl, rfl, rfl, hi⟩ := hrel
    clear HI
    rcases hi with ⟨rfl, hi⟩ | ⟨hc, rfl, ht, hu, hp⟩
    · have HE := Lib.hid (inv_end hi)
      clear hi
      go_wp2_with fail
      go_ret2
      exact ⟨ret_ib' HE.out, rfl⟩
    · have k1 : (0 < c) = True := eq_true hp.pos
      have m : (c % 2 = 1 ∧ (Int.tmod c 2 == 1) = true) ∨ (c % 2 = 0 ∧ (Int.tmod c 2 == 1) = false) := by have := hp.pos; rw [Int.tmod_eq_emod_of_nonneg (by omega)]; simp; omega
      have dv : Int.tdiv c 2 = c / 2 := by have := hp.pos; exact Int.tdiv_eq_ediv_of_nonneg (by omega)
      have dw : wrap64 (c / 2) = c / 2 := by unfold I64 at hc; unfold wrap64; omega
      have HC := Lib.hid hc
      have HT := Lib.hid ht
      have HU := Lib.hid hu
      have HP := Lib.hid hp
      clear hc ht hu hp
      rcases m with ⟨m1, m2⟩ | ⟨m1, m2⟩
      · have HM := Lib.hid m1
        clear m1
        cases h1 : fits (t + u)
        · have HN := Lib.hid (inv_not (pr_odd_not HP.out h1 HT.out HU.out))
          have H1 := Lib.hid h1
          clear h1
          go_wp2_with fail
          refine (refAdd_not HT.out HU.out H1.out _).mono ?_; rintro e w' ⟨rfl, rfl⟩
          go_wp2_with fail
          go_ret2
          exact ⟨ret_ib' HN.out, rfl⟩
        · have H1 := Lib.hid h1
          have HTT : Hid (I64 (t + u)) := fits_iff h1
          have HQ := Lib.hid (pr_odd HP.out HM.out)
          clear h1
          go_wp2_with fail
          refine (refAdd_fits HT.out HU.out H1.out _).mono ?_; rintro e w' ⟨rfl, rfl⟩
          have q := HQ.out
          clear HQ
          rcases q with ⟨q1, q2⟩ | q
          · have k2 : (0 < c / 2) = False := eq_false (by omega)
            cases h2 : fits (u + u)
            · have H2 := Lib.hid h2
              have HI2 : Hid (Inv P (c / 2) (t + u) 0 false) := .inl ⟨q1, q2, q2 ▸ HTT.out⟩
              clear q1 q2 h2
              go_wp2_with fail
              refine (refAdd_not HU.out HU.out H2.out _).mono ?_; rintro e w' ⟨rfl, rfl⟩
              go_wp2_with fail
              go_round
              case rel => exact ⟨c / 2, (t + u), 0, false, rfl, rfl, rfl, rfl, rfl, HI2.out⟩
              case measure => have := HP.out.pos; simp [intOf]; omega
            · have H2 := Lib.hid h2
              have HI2 : Hid (Inv P (c / 2) (t + u) (u + u) true) := .inl ⟨q1, q2, q2 ▸ HTT.out⟩
              clear q1 q2 h2
              go_wp2_with fail
              refine (refAdd_fits HU.out HU.out H2.out _).mono ?_; rintro e w' ⟨rfl, rfl⟩
              go_wp2_with fail
              go_round
              case rel => exact ⟨c / 2, (t + u), u + u, true, rfl, rfl, rfl, rfl, rfl, HI2.out⟩
              case measure => have := HP.out.pos; simp [intOf]; omega
          · have k2 : (0 < c / 2) = True := eq_true q.pos
            cases h2 : fits (u + u)
            · have H2 := Lib.hid h2
              have HN := Lib.hid (inv_not (pr_big q h2 HTT.out))
              clear q h2
              go_wp2_with fail
              refine (refAdd_not HU.out HU.out H2.out _).mono ?_; rintro e w' ⟨rfl, rfl⟩
              go_wp2_with fail
              go_ret2
              exact ⟨ret_ib' HN.out, rfl⟩
            · have H2 := Lib.hid h2
              have HI2 : Hid (Inv P (c / 2) (t + u) (u + u) true) := .inr ⟨by have := HC.out; unfold I64 at *; omega, rfl, HTT.out, fits_iff h2, q⟩
              clear q h2
              go_wp2_with fail
              refine (refAdd_fits HU.out HU.out H2.out _).mono ?_; rintro e w' ⟨rfl, rfl⟩
              go_wp2_with fail
              go_round
              case rel => exact ⟨c / 2, (t + u), u + u, true, rfl, rfl, rfl, rfl, rfl, HI2.out⟩
              case measure => have := HP.out.pos; simp [intOf]; omega
      · have HTT := HT
        have q : (c / 2 = 0 ∧ t = P) ∨ Pr P t (u + u) (c / 2) := .inr (pr_even HP.out m1)
        clear m1
        rcases q with ⟨q1, q2⟩ | q
        · have k2 : (0 < c / 2) = False := eq_false (by omega)
          cases h2 : fits (u + u)
          · have H2 := Lib.hid h2
            have HI2 : Hid (Inv P (c / 2) t 0 false) := .inl ⟨q1, q2, q2 ▸ HTT.out⟩
            clear q1 q2 h2
            go_wp2_with fail
            refine (refAdd_not HU.out HU.out H2.out _).mono ?_; rintro e w' ⟨rfl, rfl⟩
            go_wp2_with fail
            go_round
            case rel => exact ⟨c / 2, t, 0, false, rfl, rfl, rfl, rfl, rfl, HI2.out⟩
            case measure => have := HP.out.pos; simp [intOf]; omega
          · have H2 := Lib.hid h2
            have HI2 : Hid (Inv P (c / 2) t (u + u) true) := .inl ⟨q1, q2, q2 ▸ HTT.out⟩
            clear q1 q2 h2
            go_wp2_with fail
            refine (refAdd_fits HU.out HU.out H2.out _).mono ?_; rintro e w' ⟨rfl, rfl⟩
            go_wp2_with fail
            go_round
            case rel => exact ⟨c / 2, t, u + u, true, rfl, rfl, rfl, rfl, rfl, HI2.out⟩
            case measure => have := HP.out.pos; simp [intOf]; omega
        · have k2 : (0 < c / 2) = True := eq_true q.pos
          cases h2 : fits (u + u)
          · have H2 := Lib.hid h2
            have HN := Lib.hid (inv_not (pr_big q h2 HTT.out))
            clear q h2
            go_wp2_with fail
            refine (refAdd_not HU.out HU.out H2.out _).mono ?_; rintro e w' ⟨rfl, rfl⟩
            go_wp2_with fail
            go_ret2
            exact ⟨ret_ib' HN.out, rfl⟩
          · have H2 := Lib.hid h2
            have HI2 : Hid (Inv P (c / 2) t (u + u) true) := .inr ⟨by have := HC.out; unfold I64 at *; omega, rfl, HTT.out, fits_iff h2, q⟩
            clear q h2
            go_wp2_with fail
            refine (refAdd_fits HU.out HU.out H2.out _).mono ?_; rintro e w' ⟨rfl, rfl⟩
            go_wp2_with fail
            go_round
            case rel => exact ⟨c / 2, t, u + u, true, rfl, rfl, rfl, rfl, rfl, HI2.out⟩
            case measure => have := HP.out.pos; simp [intOf]; omega

/-- the second factor is the least number -/
theorem times_swap (P x : Int) (hx : I64 x) (hp : Pr P 0 (-9223372036854775808) x) (w : World) :
    Calls Try.prog 28 #[.int .i64 x, .int .i64 (-9223372036854775808)] w fun e w' => e = .returned (.tuple #[.int .i64 (tm P), .bool (fits P)]) ∧ w' = w := by
  have g0 := hp.pos
  have e1 : (x == 0) = false := by simp; omega
  have e3 : (x == -9223372036854775808) = false := by simp; omega
  have e4 : (x < 0) = False := eq_false (by omega)
  have HI : Hid (Inv P x 0 (-9223372036854775808) true) := .inr ⟨hx, rfl, by unfold I64; omega, by unfold I64; omega, hp⟩
  clear g0 hx hp
  go_enter Try.func28, Try.ntmps28
  go_wp2_with fail
  go_loop [1, 6, 7, 8, 9] (fun b s d f h => ∃ (c t u : Int) (g : Bool), b = .int .i64 c ∧ s = .int .i64 t ∧ d = .int .i64 u ∧ f = .bool true ∧ h = .bool g ∧ Inv P c t u g) (fun b _ _ _ _ => (intOf b).toNat)
  case atStart => exact ⟨x, 0, (-9223372036854775808), true, rfl, rfl, rfl, rfl, rfl, HI.out⟩
  case round =>
    obtain ⟨c, t, u, g, rfl, rfl, rfl, rfl, rfl, hi⟩ := hrel
    clear HI
    rcases hi with ⟨rfl, hi⟩ | ⟨hc, rfl, ht, hu, hp⟩
    · have HE := Lib.hid (inv_end hi)
      clear hi
      go_wp2_with fail
      go_ret2
      exact ⟨ret_ib' HE.out, rfl⟩
    · have k1 : (0 < c) = True := eq_true hp.pos
      have m : (c % 2 = 1 ∧ (Int.tmod c 2 == 1) = true) ∨ (c % 2 = 0 ∧ (Int.tmod c 2 == 1) = false) := by have := hp.pos; rw [Int.tmod_eq_emod_of_nonneg (by omega)]; simp; omega
      have dv : Int.tdiv c 2 = c / 2 := by have := hp.pos; exact Int.tdiv_eq_ediv_of_nonneg (by omega)
      have dw : wrap64 (c / 2) = c / 2 := by unfold I64 at hc; unfold wrap64; omega
      have HC := Lib.hid hc
      have HT := Lib.hid ht
      have HU := Lib.hid hu
      have HP := Lib.hid hp
      clear hc ht hu hp
      rcases m with ⟨m1, m2⟩ | ⟨m1, m2⟩
      · have HM := Lib.hid m1
        clear m1
        cases h1 : fits (t + u)
        · have HN := Lib.hid (inv_not (pr_odd_not HP.out h1 HT.out HU.out))
          have H1 := Lib.hid h1
          clear h1
          go_wp2_with fail
          refine (refAdd_not HT.out HU.out H1.out _).mono ?_; rintro e w' ⟨rfl, rfl⟩
          go_wp2_with fail
          go_ret2
          exact ⟨ret_ib' HN.out, rfl⟩
        · have H1 := Lib.hid h1
          have HTT : Hid (I64 (t + u)) := fits_iff h1
          have HQ := Lib.hid (pr_odd HP.out HM.out)
          clear h1
          go_wp2_with fail
          refine (refAdd_fits HT.out HU.out H1.out _).mono ?_; rintro e w' ⟨rfl, rfl⟩
          have q := HQ.out
          clear HQ
          rcases q with ⟨q1, q2⟩ | q
          · have k2 : (0 < c / 2) = False := eq_false (by omega)
            cases h2 : fits (u + u)
            · have H2 := Lib.hid h2
              have HI2 : Hid (Inv P (c / 2) (t + u) 0 false) := .inl ⟨q1, q2, q2 ▸ HTT.out⟩
              clear q1 q2 h2
              go_wp2_with fail
              refine (refAdd_not HU.out HU.out H2.out _).mono ?_; rintro e w' ⟨rfl, rfl⟩
              go_wp2_with fail
              go_round
              case rel => exact ⟨c / 2, (t + u), 0, false, rfl, rfl, rfl, rfl, rfl, HI2.out⟩
              case measure => have := HP.out.pos; simp [intOf]; omega
            · have H2 := Lib.hid h2
              have HI2 : Hid (Inv P (c / 2) (t + u) (u + u) true) := .inl ⟨q1, q2, q2 ▸ HTT.out⟩
              clear q1 q2 h2
              go_wp2_with fail
              refine (refAdd_fits HU.out HU.out H2.out _).mono ?_; rintro e w' ⟨rfl, rfl⟩
              go_wp2_with fail
              go_round
              case rel => exact ⟨c / 2, (t + u), u + u, true, rfl, rfl, rfl, rfl, rfl, HI2.out⟩
              case measure => have := HP.out.pos; simp [intOf]; omega
          · have k2 : (0 < c / 2) = True := eq_true q.pos
            cases h2 : fits (u + u)
            · have H2 := Lib.hid h2
              have HN := Lib.hid (inv_not (pr_big q h2 HTT.out))
              clear q h2
              go_wp2_with fail
              refine (refAdd_not HU.out HU.out H2.out _).mono ?_; rintro e w' ⟨rfl, rfl⟩
              go_wp2_with fail
              go_ret2
              exact ⟨ret_ib' HN.out, rfl⟩
            · have H2 := Lib.hid h2
              have HI2 : Hid (Inv P (c / 2) (t + u) (u + u) true) := .inr ⟨by have := HC.out; unfold I64 at *; omega, rfl, HTT.out, fits_iff h2, q⟩
              clear q h2
              go_wp2_with fail
              refine (refAdd_fits HU.out HU.out H2.out _).mono ?_; rintro e w' ⟨rfl, rfl⟩
              go_wp2_with fail
              go_round
              case rel => exact ⟨c / 2, (t + u), u + u, true, rfl, rfl, rfl, rfl, rfl, HI2.out⟩
              case measure => have := HP.out.pos; simp [intOf]; omega
      · have HTT := HT
        have q : (c / 2 = 0 ∧ t = P) ∨ Pr P t (u + u) (c / 2) := .inr (pr_even HP.out m1)
        clear m1
        rcases q with ⟨q1, q2⟩ | q
        · have k2 : (0 < c / 2) = False := eq_false (by omega)
          cases h2 : fits (u + u)
          · have H2 := Lib.hid h2
            have HI2 : Hid (Inv P (c / 2) t 0 false) := .inl ⟨q1, q2, q2 ▸ HTT.out⟩
            clear q1 q2 h2
            go_wp2_with fail
            refine (refAdd_not HU.out HU.out H2.out _).mono ?_; rintro e w' ⟨rfl, rfl⟩
            go_wp2_with fail
            go_round
            case rel => exact ⟨c / 2, t, 0, false, rfl, rfl, rfl, rfl, rfl, HI2.out⟩
            case measure => have := HP.out.pos; simp [intOf]; omega
          · have H2 := Lib.hid h2
            have HI2 : Hid (Inv P (c / 2) t (u + u) true) := .inl ⟨q1, q2, q2 ▸ HTT.out⟩
            clear q1 q2 h2
            go_wp2_with fail
            refine (refAdd_fits HU.out HU.out H2.out _).mono ?_; rintro e w' ⟨rfl, rfl⟩
            go_wp2_with fail
            go_round
            case rel => exact ⟨c / 2, t, u + u, true, rfl, rfl, rfl, rfl, rfl, HI2.out⟩
            case measure => have := HP.out.pos; simp [intOf]; omega
        · have k2 : (0 < c / 2) = True := eq_true q.pos
          cases h2 : fits (u + u)
          · have H2 := Lib.hid h2
            have HN := Lib.hid (inv_not (pr_big q h2 HTT.out))
            clear q h2
            go_wp2_with fail
            refine (refAdd_not HU.out HU.out H2.out _).mono ?_; rintro e w' ⟨rfl, rfl⟩
            go_wp2_with fail
            go_ret2
            exact ⟨ret_ib' HN.out, rfl⟩
          · have H2 := Lib.hid h2
            have HI2 : Hid (Inv P (c / 2) t (u + u) true) := .inr ⟨by have := HC.out; unfold I64 at *; omega, rfl, HTT.out, fits_iff h2, q⟩
            clear q h2
            go_wp2_with fail
            refine (refAdd_fits HU.out HU.out H2.out _).mono ?_; rintro e w' ⟨rfl, rfl⟩
            go_wp2_with fail
            go_round
            case rel => exact ⟨c / 2, t, u + u, true, rfl, rfl, rfl, rfl, rfl, HI2.out⟩
            case measure => have := HP.out.pos; simp [intOf]; omega

end Go.Proofs.Ytcoidmkaddnkdaa
