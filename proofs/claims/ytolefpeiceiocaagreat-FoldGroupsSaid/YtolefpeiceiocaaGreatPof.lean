/- WHAT fold.Of COMPUTES IS ofP: plain. Condition: fewer than a million values, as Go may have them. -/
import Derived.Test.YtolefpeiceiocaaGreatPsOf
import Derived.Test.YtolefpeiceiocaaGreatPset
namespace Go.Proofs.YtolefpeiceiocaaGreat.Ps
open Go Go.RowKit Go.Proofs.YtolefpeiceiocaaGreatW.PrintWords Go.Proofs.YtolefpeiceiocaaGreatW.PrintLast
set_option linter.unusedVariables false

theorem gAdd_in (a b : Int) : inI (AnteFlo.gAdd a b) := AnteFlo.ocode_range _
theorem gOf_in (a : Int) : inI (AnteFlo.gOf a) := AnteFlo.code_range _
theorem numS_in {x : Sv} (h : okS x) : inI (numS x) := by
  unfold numS
  split
  · exact gOf_in _
  · exact h.2.1
theorem pointsP_in : ∀ {l : List Sv}, (∀ x ∈ l, okS x) → inI (pointsP l)
  | [], _ => by show inI 0; decide
  | x :: l, h => by
    have key : ∀ (m : List Sv) (s : Int), inI s → inI (m.foldl (fun s y => AnteFlo.gAdd s (numS y)) s) := by
      intro m
      induction m with
      | nil => intro s hs; exact hs
      | cons y m ih => intro s hs; exact ih _ (gAdd_in _ _)
    exact key l _ (numS_in (h x (by simp)))
theorem pointsP_snoc {l : List Sv} (h : l ≠ []) (y : Sv) : pointsP (l ++ [y]) = AnteFlo.gAdd (pointsP l) (numS y) := by
  cases l with
  | nil => exact absurd rfl h
  | cons x l => simp [pointsP, List.foldl_append]
theorem rd_get {l : List Sv} {i : Nat} (h : i < l.length) : rd_T25 l (i : Int) = l[i] := by
  unfold rd_T25
  rw [List.getD_eq_getElem?_getD, Int.toNat_natCast, List.getElem?_eq_getElem h]; rfl
theorem take_one {l : List Sv} {i : Nat} (h : i < l.length) : l.take (i + 1) = l.take i ++ [l[i]] := by
  rw [List.take_succ_eq_append_getElem h]
theorem wrap_small {i : Nat} (h : i < 1000000) : wrap64 ((i : Int) + 1) = ((i + 1 : Nat) : Int) := by unfold wrap64; omega
theorem wrap_in {n : Int} (h : inI n) : wrap64 n = n := by unfold wrap64; unfold inI at h; omega

theorem points_loop (l : List Sv) (hl : okL l) : ∀ (m k i : Nat), i + m = l.length → m < k → fold_points.l0 k (pointsP (l.take i)) l (l.length : Int) (i : Int) = some (pointsP l)
  | 0, 0, _, _, h => by omega
  | 0, k + 1, i, h, _ => by
    unfold fold_points.l0
    rw [if_neg (by omega), List.take_of_length_le (by omega)]
  | m + 1, 0, _, _, h => by omega
  | m + 1, k + 1, i, h, hk => by
    have hi : i < l.length := by omega
    have hx := hl.2 l[i] (List.getElem_mem hi)
    have ih := points_loop l hl m k (i + 1) (by omega) (by omega)
    have hw := wrap_small (i := i) (by have := hl.1; omega)
    have hin : inI (pointsP (l.take i)) := pointsP_in (fun x h => hl.2 x (List.mem_of_mem_take h))
    unfold fold_points.l0
    rw [if_pos (by omega), if_pos (by omega), if_pos (by omega), rd_get hi, hw]
    have hnum : ∀ (K : Int → Option Int), (if (l[i]).f0 = 1 then (flo_Of.f (l[i]).f1).bind K else K (l[i]).f1) = K (numS l[i]) := by
      intro K
      unfold numS
      split
      · unfold flo_Of.f
        rw [if_pos hx.2.1]
        rfl
      · rfl
    refine (hnum (fun t => if (i : Int) > 0 then (flo_Add.f (pointsP (l.take i)) t).bind fun t => fold_points.l0 k t l (l.length : Int) ((i + 1 : Nat) : Int) else fold_points.l0 k t l (l.length : Int) ((i + 1 : Nat) : Int))).trans ?_
    rw [← ih, take_one hi]
    by_cases h0 : i = 0
    · subst h0
      rw [if_neg (by omega)]
      simp [pointsP]
    · rw [if_pos (by omega), pointsP_snoc (List.ne_nil_of_length_pos (by rw [List.length_take]; omega))]
      unfold flo_Add.f
      rw [if_pos ⟨hin, numS_in hx⟩]
      rfl
theorem points_eq (l : List Sv) (hl : okL l) (k : Nat) (hk : l.length < k) : fold_points.f k l = some (pointsP l) := by
  have h := points_loop l hl l.length k 0 (by omega) hk
  simpa [fold_points.f, pointsP] using h

theorem sum_snoc (l : List Sv) (x : Sv) : sumP (l ++ [x]) = sumP l + x.f1 := by simp [sumP]
theorem sum_bound : ∀ (l : List Sv), (∀ x ∈ l, okS x) → -9223372036854775808 * (l.length : Int) ≤ sumP l ∧ sumP l ≤ 9223372036854775807 * (l.length : Int)
  | [], _ => by simp [sumP]
  | x :: l, h => by
    have ih := sum_bound l (fun y hy => h y (by simp [hy]))
    have hx := (h x (by simp)).2.1
    unfold inI at hx
    have e : sumP (x :: l) = x.f1 + sumP l := by simp [sumP]
    rw [e, List.length_cons]
    omega
theorem whole_loop (l : List Sv) (hl : okL l) : ∀ (m k i : Nat), i + m = l.length → m < k →
    fold_whole.l0 k (sumP (l.take i) / 18446744073709551616 % 18446744073709551616) (sumP (l.take i) % 18446744073709551616) l (l.length : Int) (i : Int) =
      some (if inI (sumP l) then (1, sumP l, emp, 0) else (0, 0, emp, 10))
  | 0, 0, _, _, h => by omega
  | 0, k + 1, i, h, _ => by
    have hb := sum_bound l hl.2
    have hlen := hl.1
    unfold fold_whole.l0
    rw [if_neg (by omega), List.take_of_length_le (by omega)]
    have e : (wrap64 (sumP l / 18446744073709551616 % 18446744073709551616) = wrap64 (sumP l % 18446744073709551616) / 9223372036854775808) ↔ inI (sumP l) := by
      have hb1 : -19342813113834066795298816 ≤ sumP l := by omega
      have hb2 : sumP l ≤ 19342813113834066795298816 := by omega
      generalize sumP l = s at hb1 hb2 ⊢
      have e1 : wrap64 (s / 18446744073709551616 % 18446744073709551616) = s / 18446744073709551616 := by
        generalize hq : s / 18446744073709551616 = q
        have q1 : -1048577 ≤ q := by omega
        have q2 : q ≤ 1048577 := by omega
        unfold wrap64
        clear hq
        omega
      have e2 : wrap64 (s % 18446744073709551616) / 9223372036854775808 = if s % 18446744073709551616 < 9223372036854775808 then 0 else -1 := by
        generalize hq : s % 18446744073709551616 = q
        have q1 : 0 ≤ q := by omega
        have q2 : q < 18446744073709551616 := by omega
        clear hq
        unfold wrap64
        split <;> omega
      rw [e1, e2]
      unfold inI
      split <;> omega
    by_cases h1 : inI (sumP l)
    · rw [if_pos (e.2 h1), if_pos h1]
      have : wrap64 (sumP l % 18446744073709551616) = sumP l := by unfold wrap64; unfold inI at h1; omega
      rw [this]; rfl
    · rw [if_neg (fun h => h1 (e.1 h)), if_neg h1]; rfl
  | m + 1, 0, _, _, h => by omega
  | m + 1, k + 1, i, h, hk => by
    have hi : i < l.length := by omega
    have hx := (hl.2 l[i] (List.getElem_mem hi)).2.1
    have ih := whole_loop l hl m k (i + 1) (by omega) (by omega)
    have hw := wrap_small (i := i) (by have := hl.1; omega)
    rw [take_one hi, sum_snoc] at ih
    unfold fold_whole.l0
    rw [if_pos (by omega), if_pos (by omega), if_pos (by omega), rd_get hi, hw]
    generalize sumP (l.take i) = s at ih ⊢
    generalize (l[i]).f1 = a at ih hx ⊢
    have u1 : IntKind.u64.wrap a = a % 18446744073709551616 := by simp [IntKind.wrap, IntKind.bits, IntKind.signed]
    have u2 : IntKind.u64.wrap (a / 9223372036854775808) = a / 9223372036854775808 % 18446744073709551616 := by simp [IntKind.wrap, IntKind.bits, IntKind.signed]
    rw [u1, u2]
    unfold bits_Add64.f
    rw [if_pos (by omega), Option.bind_some]
    unfold inI at hx
    dsimp only
    rw [if_pos (by omega), Option.bind_some]
    dsimp only
    rw [← ih]
    congr 1 <;> omega
theorem whole_eq (l : List Sv) (hl : okL l) (k : Nat) (hk : l.length < k) : fold_whole.f k l = some (if inI (sumP l) then (1, sumP l, emp, 0) else (0, 0, emp, 10)) := by
  have h := whole_loop l hl l.length k 0 (by omega) hk
  simpa [fold_whole.f, sumP] using h

theorem okL_set {l : List Sv} (h : okL l) : okL (setL l) := ⟨Nat.lt_of_le_of_lt (setC_length l) h.1, fun x hx => h.2 x ((mem_setC cmpS_ord).1 hx)⟩
/-- A result's four parts. -/
def four (x : Sv × Int) : Int × Int × ByteArray × Int := (x.1.f0, x.1.f1, x.1.f2, x.2)
theorem Of_eq (kind : Int) (l : List Sv) (hk : inI kind) (hl : okL l) (k : Nat) (hlt : l.length < k) : fold_Of.f k kind l = some (four (ofP kind l)) := by
  have hs := okL_set hl
  have hle := setC_length (c := cmpS) l
  have hks : (setL l).length < k := Nat.lt_of_le_of_lt hle hlt
  have e1 : fold_Set.f l = some (setL l) := by unfold fold_Set.f; rw [if_pos hl]
  unfold fold_Of.f ofP
  rw [e1, Option.bind_some]
  generalize setL l = m at hs hks ⊢
  have e2 : fold_wrong.f kind m = some (wrongP kind m) := by unfold fold_wrong.f; rw [if_pos ⟨hs, hk⟩]
  rw [e2, Option.bind_some]
  have hlen := hs.1
  by_cases hw : wrongP kind m = 0
  · have hr : 1 ≤ kind ∧ kind ≤ 5 ∧ m ≠ [] := by
      unfold wrongP at hw
      split at hw
      · omega
      · split at hw
        · omega
        · rename_i h1 h2
          exact ⟨by omega, by omega, h2⟩
    obtain ⟨x, r, rfl⟩ : ∃ x r, m = x :: r := by
      cases m with
      | nil => exact absurd rfl hr.2.2
      | cons x r => exact ⟨x, r, rfl⟩
    have h0 : rd_T25 (x :: r) 0 = x := rd_get (l := x :: r) (i := 0) (by simp)
    rw [if_pos hw]
    unfold setP
    simp only [ne_eq, hw, not_true_eq_false, if_false, List.headD_cons]
    by_cases c1 : kind = 1
    · simp only [if_pos c1]; rfl
    simp only [if_neg c1]
    by_cases c3 : kind = 3
    · simp only [if_pos c3]
      rw [if_pos (by simp), h0]; rfl
    simp only [if_neg c3]
    by_cases c4 : kind = 4
    · simp only [if_pos c4]
      have hi : wrap64 (((x :: r).length : Int) - 1) = (((x :: r).length - 1 : Nat) : Int) := by
        have : ((x :: r).length : Int) - 1 = (((x :: r).length - 1 : Nat) : Int) := by simp
        rw [this]
        exact wrap_in (by unfold inI; omega)
      rw [hi, if_pos (by omega), if_pos (by simp only [List.length_cons]; omega), rd_get (by simp)]
      have hg : (x :: r).getLastD z25 = (x :: r)[(x :: r).length - 1] := by
        rw [List.getLastD_eq_getLast?, List.getLast?_eq_getElem?, List.getElem?_eq_getElem (by simp)]; rfl
      rw [hg]; rfl
    simp only [if_neg c4]
    by_cases c5 : kind = 5
    · simp only [if_pos c5]
      rw [points_eq _ hs k hks, Option.bind_some]
      have hlr : inI ((x :: r).length : Int) := by unfold inI; omega
      unfold flo_Of.f
      rw [if_pos hlr, Option.bind_some]
      unfold flo_Div.f
      rw [if_pos ⟨pointsP_in hs.2, gOf_in _⟩]
      rfl
    simp only [if_neg c5]
    rw [if_pos (by simp), h0]
    by_cases c6 : x.f0 = 1
    · simp only [if_pos c6]
      rw [whole_eq _ hs k hks, Option.bind_some]
      by_cases c7 : inI (sumP (x :: r))
      · simp only [if_pos c7]; simp [four, c6]
      · simp only [if_neg c7]; simp [four, c6]; exact ⟨rfl, rfl, rfl⟩
    · simp only [if_neg c6]
      rw [points_eq _ hs k hks]; simp [four, c6]; rfl
  · rw [if_neg hw]
    unfold setP
    rw [if_pos hw]
    rfl
end Go.Proofs.YtolefpeiceiocaaGreat.Ps
