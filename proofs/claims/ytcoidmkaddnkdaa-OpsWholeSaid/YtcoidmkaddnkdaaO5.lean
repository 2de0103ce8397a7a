/- WHAT ops.Reckon AND ops.Holds ANSWER, whatever they are called with. No condition. -/
import Derived.Test.YtcoidmkaddnkdaaO4
namespace Go.Proofs.Ytcoidmkaddnkdaa
open Go.RowKit AnteFlo AnteVal AnteOps

def put (op : ByteArray) (x y : Int) : Int := if (op == ⟨#[43]⟩) = true then x + y else if (op == ⟨#[45]⟩) = true then x - y else x * y
def putF (op : ByteArray) (x y : Int) : Int := if (op == ⟨#[43]⟩) = true then gAdd x y else if (op == ⟨#[45]⟩) = true then gSub x y else gMul x y
def rk (op : ByteArray) (a b : V) : V × Int :=
  if isOp op = true then if vright a = true then if vright b = true then
    if (a.k != b.k) = true then (vnil, 6) else if (a.k == 3) = true then (vnil, 6) else if (a.k == 2) = true then (⟨a.k, putF op a.n b.n, ⟨#[]⟩⟩, 0)
    else if fits (put op a.n b.n) = true then (⟨a.k, put op a.n b.n, ⟨#[]⟩⟩, 0) else (vnil, 10)
  else (vnil, 1) else (vnil, 1) else (vnil, 1)

theorem op_cases {op : ByteArray} (h : isOp op = true) : op = ⟨#[43]⟩ ∨ op = ⟨#[45]⟩ ∨ op = ⟨#[42]⟩ := by
  unfold isOp at h
  simp only [Bool.or_eq_true] at h
  rcases h with (h | h) | h
  · exact .inl (bytes_eq h)
  · exact .inr (.inl (bytes_eq h))
  · exact .inr (.inr (bytes_eq h))

theorem reckon_any (op : ByteArray) (a b : V) (ha : a.s.size ≤ maxLen) (hb : b.s.size ≤ maxLen) (na : -9223372036854775808 ≤ a.n ∧ a.n ≤ 9223372036854775807) (nb : -9223372036854775808 ≤ b.n ∧ b.n ≤ 9223372036854775807) (w : World) :
    Calls Try.prog 10 #[.string op, ev a, ev b] w fun e w' => e = .returned (.tuple #[ev (rk op a b).1, .int .i64 (rk op a b).2]) ∧ Below w.heap.size w w' := by
  cases h1 : isOp op
  · rw [show rk op a b = (vnil, 1) by unfold rk; rw [h1]; rfl]; exact reckon_op op a b h1 w
  cases h2 : vright a
  · rw [show rk op a b = (vnil, 1) by unfold rk; rw [h1, h2]; rfl]; exact reckon_a op a b ha hb h1 h2 w
  cases h3 : vright b
  · rw [show rk op a b = (vnil, 1) by unfold rk; rw [h1, h2, h3]; rfl]; exact reckon_b op a b ha hb h1 h2 h3 w
  cases h4 : (a.k != b.k)
  case true => rw [show rk op a b = (vnil, 6) by unfold rk; rw [h1, h2, h3, h4]; rfl]; exact reckon_kinds op a b ha hb h1 h2 h3 h4 w
  cases h5 : (a.k == 3)
  case true => rw [show rk op a b = (vnil, 6) by unfold rk; rw [h1, h2, h3, h4, h5]; rfl]; exact reckon_sym op a b ha hb h1 h2 h3 h4 h5 w
  cases h6 : (a.k == 2)
  · have hr : rk op a b = if fits (put op a.n b.n) = true then (⟨a.k, put op a.n b.n, ⟨#[]⟩⟩, 0) else (vnil, 10) := by unfold rk; rw [h1, h2, h3, h4, h5, h6]; rfl
    rw [hr]
    rcases op_cases h1 with rfl | rfl | rfl
    · rw [show put ⟨#[43]⟩ a.n b.n = a.n + b.n from rfl]
      cases h7 : fits (a.n + b.n)
      · exact reckon_not_add a b ha hb na nb h2 h3 h4 h5 h6 h7 w
      · exact reckon_int_add a b ha hb na nb h2 h3 h4 h5 h6 h7 w
    · rw [show put ⟨#[45]⟩ a.n b.n = a.n - b.n from rfl]
      cases h7 : fits (a.n - b.n)
      · exact reckon_not_sub a b ha hb na nb h2 h3 h4 h5 h6 h7 w
      · exact reckon_int_sub a b ha hb na nb h2 h3 h4 h5 h6 h7 w
    · rw [show put ⟨#[42]⟩ a.n b.n = a.n * b.n from rfl]
      cases h7 : fits (a.n * b.n)
      · exact reckon_not_mul a b ha hb na nb h2 h3 h4 h5 h6 h7 w
      · exact reckon_int_mul a b ha hb na nb h2 h3 h4 h5 h6 h7 w
  · have hr : rk op a b = (⟨a.k, putF op a.n b.n, ⟨#[]⟩⟩, 0) := by unfold rk; rw [h1, h2, h3, h4, h5, h6]; rfl
    rw [hr]
    rcases op_cases h1 with rfl | rfl | rfl
    · exact reckon_flo_add a b ha hb na nb h2 h3 h4 h5 h6 w
    · exact reckon_flo_sub a b ha hb na nb h2 h3 h4 h5 h6 w
    · exact reckon_flo_mul a b ha hb na nb h2 h3 h4 h5 h6 w

def hold (op : ByteArray) (a b : V) : Bool :=
  if (op.toList == [60]) = true then decide (vcmp a b < 0) else if (op.toList == [60, 61]) = true then decide (vcmp a b ≤ 0) else if (op.toList == [61]) = true then vcmp a b == 0
  else if (op.toList == [33, 61]) = true then vcmp a b != 0 else false

theorem hold_any (op : ByteArray) (a b : V) (w : World) : Calls Try.prog 12 #[.string op, ev a, ev b] w fun e w' => e = .returned (.bool (hold op a b)) ∧ Below w.heap.size w w' := by
  have hc := fun w => compare_any a b w
  unfold hold
  generalize vcmp a b = c at *
  obtain ⟨k, n, s⟩ := a
  obtain ⟨k', n', s'⟩ := b
  unfold ev at hc ⊢
  simp only at hc ⊢
  have HC := Lib.hid hc
  clear hc
  cases h1 : (op.toList == [60])
  case true =>
    have h2 : (op.toList == [60, 61]) = false := by rw [eq_of_beq h1]; rfl
    have h3 : (op.toList == [61]) = false := by rw [eq_of_beq h1]; rfl
    have h4 : (op.toList == [33, 61]) = false := by rw [eq_of_beq h1]; rfl
    go_enter Try.func12, Try.ntmps12
    go_wp2_with fail
    refine (HC.out _).mono ?_; rintro e w' ⟨rfl, hb⟩
    have HB := Lib.hid ((below2 _ _ _).trans (hb.mono (by simp; omega)))
    clear hb
    go_wp2_with fail
    all_goals first | go_ret | (rw [Exit.noGoto_ret]; go_ret)
    all_goals first | refine ⟨ret_bool ?_, HB.out⟩
    all_goals first | rfl | (simp [*]; done) | (simp; omega)
  cases h2 : (op.toList == [60, 61])
  case true =>
    have h3 : (op.toList == [61]) = false := by rw [eq_of_beq h2]; rfl
    have h4 : (op.toList == [33, 61]) = false := by rw [eq_of_beq h2]; rfl
    go_enter Try.func12, Try.ntmps12
    go_wp2_with fail
    refine (HC.out _).mono ?_; rintro e w' ⟨rfl, hb⟩
    have HB := Lib.hid ((below2 _ _ _).trans (hb.mono (by simp; omega)))
    clear hb
    go_wp2_with fail
    all_goals first | go_ret | (rw [Exit.noGoto_ret]; go_ret)
    all_goals first | refine ⟨ret_bool ?_, HB.out⟩
    all_goals first | rfl | (simp [*]; done) | (simp; omega)
  cases h3 : (op.toList == [61])
  case true =>
    have h4 : (op.toList == [33, 61]) = false := by rw [eq_of_beq h3]; rfl
    go_enter Try.func12, Try.ntmps12
    go_wp2_with fail
    refine (HC.out _).mono ?_; rintro e w' ⟨rfl, hb⟩
    have HB := Lib.hid ((below2 _ _ _).trans (hb.mono (by simp; omega)))
    clear hb
    go_wp2_with fail
    all_goals first | go_ret | (rw [Exit.noGoto_ret]; go_ret)
    all_goals first | refine ⟨ret_bool ?_, HB.out⟩
    all_goals first | rfl | (simp [*]; done) | (simp; omega)
  cases h4 : (op.toList == [33, 61])
  case true =>
    go_enter Try.func12, Try.ntmps12
    go_wp2_with fail
    refine (HC.out _).mono ?_; rintro e w' ⟨rfl, hb⟩
    have HB := Lib.hid ((below2 _ _ _).trans (hb.mono (by simp; omega)))
    clear hb
    go_wp2_with fail
    all_goals first | go_ret | (rw [Exit.noGoto_ret]; go_ret)
    all_goals first | refine ⟨ret_bool ?_, HB.out⟩
    all_goals first | rfl | (simp [*]; done) | (simp; omega)
  go_enter Try.func12, Try.ntmps12
  go_wp2_with fail
  refine (HC.out _).mono ?_; rintro e w' ⟨rfl, hb⟩
  have HB := Lib.hid ((below2 _ _ _).trans (hb.mono (by simp; omega)))
  clear hb
  go_wp2_with fail
  all_goals first | go_ret | (rw [Exit.noGoto_ret]; go_ret)
  all_goals first | refine ⟨ret_bool ?_, HB.out⟩
  all_goals first | rfl | (simp [*]; done) | (simp; omega)

theorem refHold_any (op : ByteArray) (a b : V) (w : World) : Calls Try.prog 13 #[.string op, ev a, ev b] w fun e w' => e = .returned (.bool (hold op a b)) ∧ Below w.heap.size w w' := by
  have hc := fun w => refCompare_any a b w
  unfold hold
  generalize vcmp a b = c at *
  obtain ⟨k, n, s⟩ := a
  obtain ⟨k', n', s'⟩ := b
  unfold ev at hc ⊢
  simp only at hc ⊢
  have HC := Lib.hid hc
  clear hc
  cases h1 : (op.toList == [60])
  case true =>
    have h2 : (op.toList == [60, 61]) = false := by rw [eq_of_beq h1]; rfl
    have h3 : (op.toList == [61]) = false := by rw [eq_of_beq h1]; rfl
    have h4 : (op.toList == [33, 61]) = false := by rw [eq_of_beq h1]; rfl
    go_enter Try.func13, Try.ntmps13
    go_wp2_with fail
    refine (HC.out _).mono ?_; rintro e w' ⟨rfl, hb⟩
    have HB := Lib.hid ((below2 _ _ _).trans (hb.mono (by simp; omega)))
    clear hb
    go_wp2_with fail
    all_goals first | go_ret | (rw [Exit.noGoto_ret]; go_ret)
    all_goals first | refine ⟨ret_bool ?_, HB.out⟩
    all_goals first | rfl | (simp [*]; done) | (simp; omega)
  cases h2 : (op.toList == [60, 61])
  case true =>
    have h3 : (op.toList == [61]) = false := by rw [eq_of_beq h2]; rfl
    have h4 : (op.toList == [33, 61]) = false := by rw [eq_of_beq h2]; rfl
    go_enter Try.func13, Try.ntmps13
    go_wp2_with fail
    refine (HC.out _).mono ?_; rintro e w' ⟨rfl, hb⟩
    have HB := Lib.hid ((below2 _ _ _).trans (hb.mono (by simp; omega)))
    clear hb
    go_wp2_with fail
    all_goals first | go_ret | (rw [Exit.noGoto_ret]; go_ret)
    all_goals first | refine ⟨ret_bool ?_, HB.out⟩
    all_goals first | rfl | (simp [*]; done) | (simp; omega)
  cases h3 : (op.toList == [61])
  case true =>
    have h4 : (op.toList == [33, 61]) = false := by rw [eq_of_beq h3]; rfl
    go_enter Try.func13, Try.ntmps13
    go_wp2_with fail
    refine (HC.out _).mono ?_; rintro e w' ⟨rfl, hb⟩
    have HB := Lib.hid ((below2 _ _ _).trans (hb.mono (by simp; omega)))
    clear hb
    go_wp2_with fail
    all_goals first | go_ret | (rw [Exit.noGoto_ret]; go_ret)
    all_goals first | refine ⟨ret_bool ?_, HB.out⟩
    all_goals first | rfl | (simp [*]; done) | (simp; omega)
  cases h4 : (op.toList == [33, 61])
  case true =>
    go_enter Try.func13, Try.ntmps13
    go_wp2_with fail
    refine (HC.out _).mono ?_; rintro e w' ⟨rfl, hb⟩
    have HB := Lib.hid ((below2 _ _ _).trans (hb.mono (by simp; omega)))
    clear hb
    go_wp2_with fail
    all_goals first | go_ret | (rw [Exit.noGoto_ret]; go_ret)
    all_goals first | refine ⟨ret_bool ?_, HB.out⟩
    all_goals first | rfl | (simp [*]; done) | (simp; omega)
  go_enter Try.func13, Try.ntmps13
  go_wp2_with fail
  refine (HC.out _).mono ?_; rintro e w' ⟨rfl, hb⟩
  have HB := Lib.hid ((below2 _ _ _).trans (hb.mono (by simp; omega)))
  clear hb
  go_wp2_with fail
  all_goals first | go_ret | (rw [Exit.noGoto_ret]; go_ret)
  all_goals first | refine ⟨ret_bool ?_, HB.out⟩
  all_goals first | rfl | (simp [*]; done) | (simp; omega)

end Go.Proofs.Ytcoidmkaddnkdaa
