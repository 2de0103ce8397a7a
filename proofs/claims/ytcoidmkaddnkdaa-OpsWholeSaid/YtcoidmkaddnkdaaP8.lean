/- WHAT THE DOCUMENT's Reckon ANSWERS, whatever it is called with; whole; awake. No condition. -/
import Derived.Test.YtcoidmkaddnkdaaP1
import Derived.Test.YtcoidmkaddnkdaaP2
import Derived.Test.YtcoidmkaddnkdaaP3
import Derived.Test.YtcoidmkaddnkdaaP4
import Derived.Test.YtcoidmkaddnkdaaP5
import Derived.Test.YtcoidmkaddnkdaaP6
import Derived.Test.YtcoidmkaddnkdaaP7
namespace Go.Proofs.Ytcoidmkaddnkdaa
open Go.RowKit AnteFlo AnteVal AnteOps
set_option linter.unusedVariables false

theorem refReckon_any (op : ByteArray) (a b : V) (ha : a.s.size ≤ maxLen) (hb : b.s.size ≤ maxLen) (na : I64 a.n) (nb : I64 b.n) (w : World) :
    Calls Try.prog 11 #[.string op, ev a, ev b] w fun e w' => e = .returned (.tuple #[ev (rk op a b).1, .int .i64 (rk op a b).2]) ∧ Below w.heap.size w w' := by
  cases h1 : isOp op
  · rw [show rk op a b = (vnil, 1) by unfold rk; rw [h1]; rfl]
    unfold isOp at h1
    simp only [Bool.or_eq_false_iff] at h1
    exact ref_op op a b ha hb (by rw [toList_is]; exact h1.1.1) (by rw [toList_is]; exact h1.1.2) (by rw [toList_is]; exact h1.2) w
  have tt : (op = ⟨#[43]⟩ ∧ (op.toList == [43]) = true ∧ (op.toList == [45]) = false ∧ (op.toList == [42]) = false) ∨ (op = ⟨#[45]⟩ ∧ (op.toList == [43]) = false ∧ (op.toList == [45]) = true ∧ (op.toList == [42]) = false) ∨
      (op = ⟨#[42]⟩ ∧ (op.toList == [43]) = false ∧ (op.toList == [45]) = false ∧ (op.toList == [42]) = true) := by
    rw [toList_is, toList_is, toList_is]
    rcases op_cases h1 with rfl | rfl | rfl
    · exact .inl ⟨rfl, rfl, rfl, rfl⟩
    · exact .inr (.inl ⟨rfl, rfl, rfl, rfl⟩)
    · exact .inr (.inr ⟨rfl, rfl, rfl, rfl⟩)
  cases h2 : vright a
  · rw [show rk op a b = (vnil, 1) by unfold rk; rw [h1, h2]; rfl]
    rcases tt with ⟨_, t1, t2, t3⟩ | ⟨_, t1, t2, t3⟩ | ⟨_, t1, t2, t3⟩
    · exact ref_a_add op a b ha hb t1 t2 t3 h2 w
    · exact ref_a_sub op a b ha hb t1 t2 t3 h2 w
    · exact ref_a_mul op a b ha hb t1 t2 t3 h2 w
  cases h3 : vright b
  · rw [show rk op a b = (vnil, 1) by unfold rk; rw [h1, h2, h3]; rfl]
    rcases tt with ⟨_, t1, t2, t3⟩ | ⟨_, t1, t2, t3⟩ | ⟨_, t1, t2, t3⟩
    · exact ref_b_add op a b ha hb t1 t2 t3 h2 h3 w
    · exact ref_b_sub op a b ha hb t1 t2 t3 h2 h3 w
    · exact ref_b_mul op a b ha hb t1 t2 t3 h2 h3 w
  cases h4 : (a.k != b.k)
  case true =>
    rw [show rk op a b = (vnil, 6) by unfold rk; rw [h1, h2, h3, h4]; rfl]
    rcases tt with ⟨_, t1, t2, t3⟩ | ⟨_, t1, t2, t3⟩ | ⟨_, t1, t2, t3⟩
    · exact ref_k_add op a b ha hb t1 t2 t3 h2 h3 h4 w
    · exact ref_k_sub op a b ha hb t1 t2 t3 h2 h3 h4 w
    · exact ref_k_mul op a b ha hb t1 t2 t3 h2 h3 h4 w
  cases h5 : (a.k == 3)
  case true =>
    rw [show rk op a b = (vnil, 6) by unfold rk; rw [h1, h2, h3, h4, h5]; rfl]
    rcases tt with ⟨_, t1, t2, t3⟩ | ⟨_, t1, t2, t3⟩ | ⟨_, t1, t2, t3⟩
    · exact ref_s_add op a b ha hb t1 t2 t3 h2 h3 h4 h5 w
    · exact ref_s_sub op a b ha hb t1 t2 t3 h2 h3 h4 h5 w
    · exact ref_s_mul op a b ha hb t1 t2 t3 h2 h3 h4 h5 w
  cases h6 : (a.k == 2)
  · have hr : rk op a b = if fits (put op a.n b.n) = true then (⟨1, put op a.n b.n, ⟨#[]⟩⟩, 0) else (vnil, 10) := by unfold rk; rw [h1, h2, h3, h4, h5, h6, vright_one h2 h5 h6]; rfl
    rw [hr]
    rcases tt with ⟨rfl, t1, t2, t3⟩ | ⟨rfl, t1, t2, t3⟩ | ⟨rfl, t1, t2, t3⟩
    · rw [show put ⟨#[43]⟩ a.n b.n = a.n + b.n from rfl]
      cases h7 : fits (a.n + b.n)
      · exact ref_n_add _ a b ha hb t1 t2 t3 h2 h3 h4 h5 h6 na nb h7 w
      · exact ref_i_add _ a b ha hb t1 t2 t3 h2 h3 h4 h5 h6 na nb h7 w
    · rw [show put ⟨#[45]⟩ a.n b.n = a.n - b.n from rfl]
      cases h7 : fits (a.n - b.n)
      · exact ref_n_sub _ a b ha hb t1 t2 t3 h2 h3 h4 h5 h6 na nb h7 w
      · exact ref_i_sub _ a b ha hb t1 t2 t3 h2 h3 h4 h5 h6 na nb h7 w
    · rw [show put ⟨#[42]⟩ a.n b.n = a.n * b.n from rfl]
      cases h7 : fits (a.n * b.n)
      · exact ref_n_mul _ a b ha hb t1 t2 t3 h2 h3 h4 h5 h6 na nb h7 w
      · exact ref_i_mul _ a b ha hb t1 t2 t3 h2 h3 h4 h5 h6 na nb h7 w
  · have hk : a.k = 2 := by simpa using h6
    have hr : rk op a b = (⟨2, putF op a.n b.n, ⟨#[]⟩⟩, 0) := by unfold rk; rw [h1, h2, h3, h4, h5, h6, hk]; rfl
    rw [hr]
    rcases tt with ⟨rfl, t1, t2, t3⟩ | ⟨rfl, t1, t2, t3⟩ | ⟨rfl, t1, t2, t3⟩
    · exact ref_f_add _ a b ha hb t1 t2 t3 h2 h3 h4 h5 h6 na nb w
    · exact ref_f_sub _ a b ha hb t1 t2 t3 h2 h3 h4 h5 h6 na nb w
    · exact ref_f_mul _ a b ha hb t1 t2 t3 h2 h3 h4 h5 h6 na nb w

/-- a whole number -/
def vw (n : Int) : V := ⟨1, n, ⟨#[]⟩⟩
theorem whole_any (n : Int) (w : World) : Calls Try.prog 14 #[.int .i64 n] w fun e w' => e = .returned (.agg #[.int .i64 1, .int .i64 n, .string ⟨#[]⟩]) ∧ Below w.heap.size w w' := by
  go_enter Try.func14, Try.ntmps14
  go_wp2
  refine ⟨rfl, _, ?_, rfl, ?_⟩
  · simp [results, Try.results14, go_sem]
  · exact below1 _ _

theorem vright_vw (n : Int) : vright (vw n) = true := by
  unfold vright vw; rw [if_pos rfl, ByteArray.toList_eq]; rfl
/-- what whole numbers are put together to -/
theorem rk_whole {op : ByteArray} (h : isOp op = true) (x y : Int) : rk op (vw x) (vw y) = if fits (put op x y) = true then (vw (put op x y), 0) else (vnil, 10) := by
  unfold rk
  rw [h, vright_vw, vright_vw]
  rfl
/-- .. as Go has it -/
def rw_ (op : ByteArray) (x y : Int) : V × Int := if fits (put op x y) = true then (vw (put op x y), 0) else (vnil, 10)
theorem reckon_whole {op : ByteArray} (h : isOp op = true) {x y : Int} (hx : I64 x) (hy : I64 y) (w : World) :
    Calls Try.prog 10 #[.string op, .agg #[.int .i64 1, .int .i64 x, .string ⟨#[]⟩], .agg #[.int .i64 1, .int .i64 y, .string ⟨#[]⟩]] w fun e w' =>
      e = .returned (.tuple #[ev (rw_ op x y).1, .int .i64 (rw_ op x y).2]) ∧ Below w.heap.size w w' := by
  have := reckon_any op (vw x) (vw y) (by unfold vw maxLen; exact Nat.zero_le _) (by unfold vw maxLen; exact Nat.zero_le _) hx hy w
  rw [rk_whole h] at this
  exact this

/-! ### For regions that draw their order, where what is called leaves all cells as they are -/
theorem cell_keep {W W' : World} {a : Addr} {v : Value} (h : W.cell? a = some v) (hb : Below W.heap.size W W') : W'.cell? a = some v :=
  (hb.cell (by
    rcases Classical.em (a.block < W.heap.size) with h' | h'
    · exact h'
    · have : W.heap[a.block]? = none := Array.getElem?_eq_none (by omega)
      simp [World.cell?, this] at h)).trans h
theorem below_next {w W W' : World} (h : Below w.heap.size w W) (hb : Below W.heap.size W W') : Below w.heap.size w W' := h.trans (hb.mono h.size)

end Go.Proofs.Ytcoidmkaddnkdaa
