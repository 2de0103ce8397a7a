/- FOR ops' LAWS: what whole numbers, and numbers with a point, are put together to. No condition. -/
import Derived.Test.YtcoidmkaddnkdaaP9
namespace Go.Proofs.Ytcoidmkaddnkdaa
open Go.RowKit AnteFlo AnteVal AnteOps

theorem add_fit {x y : Int} (hx : I64 x) (hy : I64 y) (hf : fits (x + y) = true) (w : World) :
    Calls Try.prog 10 #[.string ⟨#[43]⟩, .agg #[.int .i64 1, .int .i64 x, .string ⟨#[]⟩], .agg #[.int .i64 1, .int .i64 y, .string ⟨#[]⟩]] w fun e w' =>
      e = .returned (.tuple #[.agg #[.int .i64 1, .int .i64 (x + y), .string ⟨#[]⟩], .int .i64 0]) ∧ Below w.heap.size w w' := by
  have := reckon_whole (op := ⟨#[43]⟩) rfl hx hy w
  rw [show rw_ ⟨#[43]⟩ x y = (vw (x + y), 0) from if_pos hf] at this
  exact this
theorem add_over {x y : Int} (hx : I64 x) (hy : I64 y) (hf : fits (x + y) = false) (w : World) :
    Calls Try.prog 10 #[.string ⟨#[43]⟩, .agg #[.int .i64 1, .int .i64 x, .string ⟨#[]⟩], .agg #[.int .i64 1, .int .i64 y, .string ⟨#[]⟩]] w fun e w' =>
      e = .returned (.tuple #[.agg #[.int .i64 0, .int .i64 0, .string ⟨#[]⟩], .int .i64 10]) ∧ Below w.heap.size w w' := by
  have := reckon_whole (op := ⟨#[43]⟩) rfl hx hy w
  rw [show rw_ ⟨#[43]⟩ x y = (vnil, 10) from if_neg (by rw [show put ⟨#[43]⟩ x y = x + y from rfl, hf]; exact Bool.false_ne_true)] at this
  exact this
theorem sub_fit {x y : Int} (hx : I64 x) (hy : I64 y) (hf : fits (x - y) = true) (w : World) :
    Calls Try.prog 10 #[.string ⟨#[45]⟩, .agg #[.int .i64 1, .int .i64 x, .string ⟨#[]⟩], .agg #[.int .i64 1, .int .i64 y, .string ⟨#[]⟩]] w fun e w' =>
      e = .returned (.tuple #[.agg #[.int .i64 1, .int .i64 (x - y), .string ⟨#[]⟩], .int .i64 0]) ∧ Below w.heap.size w w' := by
  have := reckon_whole (op := ⟨#[45]⟩) rfl hx hy w
  rw [show rw_ ⟨#[45]⟩ x y = (vw (x - y), 0) from if_pos hf] at this
  exact this
theorem mul_fit {x y : Int} (hx : I64 x) (hy : I64 y) (hf : fits (x * y) = true) (w : World) :
    Calls Try.prog 10 #[.string ⟨#[42]⟩, .agg #[.int .i64 1, .int .i64 x, .string ⟨#[]⟩], .agg #[.int .i64 1, .int .i64 y, .string ⟨#[]⟩]] w fun e w' =>
      e = .returned (.tuple #[.agg #[.int .i64 1, .int .i64 (x * y), .string ⟨#[]⟩], .int .i64 0]) ∧ Below w.heap.size w w' := by
  have := reckon_whole (op := ⟨#[42]⟩) rfl hx hy w
  rw [show rw_ ⟨#[42]⟩ x y = (vw (x * y), 0) from if_pos hf] at this
  exact this
theorem mul_over {x y : Int} (hx : I64 x) (hy : I64 y) (hf : fits (x * y) = false) (w : World) :
    Calls Try.prog 10 #[.string ⟨#[42]⟩, .agg #[.int .i64 1, .int .i64 x, .string ⟨#[]⟩], .agg #[.int .i64 1, .int .i64 y, .string ⟨#[]⟩]] w fun e w' =>
      e = .returned (.tuple #[.agg #[.int .i64 0, .int .i64 0, .string ⟨#[]⟩], .int .i64 10]) ∧ Below w.heap.size w w' := by
  have := reckon_whole (op := ⟨#[42]⟩) rfl hx hy w
  rw [show rw_ ⟨#[42]⟩ x y = (vnil, 10) from if_neg (by rw [show put ⟨#[42]⟩ x y = x * y from rfl, hf]; exact Bool.false_ne_true)] at this
  exact this

theorem bounds_i32 {n : Int} (h : (Lit.int .i32 n).wf = true) : -2147483648 ≤ n ∧ n ≤ 2147483647 := by
  simp [Lit.wf, IntKind.min, IntKind.max, IntKind.signed, IntKind.bits] at h
  omega

end Go.Proofs.Ytcoidmkaddnkdaa
