/- FOR ops' LAWS: what whole numbers are put together to, whether that fits or not; how they compare. No condition. -/
import Derived.Test.YtcoidmkaddnkdaaQ1
namespace Go.Proofs.Ytcoidmkaddnkdaa
open Go.RowKit AnteFlo AnteVal AnteOps

/-! ### .. whether it fits or not -/
def fe (P : Int) : Int := if fits P = true then 0 else 10
def fk (P : Int) : Int := if fits P = true then 1 else 0
theorem fe_fits {P : Int} (h : fits P = true) : fe P = 0 ∧ fk P = 1 ∧ tm P = P := ⟨if_pos h, if_pos h, if_pos h⟩
theorem fe_not {P : Int} (h : fits P = false) : fe P = 10 ∧ fk P = 0 ∧ tm P = 0 := by unfold fe fk tm; rw [h]; exact ⟨rfl, rfl, rfl⟩
theorem rw_gen (op : ByteArray) (x y : Int) : rw_ op x y = (⟨fk (put op x y), tm (put op x y), ⟨#[]⟩⟩, fe (put op x y)) := by
  unfold rw_ fk tm fe
  cases fits (put op x y) <;> rfl
theorem add_gen {x y : Int} (hx : I64 x) (hy : I64 y) (w : World) :
    Calls Try.prog 10 #[.string ⟨#[43]⟩, .agg #[.int .i64 1, .int .i64 x, .string ⟨#[]⟩], .agg #[.int .i64 1, .int .i64 y, .string ⟨#[]⟩]] w fun e w' =>
      e = .returned (.tuple #[.agg #[.int .i64 (fk (x + y)), .int .i64 (tm (x + y)), .string ⟨#[]⟩], .int .i64 (fe (x + y))]) ∧ Below w.heap.size w w' := by
  have := reckon_whole (op := ⟨#[43]⟩) rfl hx hy w
  rw [rw_gen] at this
  exact this
theorem mul_gen {x y : Int} (hx : I64 x) (hy : I64 y) (w : World) :
    Calls Try.prog 10 #[.string ⟨#[42]⟩, .agg #[.int .i64 1, .int .i64 x, .string ⟨#[]⟩], .agg #[.int .i64 1, .int .i64 y, .string ⟨#[]⟩]] w fun e w' =>
      e = .returned (.tuple #[.agg #[.int .i64 (fk (x * y)), .int .i64 (tm (x * y)), .string ⟨#[]⟩], .int .i64 (fe (x * y))]) ∧ Below w.heap.size w w' := by
  have := reckon_whole (op := ⟨#[42]⟩) rfl hx hy w
  rw [rw_gen] at this
  exact this

theorem hold_whole (x y : Int) : hold ⟨#[60]⟩ (vw x) (vw y) = decide (x < y) := by
  have h : vcmp (vw x) (vw y) = ncmp x y := by
    unfold vcmp vw
    simp only
    rw [show ncmp 1 1 = 0 from rfl]
    rcases scmp_cases (⟨#[]⟩ : ByteArray).toList (⟨#[]⟩ : ByteArray).toList with ⟨_, h, _⟩ | ⟨h, _, _⟩ | ⟨_, h, _⟩
    · exact absurd h (List.lt_irrefl _)
    · rw [h]; unfold orz; simp; intro h; exact h.symm
    · exact absurd h (List.lt_irrefl _)
  unfold hold
  rw [if_pos (by decide +kernel), h]
  rcases ncmp_cases x y with ⟨h1, h2, _⟩ | ⟨h1, h2, _⟩ | ⟨h1, h2, _⟩ <;> rw [h1]
  · rw [decide_eq_true h2]; rfl
  · rw [decide_eq_false (show ¬ x < y by omega)]; rfl
  · rw [decide_eq_false (show ¬ x < y by omega)]; rfl
theorem hold_lt (x y : Int) (w : World) : Calls Try.prog 12 #[.string ⟨#[60]⟩, .agg #[.int .i64 1, .int .i64 x, .string ⟨#[]⟩], .agg #[.int .i64 1, .int .i64 y, .string ⟨#[]⟩]] w fun e w' =>
    e = .returned (.bool (decide (x < y))) ∧ Below w.heap.size w w' := by
  have := hold_any ⟨#[60]⟩ (vw x) (vw y) w
  rw [hold_whole] at this
  exact this

end Go.Proofs.Ytcoidmkaddnkdaa
