/- THE WALKS OF flo's Add, Div AND Of. No condition but the range of an int64. -/
import Derived.Test.YtolefpeiceiocaaGreatW1
import Derived.Lib.Hide
namespace Go.Proofs.YtolefpeiceiocaaGreat
open Go.RowKit AnteFlo

theorem float_of_ (n : Int) : floatOfInt .f64 n = ofInt n := rfl
theorem div_any (a b : Int) (ha : -9223372036854775808 ≤ a ∧ a ≤ 9223372036854775807) (hb : -9223372036854775808 ≤ b ∧ b ≤ 9223372036854775807) (w : World) :
    Calls Tryz.prog 16 #[.int .i64 a, .int .i64 b] w fun e w' => e = .returned (.int .i64 (ocode (fop 3 (back a) (back b)))) ∧ w' = fworld 3 (back a) (back b) w := by
  have hf := @run_fdiv Tryz.prog
  go_enter Tryz.func16, Tryz.ntmps16
  go_wp2_with fail
  refine (back_any a ha _).mono ?_; rintro e w' ⟨rfl, rfl⟩
  go_wp2_with fail
  refine (back_any b hb _).mono ?_; rintro e w' ⟨rfl, rfl⟩
  go_wp2_with fail
  refine (code_any (fbits_lt _ _ _ _) _).mono ?_; rintro e w' ⟨rfl, rfl⟩
  go_wp2_with fail
  go_ret
  exact ⟨ret_int (fbits_code _ _ _ _), rfl⟩

theorem ofInt_lt_ (n : Int) : ofInt n < 18446744073709551616 := Ieee.Format.write_lt D _

theorem of_any (n : Int) (w : World) : Calls Tryz.prog 18 #[.int .i64 n] w fun e w' => e = .returned (.int .i64 (code (ofInt n))) ∧ w = w' := by
  have ho := float_of_
  go_enter Tryz.func18, Tryz.ntmps18
  go_wp2_with fail
  refine (code_any (ofInt_lt_ n) _).mono ?_; rintro e w' ⟨rfl, rfl⟩
  go_wp2_with fail
  go_ret
  exact ⟨rfl, rfl⟩
end Go.Proofs.YtolefpeiceiocaaGreat
