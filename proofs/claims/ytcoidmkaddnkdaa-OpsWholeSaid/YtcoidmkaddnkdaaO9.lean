/- THE WALK OF THE DOCUMENT's Reckon, each way through it. No condition. -/
import Derived.Test.YtcoidmkaddnkdaaO8
import Derived.Deep.RegionHeld3
namespace Go.Proofs.Ytcoidmkaddnkdaa
open Go.RowKit AnteFlo AnteVal AnteOps
set_option linter.unusedVariables false

theorem vright_one {v : V} (h : vright v = true) (h3 : (v.k == 3) = false) (h2 : (v.k == 2) = false) : v.k = 1 := by
  unfold vright at h
  rcases Classical.em (v.k = 1) with e | e
  · exact e
  · rw [if_neg e, if_neg (by simpa using h2), if_neg (by simpa using h3)] at h
    cases h

theorem less_is {a b : Int} (ha : I64 a) (hb : I64 b) : fits (a - b) = (decide (a < wrap64 (a - b)) == decide (b < 0)) := by
  unfold I64 at ha hb
  cases h : fits (a - b)
  · have hn : a - b < -9223372036854775808 ∨ 9223372036854775807 < a - b := by
      rcases Classical.em (a - b < -9223372036854775808 ∨ 9223372036854775807 < a - b) with h' | h'
      · exact h'
      · rw [fits_of (by omega)] at h; cases h
    unfold wrap64
    by_cases h2 : b < 0
    · have : ¬ a < (a - b + 9223372036854775808) % 18446744073709551616 - 9223372036854775808 := by omega
      simp [h2, this]
    · have : a < (a - b + 9223372036854775808) % 18446744073709551616 - 9223372036854775808 := by omega
      simp [h2, this]
  · have := fits_iff h
    have e : wrap64 (a - b) = a - b := by unfold wrap64; omega
    rw [e]
    by_cases h2 : b < 0
    · have : a < a - b := by omega
      simp [h2, this]
    · have : ¬ a < a - b := by omega
      simp [h2, this]

theorem refTimes_fits {a b : Int} (ha : I64 a) (hb : I64 b) (hf : fits (a * b) = true) (w : World) : Calls Try.prog 28 #[.int .i64 a, .int .i64 b] w fun e w' => e = .returned (.tuple #[.int .i64 (a * b), .bool true]) ∧ w' = w := by
  have := refTimes_any ha hb w; rw [tm_fits hf, hf] at this; exact this
theorem refTimes_not {a b : Int} (ha : I64 a) (hb : I64 b) (hf : fits (a * b) = false) (w : World) : Calls Try.prog 28 #[.int .i64 a, .int .i64 b] w fun e w' => e = .returned (.tuple #[.int .i64 0, .bool false]) ∧ w' = w := by
  have := refTimes_any ha hb w; rw [tm_not hf, hf] at this; exact this

theorem code_op (op : Nat) {x y : Nat} {a b : Int} (hx : x < 18446744073709551616) (hy : y < 18446744073709551616) (h1 : alike x (back a)) (h2 : alike y (back b)) (w : World) :
    code (fbits op x y w) = ocode (fop op (back a) (back b)) := by
  rw [fbits_code, fop_alike op hx hy (back_lt _) (back_lt _) h1 h2]

theorem fworld_cell (op x y : Nat) (u : World) (a : Addr) : (fworld op x y u).cell? a = u.cell? a := by
  obtain ⟨n, e⟩ := fworld_drewN op x y u; rw [e]; rfl
theorem fworld_frozen (op x y : Nat) (u : World) (a : Addr) : (fworld op x y u).frozen? a = u.frozen? a := by
  obtain ⟨n, e⟩ := fworld_drewN op x y u; rw [e]; rfl
theorem fworld_below {B : Nat} {w u : World} (op x y : Nat) (h : Below B w u) : Below B w (fworld op x y u) := by
  obtain ⟨n, e⟩ := fworld_drewN op x y u; rw [e]; exact below_drewN h n

theorem done3g {n : Nat} {w W : World} {tmps : Array Value} (h6 : tmps[6]?.getD undef = .pointer (some ⟨n + 1 + 1, 0, none⟩)) {e : Int} (h7 : tmps[7]?.getD undef = .int .i64 e)
    (v : V) (c0 : W.cell? ⟨n + 1 + 1, 0, none⟩ = some (.int .i64 v.k)) (c1 : W.cell? ⟨n + 1 + 1, 1, none⟩ = some (.int .i64 v.n)) (c2 : W.cell? ⟨n + 1 + 1, 2, none⟩ = some (.string v.s)) (hb : Below n w W) :
    ∃ u, (results Try.f11 tmps).run Try.prog W = .ok u W ∧ Ending.returned u = .returned (.tuple #[ev v, .int .i64 e]) ∧ Below n w W :=
  ⟨_, by simp [results, Try.results11, go_sem, h6, h7, c0, c1, c2]; rfl, rfl, hb⟩

end Go.Proofs.Ytcoidmkaddnkdaa
