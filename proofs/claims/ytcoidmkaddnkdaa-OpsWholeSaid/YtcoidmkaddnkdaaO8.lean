/- THE WALK OF THE DOCUMENT's Reckon. No condition. -/
import Derived.Test.YtcoidmkaddnkdaaO7
import Derived.Deep.RegionWith
namespace Go.Proofs.Ytcoidmkaddnkdaa
open Go.RowKit AnteFlo AnteVal AnteOps

theorem refAdd_any {a b : Int} (ha : I64 a) (hb : I64 b) (w : World) : Calls Try.prog 27 #[.int .i64 a, .int .i64 b] w fun e w' => e = .returned (.tuple #[.int .i64 (tm (a + b)), .bool (fits (a + b))]) ∧ w' = w := by
  cases h : fits (a + b)
  · rw [tm_not h]; exact refAdd_not ha hb h w
  · rw [tm_fits h]; exact refAdd_fits ha hb h w

set_option linter.unusedVariables false in
theorem refTimes_any {x y : Int} (hx : I64 x) (hy : I64 y) (w : World) : Calls Try.prog 28 #[.int .i64 x, .int .i64 y] w fun e w' => e = .returned (.tuple #[.int .i64 (tm (x * y)), .bool (fits (x * y))]) ∧ w' = w := by
  rcases Classical.em (x = 0) with hx0 | hx0
  · subst hx0
    rw [Int.zero_mul, show tm 0 = 0 from rfl, show fits 0 = true from rfl]
    clear hx hy
    go_enter Try.func28, Try.ntmps28
    go_wp2_with fail
    go_ret2
    exact ⟨rfl, rfl⟩
  have e1 : (x == 0) = false := by simpa using hx0
  rcases Classical.em (y = 0) with hy0 | hy0
  · subst hy0
    rw [Int.mul_zero, show tm 0 = 0 from rfl, show fits 0 = true from rfl]
    clear hx hy hx0
    go_enter Try.func28, Try.ntmps28
    go_wp2_with fail
    go_ret2
    exact ⟨rfl, rfl⟩
  have e2 : (y == 0) = false := by simpa using hy0
  unfold I64 at hx hy
  rcases Classical.em (y = -9223372036854775808) with hm | hm
  · subst hm
    rcases Classical.em (0 < x) with h | h
    · exact times_swap _ x hx ⟨.inr ⟨by omega, by omega⟩, by rw [Int.mul_comm]; omega, h⟩ w
    · have hn : fits (x * -9223372036854775808) = false := fits_not (.inr (by omega))
      have HN := Lib.hid (inv_not hn)
      rcases Classical.em (x = -9223372036854775808) with hl | hl
      · subst hl
        clear hx hy hx0 hy0 h hn
        go_enter Try.func28, Try.ntmps28
        go_wp2_with fail
        go_ret2
        exact ⟨ret_ib' HN.out, rfl⟩
      · have e3 : (x == -9223372036854775808) = false := by simpa using hl
        have e4 : (x < 0) = True := eq_true (by omega)
        clear hx hy hx0 hy0 h hn hl
        go_enter Try.func28, Try.ntmps28
        go_wp2_with fail
        go_ret2
        exact ⟨ret_ib' HN.out, rfl⟩
  rcases Classical.em (0 < y) with h | h
  · exact times_pos _ x y hx hy ⟨by omega, by omega, h⟩ w hx0
  have e3 : (y == -9223372036854775808) = false := by simpa using hm
  have e4 : (y < 0) = True := eq_true (by omega)
  rcases Classical.em (x = -9223372036854775808) with hl | hl
  · subst hl
    have hn : fits (-9223372036854775808 * y) = false := fits_not (.inr (by omega))
    have HN := Lib.hid (inv_not hn)
    clear hx hy hx0 hy0 h hn hm
    go_enter Try.func28, Try.ntmps28
    go_wp2_with fail
    go_ret2
    exact ⟨ret_ib' HN.out, rfl⟩
  · have nx : wrap64 (-x) = -x := by unfold wrap64; omega
    have ny : wrap64 (-y) = -y := by unfold wrap64; omega
    exact times_neg (x * y) x y (by rw [nx]; unfold I64; omega) (by rw [ny]; unfold I64; omega) (by rw [nx, ny]; exact ⟨by omega, by rw [Int.neg_mul_neg]; omega, by omega⟩) w hx0 (by omega) hl hm

theorem toList_is (op : ByteArray) (l : List UInt8) : (op.toList == l) = (op == ⟨l.toArray⟩) := by
  obtain ⟨⟨z⟩⟩ := op
  rw [ByteArray.toList_eq]
  show (z == l) = ((⟨z⟩ : Array UInt8) == l.toArray)
  simp

/-- where things lie -/
structure R3 (n : Nat) (a b : V) (W : World) : Prop where
  a0 : W.cell? ⟨n, 0, none⟩ = some (.int .i64 a.k)
  a1 : W.cell? ⟨n, 1, none⟩ = some (.int .i64 a.n)
  a2 : W.cell? ⟨n, 2, none⟩ = some (.string a.s)
  b0 : W.cell? ⟨n + 1, 0, none⟩ = some (.int .i64 b.k)
  b1 : W.cell? ⟨n + 1, 1, none⟩ = some (.int .i64 b.n)
  b2 : W.cell? ⟨n + 1, 2, none⟩ = some (.string b.s)
  v0 : W.cell? ⟨n + 1 + 1, 0, none⟩ = some (.int .i64 0)
  v1 : W.cell? ⟨n + 1 + 1, 1, none⟩ = some (.int .i64 0)
  v2 : W.cell? ⟨n + 1 + 1, 2, none⟩ = some (.string ⟨#[]⟩)
  fv0 : W.frozen? ⟨n + 1 + 1, 0, none⟩ = false
  fv1 : W.frozen? ⟨n + 1 + 1, 1, none⟩ = false
  fv2 : W.frozen? ⟨n + 1 + 1, 2, none⟩ = false
  size : n + 3 ≤ W.heap.size

theorem R3.below {n : Nat} {a b : V} {W W' : World} (h : R3 n a b W) (hb : Below W.heap.size W W') : R3 n a b W' := by
  obtain ⟨a0, a1, a2, b0, b1, b2, v0, v1, v2, f0, f1, f2, hs⟩ := h
  have := hb.size
  exact ⟨(hb.cell (by simp; omega)).trans a0, (hb.cell (by simp; omega)).trans a1, (hb.cell (by simp; omega)).trans a2,
    (hb.cell (by simp; omega)).trans b0, (hb.cell (by simp; omega)).trans b1, (hb.cell (by simp; omega)).trans b2,
    (hb.cell (by simp; omega)).trans v0, (hb.cell (by simp; omega)).trans v1, (hb.cell (by simp; omega)).trans v2,
    (hb.frozen (by simp; omega)).trans f0, (hb.frozen (by simp; omega)).trans f1, (hb.frozen (by simp; omega)).trans f2, by omega⟩

theorem R3.next {n : Nat} {a b : V} {w W W' : World} (h : R3 n a b W ∧ Below n w W) (hb : Below W.heap.size W W') : R3 n a b W' ∧ Below n w W' :=
  ⟨h.1.below hb, h.2.trans (hb.mono (by have := h.1.size; omega))⟩

def start3 (w : World) (a b : V) : World := ((w.alloc (.cells #[.int .i64 a.k, .int .i64 a.n, .string a.s] 23)).alloc (.cells #[.int .i64 b.k, .int .i64 b.n, .string b.s] 23)).alloc
  (.cells #[.int .i64 0, .int .i64 0, .string ⟨#[]⟩] 23)
theorem start3_is (w : World) (a b : V) : R3 w.heap.size a b (start3 w a b) ∧ Below w.heap.size w (start3 w a b) := by
  unfold start3
  refine ⟨⟨?_, ?_, ?_, ?_, ?_, ?_, ?_, ?_, ?_, ?_, ?_, ?_, by simp⟩, (((Below.refl _ _).alloc (Nat.le_refl _) _).alloc (by simp) _).alloc (by simp; omega) _⟩ <;> simp [go_sem]

def st3 (W : World) (n : Nat) (v : V) : World := ((W.setCell ⟨n + 1 + 1, 0, none⟩ (.int .i64 v.k)).setCell ⟨n + 1 + 1, 1, none⟩ (.int .i64 v.n)).setCell ⟨n + 1 + 1, 2, none⟩ (.string v.s)

theorem done3 {n : Nat} {w W : World} {tmps : Array Value} (h6 : tmps[6]?.getD undef = .pointer (some ⟨n + 1 + 1, 0, none⟩)) {e : Int} (h7 : tmps[7]?.getD undef = .int .i64 e)
    {x y z : Value} (v0 : W.cell? ⟨n + 1 + 1, 0, none⟩ = some x) (v1 : W.cell? ⟨n + 1 + 1, 1, none⟩ = some y) (v2 : W.cell? ⟨n + 1 + 1, 2, none⟩ = some z) (hb : Below n w W) (v : V) :
    ∃ u, (results Try.f11 tmps).run Try.prog (st3 W n v) = .ok u (st3 W n v) ∧ Ending.returned u = .returned (.tuple #[ev v, .int .i64 e]) ∧ Below n w (st3 W n v) := by
  have c0 : (st3 W n v).cell? ⟨n + 1 + 1, 0, none⟩ = some (.int .i64 v.k) := by unfold st3; simp [go_sem, v0]
  have c1 : (st3 W n v).cell? ⟨n + 1 + 1, 1, none⟩ = some (.int .i64 v.n) := by unfold st3; simp [go_sem, v1]
  have c2 : (st3 W n v).cell? ⟨n + 1 + 1, 2, none⟩ = some (.string v.s) := by unfold st3; simp [go_sem, v2]
  exact ⟨_, by simp [results, Try.results11, go_sem, h6, h7, c0, c1, c2]; rfl, rfl, ((hb.setCell (by simp; omega) _).setCell (by simp; omega) _).setCell (by simp; omega) _⟩

end Go.Proofs.Ytcoidmkaddnkdaa
