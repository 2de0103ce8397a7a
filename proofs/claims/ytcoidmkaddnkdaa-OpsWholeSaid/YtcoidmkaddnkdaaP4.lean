/- THE WALK OF THE DOCUMENT's Reckon: numbers with a point. No condition. -/
import Derived.Test.YtcoidmkaddnkdaaO9
namespace Go.Proofs.Ytcoidmkaddnkdaa
open Go.RowKit AnteFlo AnteVal AnteOps
set_option linter.unusedVariables false

set_option maxHeartbeats 1600000 in
theorem ref_f_mul (op : ByteArray) (a b : V) (ha : a.s.size ≤ maxLen) (hb : b.s.size ≤ maxLen) (t1 : (op.toList == [43]) = false) (t2 : (op.toList == [45]) = false) (t3 : (op.toList == [42]) = true) (ra : vright a = true) (rb : vright b = true) (hk : (a.k != b.k) = false) (hk3 : (a.k == 3) = false) (hk2 : (a.k == 2) = true) (na : I64 a.n) (nb : I64 b.n) (w : World) :
    Calls Try.prog 11 #[.string op, ev a, ev b] w fun e w' => e = .returned (.tuple #[ev ⟨2, gMul a.n b.n, ⟨#[]⟩⟩, .int .i64 0]) ∧ Below w.heap.size w w' := by
  have f1 := @run_fadd Try.prog
  have f2 := @run_fsub Try.prog
  have f3 := @run_fmul Try.prog
  have q1 := fworld_cell
  have q2 := fworld_frozen
  have NA := Lib.hid na
  have NB := Lib.hid nb
  clear na nb
  have HA := Lib.hid ha
  have HB := Lib.hid hb
  clear ha hb
  have hs := start3_is w a b
  unfold start3 at hs
  obtain ⟨k, n, s⟩ := a
  obtain ⟨k', n', s'⟩ := b
  unfold ev
  simp only at hs HA HB NA NB ra rb hk hk3 hk2 ⊢
  have HS := Lib.hid hs
  clear hs
  go_enter Try.func11, Try.ntmps11
  go_wp2_with fail
  revert HS
  generalize ((w.alloc (.cells #[.int .i64 k, .int .i64 n, .string s] 23)).alloc (.cells #[.int .i64 k', .int .i64 n', .string s'] 23)).alloc
    (.cells #[.int .i64 0, .int .i64 0, .string ⟨#[]⟩] 23) = W
  intro HS
  obtain ⟨⟨a0, a1, a2, b0, b1, b2, v0, v1, v2, fv0, fv1, fv2, hsz⟩, hbel⟩ := HS.out
  have HSZ := Lib.hid hsz
  have HBL := Lib.hid hbel
  clear hsz hbel
  go_simp
  go_wp2_with fail
  refine (refVright_any ⟨k, n, s⟩ HA.out _).mono ?_; rintro e W4 ⟨rfl, hb⟩
  have HS4 := Lib.hid (R3.next HS.out hb)
  clear hb HBL
  clear a0 a1 a2 b0 b1 b2 v0 v1 v2 fv0 fv1 fv2 HSZ
  obtain ⟨⟨a0, a1, a2, b0, b1, b2, v0, v1, v2, fv0, fv1, fv2, hsz⟩, hbel⟩ := HS4.out
  have HSZ := Lib.hid hsz
  have HBL := Lib.hid hbel
  clear hsz hbel
  go_simp
  go_wp2_with fail
  refine (refVright_any ⟨k', n', s'⟩ HB.out _).mono ?_; rintro e W5 ⟨rfl, hb⟩
  have HS5 := Lib.hid (R3.next HS4.out hb)
  clear hb HBL
  clear a0 a1 a2 b0 b1 b2 v0 v1 v2 fv0 fv1 fv2 HSZ
  obtain ⟨⟨a0, a1, a2, b0, b1, b2, v0, v1, v2, fv0, fv1, fv2, hsz⟩, hbel⟩ := HS5.out
  have HSZ := Lib.hid hsz
  have HBL := Lib.hid hbel
  clear hsz hbel
  have BA := Lib.hid (refBack_any n NA.out)
  have BB := Lib.hid (refBack_any n' NB.out)
  go_wp2_with fail
  go_region_held3 (fun w' => w'.cell? ⟨w.heap.size, 1, none⟩ = some (.int .i64 n) ∧ w'.cell? ⟨w.heap.size + 1, 1, none⟩ = some (.int .i64 n')) (go_keep) (first | (go_at_call 25; with_reducible refine (BA.out _).mono ?_; rintro e w' ⟨x, rfl, xal, xlt, k1, rfl⟩) | (go_at_call 25; with_reducible refine (BB.out _).mono ?_; rintro e w' ⟨y, rfl, yal, ylt, k2, rfl⟩))
  all_goals
    have C1 : Hid (∀ u, code (fbits 2 x y u) = gMul n n') := code_op 2 xlt ylt xal yal
    clear xal xlt yal ylt
    go_wp2_with fail
    refine (refCode_any (fbits_lt _ _ _ _) _).mono ?_; rintro e w' ⟨rfl, rfl⟩
    have C2 := C1.out
    go_wp2_with fail
    refine ⟨rfl, done3 (n := w.heap.size) (x := .int .i64 0) (y := .int .i64 0) (z := .string ⟨#[]⟩) rfl rfl ?_ ?_ ?_ ?_ ⟨2, gMul n n', ⟨#[]⟩⟩⟩
    · simp only [q1]; exact v0
    · simp only [q1]; exact v1
    · simp only [q1]; exact v2
    · repeat' first | exact below_drewN HBL.out _ | refine fworld_below _ _ _ ?_

end Go.Proofs.Ytcoidmkaddnkdaa
