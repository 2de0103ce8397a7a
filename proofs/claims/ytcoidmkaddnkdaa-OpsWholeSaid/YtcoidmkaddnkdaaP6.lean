/- THE WALK OF THE DOCUMENT's Reckon: whole numbers. No condition. -/
import Derived.Test.YtcoidmkaddnkdaaO9
namespace Go.Proofs.Ytcoidmkaddnkdaa
open Go.RowKit AnteFlo AnteVal AnteOps
set_option linter.unusedVariables false

set_option maxHeartbeats 1600000 in
theorem ref_i_sub (op : ByteArray) (a b : V) (ha : a.s.size ≤ maxLen) (hb : b.s.size ≤ maxLen) (t1 : (op.toList == [43]) = false) (t2 : (op.toList == [45]) = true) (t3 : (op.toList == [42]) = false) (ra : vright a = true) (rb : vright b = true) (hk : (a.k != b.k) = false) (hk3 : (a.k == 3) = false) (hk2 : (a.k == 2) = false) (na : I64 a.n) (nb : I64 b.n) (hf : fits (a.n - b.n) = true) (w : World) :
    Calls Try.prog 11 #[.string op, ev a, ev b] w fun e w' => e = .returned (.tuple #[ev ⟨1, a.n - b.n, ⟨#[]⟩⟩, .int .i64 0]) ∧ Below w.heap.size w w' := by
  have NA := Lib.hid na
  have NB := Lib.hid nb
  have HF := Lib.hid hf
  have hl := less_is na nb
  rw [hf] at hl
  clear na nb hf
  have HA := Lib.hid ha
  have HB := Lib.hid hb
  clear ha hb
  have hs := start3_is w a b
  unfold start3 at hs
  obtain ⟨k, n, s⟩ := a
  obtain ⟨k', n', s'⟩ := b
  unfold ev
  simp only at hs HA HB NA NB HF ra rb hk hk3 hk2 hl ⊢
  have HS := Lib.hid hs
  clear hs
  have HL := Lib.hid hl
  clear hl
  go_enter Try.func11, Try.ntmps11
  go_wp2_with fail
  revert HS
  generalize ((w.alloc (.cells #[.int .i64 k, .int .i64 n, .string s] 23)).alloc (.cells #[.int .i64 k', .int .i64 n', .string s'] 23)).alloc
    (.cells #[.int .i64 0, .int .i64 0, .string ⟨#[]⟩] 23) = W
  intro HS
  obtain ⟨⟨a0, a1, a2, b0, b1, b2, v0, v1, v2, fv0, fv1, fv2, hsz⟩, hbel⟩ := HS.out
  have HSZ := Lib.hid hsz
  have HBL := Lib.hid hbel
  clear hsz hbel
  go_simp
  go_wp2_with fail
  refine (refVright_any ⟨k, n, s⟩ HA.out _).mono ?_; rintro e W4 ⟨rfl, hb⟩
  have HS4 := Lib.hid (R3.next HS.out hb)
  clear hb HBL
  clear a0 a1 a2 b0 b1 b2 v0 v1 v2 fv0 fv1 fv2 HSZ
  obtain ⟨⟨a0, a1, a2, b0, b1, b2, v0, v1, v2, fv0, fv1, fv2, hsz⟩, hbel⟩ := HS4.out
  have HSZ := Lib.hid hsz
  have HBL := Lib.hid hbel
  clear hsz hbel
  go_simp
  go_wp2_with fail
  refine (refVright_any ⟨k', n', s'⟩ HB.out _).mono ?_; rintro e W5 ⟨rfl, hb⟩
  have HS5 := Lib.hid (R3.next HS4.out hb)
  clear hb HBL
  clear a0 a1 a2 b0 b1 b2 v0 v1 v2 fv0 fv1 fv2 HSZ
  obtain ⟨⟨a0, a1, a2, b0, b1, b2, v0, v1, v2, fv0, fv1, fv2, hsz⟩, hbel⟩ := HS5.out
  have HSZ := Lib.hid hsz
  have HBL := Lib.hid hbel
  clear hsz hbel
  have AD := Lib.hid (refAdd_any NA.out NB.out)
  go_wp2_with fail
  refine (AD.out _).mono ?_; rintro e w' ⟨rfl, rfl⟩
  have he : wrap64 (n - n') = n - n' := by have := fits_iff HF.out; unfold wrap64; omega
  have hl := HL.out
  rw [he] at hl
  rcases Classical.em (n < n - n') with g1 | g1 <;> rcases Classical.em (n' < 0) with g2 | g2
  · have g3 : (n < n - n') = True := eq_true g1
    have g4 : (n' < 0) = True := eq_true g2
    clear g1 g2 hl
    go_wp2_with fail
    exact ⟨rfl, done3 (n := w.heap.size) rfl rfl v0 v1 v2 HBL.out ⟨1, n - n', ⟨#[]⟩⟩⟩
  · exfalso; simp [g1, g2] at hl
  · exfalso; simp [g1, g2] at hl
  · have g3 : (n < n - n') = False := eq_false g1
    have g4 : (n' < 0) = False := eq_false g2
    clear g1 g2 hl
    go_wp2_with fail
    exact ⟨rfl, done3 (n := w.heap.size) rfl rfl v0 v1 v2 HBL.out ⟨1, n - n', ⟨#[]⟩⟩⟩

set_option maxHeartbeats 1600000 in
theorem ref_n_sub (op : ByteArray) (a b : V) (ha : a.s.size ≤ maxLen) (hb : b.s.size ≤ maxLen) (t1 : (op.toList == [43]) = false) (t2 : (op.toList == [45]) = true) (t3 : (op.toList == [42]) = false) (ra : vright a = true) (rb : vright b = true) (hk : (a.k != b.k) = false) (hk3 : (a.k == 3) = false) (hk2 : (a.k == 2) = false) (na : I64 a.n) (nb : I64 b.n) (hf : fits (a.n - b.n) = false) (w : World) :
    Calls Try.prog 11 #[.string op, ev a, ev b] w fun e w' => e = .returned (.tuple #[ev vnil, .int .i64 10]) ∧ Below w.heap.size w w' := by
  have NA := Lib.hid na
  have NB := Lib.hid nb
  have HF := Lib.hid hf
  have hl := less_is na nb
  rw [hf] at hl
  clear na nb hf
  have HA := Lib.hid ha
  have HB := Lib.hid hb
  clear ha hb
  have hs := start3_is w a b
  unfold start3 at hs
  obtain ⟨k, n, s⟩ := a
  obtain ⟨k', n', s'⟩ := b
  unfold ev
  simp only at hs HA HB NA NB HF ra rb hk hk3 hk2 hl ⊢
  have HS := Lib.hid hs
  clear hs
  have HL := Lib.hid hl
  clear hl
  go_enter Try.func11, Try.ntmps11
  go_wp2_with fail
  revert HS
  generalize ((w.alloc (.cells #[.int .i64 k, .int .i64 n, .string s] 23)).alloc (.cells #[.int .i64 k', .int .i64 n', .string s'] 23)).alloc
    (.cells #[.int .i64 0, .int .i64 0, .string ⟨#[]⟩] 23) = W
  intro HS
  obtain ⟨⟨a0, a1, a2, b0, b1, b2, v0, v1, v2, fv0, fv1, fv2, hsz⟩, hbel⟩ := HS.out
  have HSZ := Lib.hid hsz
  have HBL := Lib.hid hbel
  clear hsz hbel
  go_simp
  go_wp2_with fail
  refine (refVright_any ⟨k, n, s⟩ HA.out _).mono ?_; rintro e W4 ⟨rfl, hb⟩
  have HS4 := Lib.hid (R3.next HS.out hb)
  clear hb HBL
  clear a0 a1 a2 b0 b1 b2 v0 v1 v2 fv0 fv1 fv2 HSZ
  obtain ⟨⟨a0, a1, a2, b0, b1, b2, v0, v1, v2, fv0, fv1, fv2, hsz⟩, hbel⟩ := HS4.out
  have HSZ := Lib.hid hsz
  have HBL := Lib.hid hbel
  clear hsz hbel
  go_simp
  go_wp2_with fail
  refine (refVright_any ⟨k', n', s'⟩ HB.out _).mono ?_; rintro e W5 ⟨rfl, hb⟩
  have HS5 := Lib.hid (R3.next HS4.out hb)
  clear hb HBL
  clear a0 a1 a2 b0 b1 b2 v0 v1 v2 fv0 fv1 fv2 HSZ
  obtain ⟨⟨a0, a1, a2, b0, b1, b2, v0, v1, v2, fv0, fv1, fv2, hsz⟩, hbel⟩ := HS5.out
  have HSZ := Lib.hid hsz
  have HBL := Lib.hid hbel
  clear hsz hbel
  have AD := Lib.hid (refAdd_any NA.out NB.out)
  go_wp2_with fail
  refine (AD.out _).mono ?_; rintro e w' ⟨rfl, rfl⟩
  obtain ⟨m, hm⟩ : ∃ m, wrap64 (n - n') = m := ⟨_, rfl⟩
  have hl := HL.out
  rw [hm] at hl
  rcases Classical.em (n < m) with g1 | g1 <;> rcases Classical.em (n' < 0) with g2 | g2
  · exfalso; simp [g1, g2] at hl
  · have g3 : (n < m) = True := eq_true g1
    have g4 : (n' < 0) = False := eq_false g2
    clear g1 g2 hl
    go_wp2_with fail
    first
      | exact ⟨rfl, done3g (n := w.heap.size) rfl rfl vnil v0 v1 v2 HBL.out⟩
      | exact ⟨rfl, done3 (n := w.heap.size) rfl rfl v0 v1 v2 HBL.out vnil⟩
  · have g3 : (n < m) = False := eq_false g1
    have g4 : (n' < 0) = True := eq_true g2
    clear g1 g2 hl
    go_wp2_with fail
    first
      | exact ⟨rfl, done3g (n := w.heap.size) rfl rfl vnil v0 v1 v2 HBL.out⟩
      | exact ⟨rfl, done3 (n := w.heap.size) rfl rfl v0 v1 v2 HBL.out vnil⟩
  · exfalso; simp [g1, g2] at hl

end Go.Proofs.Ytcoidmkaddnkdaa
