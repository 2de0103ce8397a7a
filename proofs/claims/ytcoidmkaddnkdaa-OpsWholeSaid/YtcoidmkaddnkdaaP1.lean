/- THE WALK OF THE DOCUMENT's Reckon: its errors. No condition. -/
import Derived.Test.YtcoidmkaddnkdaaO9
namespace Go.Proofs.Ytcoidmkaddnkdaa
open Go.RowKit AnteFlo AnteVal AnteOps
set_option linter.unusedVariables false

theorem ref_op (op : ByteArray) (a b : V) (ha : a.s.size ≤ maxLen) (hb : b.s.size ≤ maxLen) (t1 : (op.toList == [43]) = false) (t2 : (op.toList == [45]) = false) (t3 : (op.toList == [42]) = false)  (w : World) :
    Calls Try.prog 11 #[.string op, ev a, ev b] w fun e w' => e = .returned (.tuple #[ev vnil, .int .i64 1]) ∧ Below w.heap.size w w' := by
  have HA := Lib.hid ha
  have HB := Lib.hid hb
  clear ha hb
  have hs := start3_is w a b
  unfold start3 at hs
  obtain ⟨k, n, s⟩ := a
  obtain ⟨k', n', s'⟩ := b
  unfold ev
  simp only at hs HA HB  ⊢
  have HS := Lib.hid hs
  clear hs
  go_enter Try.func11, Try.ntmps11
  go_wp2_with fail
  revert HS
  generalize ((w.alloc (.cells #[.int .i64 k, .int .i64 n, .string s] 23)).alloc (.cells #[.int .i64 k', .int .i64 n', .string s'] 23)).alloc
    (.cells #[.int .i64 0, .int .i64 0, .string ⟨#[]⟩] 23) = W
  intro HS
  obtain ⟨⟨a0, a1, a2, b0, b1, b2, v0, v1, v2, fv0, fv1, fv2, hsz⟩, hbel⟩ := HS.out
  have HSZ := Lib.hid hsz
  have HBL := Lib.hid hbel
  clear hsz hbel
  go_simp
  go_wp2_with fail
  first
    | exact ⟨rfl, done3g (n := w.heap.size) rfl rfl vnil v0 v1 v2 HBL.out⟩
    | exact ⟨rfl, done3 (n := w.heap.size) rfl rfl v0 v1 v2 HBL.out vnil⟩

theorem ref_a_add (op : ByteArray) (a b : V) (ha : a.s.size ≤ maxLen) (hb : b.s.size ≤ maxLen) (t1 : (op.toList == [43]) = true) (t2 : (op.toList == [45]) = false) (t3 : (op.toList == [42]) = false) (ra : vright a = false) (w : World) :
    Calls Try.prog 11 #[.string op, ev a, ev b] w fun e w' => e = .returned (.tuple #[ev vnil, .int .i64 1]) ∧ Below w.heap.size w w' := by
  have HA := Lib.hid ha
  have HB := Lib.hid hb
  clear ha hb
  have hs := start3_is w a b
  unfold start3 at hs
  obtain ⟨k, n, s⟩ := a
  obtain ⟨k', n', s'⟩ := b
  unfold ev
  simp only at hs HA HB ra ⊢
  have HS := Lib.hid hs
  clear hs
  go_enter Try.func11, Try.ntmps11
  go_wp2_with fail
  revert HS
  generalize ((w.alloc (.cells #[.int .i64 k, .int .i64 n, .string s] 23)).alloc (.cells #[.int .i64 k', .int .i64 n', .string s'] 23)).alloc
    (.cells #[.int .i64 0, .int .i64 0, .string ⟨#[]⟩] 23) = W
  intro HS
  obtain ⟨⟨a0, a1, a2, b0, b1, b2, v0, v1, v2, fv0, fv1, fv2, hsz⟩, hbel⟩ := HS.out
  have HSZ := Lib.hid hsz
  have HBL := Lib.hid hbel
  clear hsz hbel
  go_simp
  go_wp2_with fail
  refine (refVright_any ⟨k, n, s⟩ HA.out _).mono ?_; rintro e W4 ⟨rfl, hb⟩
  have HS4 := Lib.hid (R3.next HS.out hb)
  clear hb HBL
  clear a0 a1 a2 b0 b1 b2 v0 v1 v2 fv0 fv1 fv2 HSZ
  obtain ⟨⟨a0, a1, a2, b0, b1, b2, v0, v1, v2, fv0, fv1, fv2, hsz⟩, hbel⟩ := HS4.out
  have HSZ := Lib.hid hsz
  have HBL := Lib.hid hbel
  clear hsz hbel
  go_wp2_with fail
  first
    | exact ⟨rfl, done3g (n := w.heap.size) rfl rfl vnil v0 v1 v2 HBL.out⟩
    | exact ⟨rfl, done3 (n := w.heap.size) rfl rfl v0 v1 v2 HBL.out vnil⟩

theorem ref_b_add (op : ByteArray) (a b : V) (ha : a.s.size ≤ maxLen) (hb : b.s.size ≤ maxLen) (t1 : (op.toList == [43]) = true) (t2 : (op.toList == [45]) = false) (t3 : (op.toList == [42]) = false) (ra : vright a = true) (rb : vright b = false) (w : World) :
    Calls Try.prog 11 #[.string op, ev a, ev b] w fun e w' => e = .returned (.tuple #[ev vnil, .int .i64 1]) ∧ Below w.heap.size w w' := by
  have HA := Lib.hid ha
  have HB := Lib.hid hb
  clear ha hb
  have hs := start3_is w a b
  unfold start3 at hs
  obtain ⟨k, n, s⟩ := a
  obtain ⟨k', n', s'⟩ := b
  unfold ev
  simp only at hs HA HB ra rb ⊢
  have HS := Lib.hid hs
  clear hs
  go_enter Try.func11, Try.ntmps11
  go_wp2_with fail
  revert HS
  generalize ((w.alloc (.cells #[.int .i64 k, .int .i64 n, .string s] 23)).alloc (.cells #[.int .i64 k', .int .i64 n', .string s'] 23)).alloc
    (.cells #[.int .i64 0, .int .i64 0, .string ⟨#[]⟩] 23) = W
  intro HS
  obtain ⟨⟨a0, a1, a2, b0, b1, b2, v0, v1, v2, fv0, fv1, fv2, hsz⟩, hbel⟩ := HS.out
  have HSZ := Lib.hid hsz
  have HBL := Lib.hid hbel
  clear hsz hbel
  go_simp
  go_wp2_with fail
  refine (refVright_any ⟨k, n, s⟩ HA.out _).mono ?_; rintro e W4 ⟨rfl, hb⟩
  have HS4 := Lib.hid (R3.next HS.out hb)
  clear hb HBL
  clear a0 a1 a2 b0 b1 b2 v0 v1 v2 fv0 fv1 fv2 HSZ
  obtain ⟨⟨a0, a1, a2, b0, b1, b2, v0, v1, v2, fv0, fv1, fv2, hsz⟩, hbel⟩ := HS4.out
  have HSZ := Lib.hid hsz
  have HBL := Lib.hid hbel
  clear hsz hbel
  go_simp
  go_wp2_with fail
  refine (refVright_any ⟨k', n', s'⟩ HB.out _).mono ?_; rintro e W5 ⟨rfl, hb⟩
  have HS5 := Lib.hid (R3.next HS4.out hb)
  clear hb HBL
  clear a0 a1 a2 b0 b1 b2 v0 v1 v2 fv0 fv1 fv2 HSZ
  obtain ⟨⟨a0, a1, a2, b0, b1, b2, v0, v1, v2, fv0, fv1, fv2, hsz⟩, hbel⟩ := HS5.out
  have HSZ := Lib.hid hsz
  have HBL := Lib.hid hbel
  clear hsz hbel
  go_wp2_with fail
  first
    | exact ⟨rfl, done3g (n := w.heap.size) rfl rfl vnil v0 v1 v2 HBL.out⟩
    | exact ⟨rfl, done3 (n := w.heap.size) rfl rfl v0 v1 v2 HBL.out vnil⟩

theorem ref_k_add (op : ByteArray) (a b : V) (ha : a.s.size ≤ maxLen) (hb : b.s.size ≤ maxLen) (t1 : (op.toList == [43]) = true) (t2 : (op.toList == [45]) = false) (t3 : (op.toList == [42]) = false) (ra : vright a = true) (rb : vright b = true) (hk : (a.k != b.k) = true) (w : World) :
    Calls Try.prog 11 #[.string op, ev a, ev b] w fun e w' => e = .returned (.tuple #[ev vnil, .int .i64 6]) ∧ Below w.heap.size w w' := by
  have HA := Lib.hid ha
  have HB := Lib.hid hb
  clear ha hb
  have hs := start3_is w a b
  unfold start3 at hs
  obtain ⟨k, n, s⟩ := a
  obtain ⟨k', n', s'⟩ := b
  unfold ev
  simp only at hs HA HB ra rb hk ⊢
  have HS := Lib.hid hs
  clear hs
  go_enter Try.func11, Try.ntmps11
  go_wp2_with fail
  revert HS
  generalize ((w.alloc (.cells #[.int .i64 k, .int .i64 n, .string s] 23)).alloc (.cells #[.int .i64 k', .int .i64 n', .string s'] 23)).alloc
    (.cells #[.int .i64 0, .int .i64 0, .string ⟨#[]⟩] 23) = W
  intro HS
  obtain ⟨⟨a0, a1, a2, b0, b1, b2, v0, v1, v2, fv0, fv1, fv2, hsz⟩, hbel⟩ := HS.out
  have HSZ := Lib.hid hsz
  have HBL := Lib.hid hbel
  clear hsz hbel
  go_simp
  go_wp2_with fail
  refine (refVright_any ⟨k, n, s⟩ HA.out _).mono ?_; rintro e W4 ⟨rfl, hb⟩
  have HS4 := Lib.hid (R3.next HS.out hb)
  clear hb HBL
  clear a0 a1 a2 b0 b1 b2 v0 v1 v2 fv0 fv1 fv2 HSZ
  obtain ⟨⟨a0, a1, a2, b0, b1, b2, v0, v1, v2, fv0, fv1, fv2, hsz⟩, hbel⟩ := HS4.out
  have HSZ := Lib.hid hsz
  have HBL := Lib.hid hbel
  clear hsz hbel
  go_simp
  go_wp2_with fail
  refine (refVright_any ⟨k', n', s'⟩ HB.out _).mono ?_; rintro e W5 ⟨rfl, hb⟩
  have HS5 := Lib.hid (R3.next HS4.out hb)
  clear hb HBL
  clear a0 a1 a2 b0 b1 b2 v0 v1 v2 fv0 fv1 fv2 HSZ
  obtain ⟨⟨a0, a1, a2, b0, b1, b2, v0, v1, v2, fv0, fv1, fv2, hsz⟩, hbel⟩ := HS5.out
  have HSZ := Lib.hid hsz
  have HBL := Lib.hid hbel
  clear hsz hbel
  go_wp2_with fail
  first
    | exact ⟨rfl, done3g (n := w.heap.size) rfl rfl vnil v0 v1 v2 HBL.out⟩
    | exact ⟨rfl, done3 (n := w.heap.size) rfl rfl v0 v1 v2 HBL.out vnil⟩

theorem ref_s_add (op : ByteArray) (a b : V) (ha : a.s.size ≤ maxLen) (hb : b.s.size ≤ maxLen) (t1 : (op.toList == [43]) = true) (t2 : (op.toList == [45]) = false) (t3 : (op.toList == [42]) = false) (ra : vright a = true) (rb : vright b = true) (hk : (a.k != b.k) = false) (hk3 : (a.k == 3) = true) (w : World) :
    Calls Try.prog 11 #[.string op, ev a, ev b] w fun e w' => e = .returned (.tuple #[ev vnil, .int .i64 6]) ∧ Below w.heap.size w w' := by
  have HA := Lib.hid ha
  have HB := Lib.hid hb
  clear ha hb
  have hs := start3_is w a b
  unfold start3 at hs
  obtain ⟨k, n, s⟩ := a
  obtain ⟨k', n', s'⟩ := b
  unfold ev
  simp only at hs HA HB ra rb hk hk3 ⊢
  have HS := Lib.hid hs
  clear hs
  go_enter Try.func11, Try.ntmps11
  go_wp2_with fail
  revert HS
  generalize ((w.alloc (.cells #[.int .i64 k, .int .i64 n, .string s] 23)).alloc (.cells #[.int .i64 k', .int .i64 n', .string s'] 23)).alloc
    (.cells #[.int .i64 0, .int .i64 0, .string ⟨#[]⟩] 23) = W
  intro HS
  obtain ⟨⟨a0, a1, a2, b0, b1, b2, v0, v1, v2, fv0, fv1, fv2, hsz⟩, hbel⟩ := HS.out
  have HSZ := Lib.hid hsz
  have HBL := Lib.hid hbel
  clear hsz hbel
  go_simp
  go_wp2_with fail
  refine (refVright_any ⟨k, n, s⟩ HA.out _).mono ?_; rintro e W4 ⟨rfl, hb⟩
  have HS4 := Lib.hid (R3.next HS.out hb)
  clear hb HBL
  clear a0 a1 a2 b0 b1 b2 v0 v1 v2 fv0 fv1 fv2 HSZ
  obtain ⟨⟨a0, a1, a2, b0, b1, b2, v0, v1, v2, fv0, fv1, fv2, hsz⟩, hbel⟩ := HS4.out
  have HSZ := Lib.hid hsz
  have HBL := Lib.hid hbel
  clear hsz hbel
  go_simp
  go_wp2_with fail
  refine (refVright_any ⟨k', n', s'⟩ HB.out _).mono ?_; rintro e W5 ⟨rfl, hb⟩
  have HS5 := Lib.hid (R3.next HS4.out hb)
  clear hb HBL
  clear a0 a1 a2 b0 b1 b2 v0 v1 v2 fv0 fv1 fv2 HSZ
  obtain ⟨⟨a0, a1, a2, b0, b1, b2, v0, v1, v2, fv0, fv1, fv2, hsz⟩, hbel⟩ := HS5.out
  have HSZ := Lib.hid hsz
  have HBL := Lib.hid hbel
  clear hsz hbel
  go_wp2_with fail
  first
    | exact ⟨rfl, done3g (n := w.heap.size) rfl rfl vnil v0 v1 v2 HBL.out⟩
    | exact ⟨rfl, done3 (n := w.heap.size) rfl rfl v0 v1 v2 HBL.out vnil⟩

theorem ref_a_sub (op : ByteArray) (a b : V) (ha : a.s.size ≤ maxLen) (hb : b.s.size ≤ maxLen) (t1 : (op.toList == [43]) = false) (t2 : (op.toList == [45]) = true) (t3 : (op.toList == [42]) = false) (ra : vright a = false) (w : World) :
    Calls Try.prog 11 #[.string op, ev a, ev b] w fun e w' => e = .returned (.tuple #[ev vnil, .int .i64 1]) ∧ Below w.heap.size w w' := by
  have HA := Lib.hid ha
  have HB := Lib.hid hb
  clear ha hb
  have hs := start3_is w a b
  unfold start3 at hs
  obtain ⟨k, n, s⟩ := a
  obtain ⟨k', n', s'⟩ := b
  unfold ev
  simp only at hs HA HB ra ⊢
  have HS := Lib.hid hs
  clear hs
  go_enter Try.func11, Try.ntmps11
  go_wp2_with fail
  revert HS
  generalize ((w.alloc (.cells #[.int .i64 k, .int .i64 n, .string s] 23)).alloc (.cells #[.int .i64 k', .int .i64 n', .string s'] 23)).alloc
    (.cells #[.int .i64 0, .int .i64 0, .string ⟨#[]⟩] 23) = W
  intro HS
  obtain ⟨⟨a0, a1, a2, b0, b1, b2, v0, v1, v2, fv0, fv1, fv2, hsz⟩, hbel⟩ := HS.out
  have HSZ := Lib.hid hsz
  have HBL := Lib.hid hbel
  clear hsz hbel
  go_simp
  go_wp2_with fail
  refine (refVright_any ⟨k, n, s⟩ HA.out _).mono ?_; rintro e W4 ⟨rfl, hb⟩
  have HS4 := Lib.hid (R3.next HS.out hb)
  clear hb HBL
  clear a0 a1 a2 b0 b1 b2 v0 v1 v2 fv0 fv1 fv2 HSZ
  obtain ⟨⟨a0, a1, a2, b0, b1, b2, v0, v1, v2, fv0, fv1, fv2, hsz⟩, hbel⟩ := HS4.out
  have HSZ := Lib.hid hsz
  have HBL := Lib.hid hbel
  clear hsz hbel
  go_wp2_with fail
  first
    | exact ⟨rfl, done3g (n := w.heap.size) rfl rfl vnil v0 v1 v2 HBL.out⟩
    | exact ⟨rfl, done3 (n := w.heap.size) rfl rfl v0 v1 v2 HBL.out vnil⟩

theorem ref_b_sub (op : ByteArray) (a b : V) (ha : a.s.size ≤ maxLen) (hb : b.s.size ≤ maxLen) (t1 : (op.toList == [43]) = false) (t2 : (op.toList == [45]) = true) (t3 : (op.toList == [42]) = false) (ra : vright a = true) (rb : vright b = false) (w : World) :
    Calls Try.prog 11 #[.string op, ev a, ev b] w fun e w' => e = .returned (.tuple #[ev vnil, .int .i64 1]) ∧ Below w.heap.size w w' := by
  have HA := Lib.hid ha
  have HB := Lib.hid hb
  clear ha hb
  have hs := start3_is w a b
  unfold start3 at hs
  obtain ⟨k, n, s⟩ := a
  obtain ⟨k', n', s'⟩ := b
  unfold ev
  simp only at hs HA HB ra rb ⊢
  have HS := Lib.hid hs
  clear hs
  go_enter Try.func11, Try.ntmps11
  go_wp2_with fail
  revert HS
  generalize ((w.alloc (.cells #[.int .i64 k, .int .i64 n, .string s] 23)).alloc (.cells #[.int .i64 k', .int .i64 n', .string s'] 23)).alloc
    (.cells #[.int .i64 0, .int .i64 0, .string ⟨#[]⟩] 23) = W
  intro HS
  obtain ⟨⟨a0, a1, a2, b0, b1, b2, v0, v1, v2, fv0, fv1, fv2, hsz⟩, hbel⟩ := HS.out
  have HSZ := Lib.hid hsz
  have HBL := Lib.hid hbel
  clear hsz hbel
  go_simp
  go_wp2_with fail
  refine (refVright_any ⟨k, n, s⟩ HA.out _).mono ?_; rintro e W4 ⟨rfl, hb⟩
  have HS4 := Lib.hid (R3.next HS.out hb)
  clear hb HBL
  clear a0 a1 a2 b0 b1 b2 v0 v1 v2 fv0 fv1 fv2 HSZ
  obtain ⟨⟨a0, a1, a2, b0, b1, b2, v0, v1, v2, fv0, fv1, fv2, hsz⟩, hbel⟩ := HS4.out
  have HSZ := Lib.hid hsz
  have HBL := Lib.hid hbel
  clear hsz hbel
  go_simp
  go_wp2_with fail
  refine (refVright_any ⟨k', n', s'⟩ HB.out _).mono ?_; rintro e W5 ⟨rfl, hb⟩
  have HS5 := Lib.hid (R3.next HS4.out hb)
  clear hb HBL
  clear a0 a1 a2 b0 b1 b2 v0 v1 v2 fv0 fv1 fv2 HSZ
  obtain ⟨⟨a0, a1, a2, b0, b1, b2, v0, v1, v2, fv0, fv1, fv2, hsz⟩, hbel⟩ := HS5.out
  have HSZ := Lib.hid hsz
  have HBL := Lib.hid hbel
  clear hsz hbel
  go_wp2_with fail
  first
    | exact ⟨rfl, done3g (n := w.heap.size) rfl rfl vnil v0 v1 v2 HBL.out⟩
    | exact ⟨rfl, done3 (n := w.heap.size) rfl rfl v0 v1 v2 HBL.out vnil⟩

theorem ref_k_sub (op : ByteArray) (a b : V) (ha : a.s.size ≤ maxLen) (hb : b.s.size ≤ maxLen) (t1 : (op.toList == [43]) = false) (t2 : (op.toList == [45]) = true) (t3 : (op.toList == [42]) = false) (ra : vright a = true) (rb : vright b = true) (hk : (a.k != b.k) = true) (w : World) :
    Calls Try.prog 11 #[.string op, ev a, ev b] w fun e w' => e = .returned (.tuple #[ev vnil, .int .i64 6]) ∧ Below w.heap.size w w' := by
  have HA := Lib.hid ha
  have HB := Lib.hid hb
  clear ha hb
  have hs := start3_is w a b
  unfold start3 at hs
  obtain ⟨k, n, s⟩ := a
  obtain ⟨k', n', s'⟩ := b
  unfold ev
  simp only at hs HA HB ra rb hk ⊢
  have HS := Lib.hid hs
  clear hs
  go_enter Try.func11, Try.ntmps11
  go_wp2_with fail
  revert HS
  generalize ((w.alloc (.cells #[.int .i64 k, .int .i64 n, .string s] 23)).alloc (.cells #[.int .i64 k', .int .i64 n', .string s'] 23)).alloc
    (.cells #[.int .i64 0, .int .i64 0, .string ⟨#[]⟩] 23) = W
  intro HS
  obtain ⟨⟨a0, a1, a2, b0, b1, b2, v0, v1, v2, fv0, fv1, fv2, hsz⟩, hbel⟩ := HS.out
  have HSZ := Lib.hid hsz
  have HBL := Lib.hid hbel
  clear hsz hbel
  go_simp
  go_wp2_with fail
  refine (refVright_any ⟨k, n, s⟩ HA.out _).mono ?_; rintro e W4 ⟨rfl, hb⟩
  have HS4 := Lib.hid (R3.next HS.out hb)
  clear hb HBL
  clear a0 a1 a2 b0 b1 b2 v0 v1 v2 fv0 fv1 fv2 HSZ
  obtain ⟨⟨a0, a1, a2, b0, b1, b2, v0, v1, v2, fv0, fv1, fv2, hsz⟩, hbel⟩ := HS4.out
  have HSZ := Lib.hid hsz
  have HBL := Lib.hid hbel
  clear hsz hbel
  go_simp
  go_wp2_with fail
  refine (refVright_any ⟨k', n', s'⟩ HB.out _).mono ?_; rintro e W5 ⟨rfl, hb⟩
  have HS5 := Lib.hid (R3.next HS4.out hb)
  clear hb HBL
  clear a0 a1 a2 b0 b1 b2 v0 v1 v2 fv0 fv1 fv2 HSZ
  obtain ⟨⟨a0, a1, a2, b0, b1, b2, v0, v1, v2, fv0, fv1, fv2, hsz⟩, hbel⟩ := HS5.out
  have HSZ := Lib.hid hsz
  have HBL := Lib.hid hbel
  clear hsz hbel
  go_wp2_with fail
  first
    | exact ⟨rfl, done3g (n := w.heap.size) rfl rfl vnil v0 v1 v2 HBL.out⟩
    | exact ⟨rfl, done3 (n := w.heap.size) rfl rfl v0 v1 v2 HBL.out vnil⟩

theorem ref_s_sub (op : ByteArray) (a b : V) (ha : a.s.size ≤ maxLen) (hb : b.s.size ≤ maxLen) (t1 : (op.toList == [43]) = false) (t2 : (op.toList == [45]) = true) (t3 : (op.toList == [42]) = false) (ra : vright a = true) (rb : vright b = true) (hk : (a.k != b.k) = false) (hk3 : (a.k == 3) = true) (w : World) :
    Calls Try.prog 11 #[.string op, ev a, ev b] w fun e w' => e = .returned (.tuple #[ev vnil, .int .i64 6]) ∧ Below w.heap.size w w' := by
  have HA := Lib.hid ha
  have HB := Lib.hid hb
  clear ha hb
  have hs := start3_is w a b
  unfold start3 at hs
  obtain ⟨k, n, s⟩ := a
  obtain ⟨k', n', s'⟩ := b
  unfold ev
  simp only at hs HA HB ra rb hk hk3 ⊢
  have HS := Lib.hid hs
  clear hs
  go_enter Try.func11, Try.ntmps11
  go_wp2_with fail
  revert HS
  generalize ((w.alloc (.cells #[.int .i64 k, .int .i64 n, .string s] 23)).alloc (.cells #[.int .i64 k', .int .i64 n', .string s'] 23)).alloc
    (.cells #[.int .i64 0, .int .i64 0, .string ⟨#[]⟩] 23) = W
  intro HS
  obtain ⟨⟨a0, a1, a2, b0, b1, b2, v0, v1, v2, fv0, fv1, fv2, hsz⟩, hbel⟩ := HS.out
  have HSZ := Lib.hid hsz
  have HBL := Lib.hid hbel
  clear hsz hbel
  go_simp
  go_wp2_with fail
  refine (refVright_any ⟨k, n, s⟩ HA.out _).mono ?_; rintro e W4 ⟨rfl, hb⟩
  have HS4 := Lib.hid (R3.next HS.out hb)
  clear hb HBL
  clear a0 a1 a2 b0 b1 b2 v0 v1 v2 fv0 fv1 fv2 HSZ
  obtain ⟨⟨a0, a1, a2, b0, b1, b2, v0, v1, v2, fv0, fv1, fv2, hsz⟩, hbel⟩ := HS4.out
  have HSZ := Lib.hid hsz
  have HBL := Lib.hid hbel
  clear hsz hbel
  go_simp
  go_wp2_with fail
  refine (refVright_any ⟨k', n', s'⟩ HB.out _).mono ?_; rintro e W5 ⟨rfl, hb⟩
  have HS5 := Lib.hid (R3.next HS4.out hb)
  clear hb HBL
  clear a0 a1 a2 b0 b1 b2 v0 v1 v2 fv0 fv1 fv2 HSZ
  obtain ⟨⟨a0, a1, a2, b0, b1, b2, v0, v1, v2, fv0, fv1, fv2, hsz⟩, hbel⟩ := HS5.out
  have HSZ := Lib.hid hsz
  have HBL := Lib.hid hbel
  clear hsz hbel
  go_wp2_with fail
  first
    | exact ⟨rfl, done3g (n := w.heap.size) rfl rfl vnil v0 v1 v2 HBL.out⟩
    | exact ⟨rfl, done3 (n := w.heap.size) rfl rfl v0 v1 v2 HBL.out vnil⟩

theorem ref_a_mul (op : ByteArray) (a b : V) (ha : a.s.size ≤ maxLen) (hb : b.s.size ≤ maxLen) (t1 : (op.toList == [43]) = false) (t2 : (op.toList == [45]) = false) (t3 : (op.toList == [42]) = true) (ra : vright a = false) (w : World) :
    Calls Try.prog 11 #[.string op, ev a, ev b] w fun e w' => e = .returned (.tuple #[ev vnil, .int .i64 1]) ∧ Below w.heap.size w w' := by
  have HA := Lib.hid ha
  have HB := Lib.hid hb
  clear ha hb
  have hs := start3_is w a b
  unfold start3 at hs
  obtain ⟨k, n, s⟩ := a
  obtain ⟨k', n', s'⟩ := b
  unfold ev
  simp only at hs HA HB ra ⊢
  have HS := Lib.hid hs
  clear hs
  go_enter Try.func11, Try.ntmps11
  go_wp2_with fail
  revert HS
  generalize ((w.alloc (.cells #[.int .i64 k, .int .i64 n, .string s] 23)).alloc (.cells #[.int .i64 k', .int .i64 n', .string s'] 23)).alloc
    (.cells #[.int .i64 0, .int .i64 0, .string ⟨#[]⟩] 23) = W
  intro HS
  obtain ⟨⟨a0, a1, a2, b0, b1, b2, v0, v1, v2, fv0, fv1, fv2, hsz⟩, hbel⟩ := HS.out
  have HSZ := Lib.hid hsz
  have HBL := Lib.hid hbel
  clear hsz hbel
  go_simp
  go_wp2_with fail
  refine (refVright_any ⟨k, n, s⟩ HA.out _).mono ?_; rintro e W4 ⟨rfl, hb⟩
  have HS4 := Lib.hid (R3.next HS.out hb)
  clear hb HBL
  clear a0 a1 a2 b0 b1 b2 v0 v1 v2 fv0 fv1 fv2 HSZ
  obtain ⟨⟨a0, a1, a2, b0, b1, b2, v0, v1, v2, fv0, fv1, fv2, hsz⟩, hbel⟩ := HS4.out
  have HSZ := Lib.hid hsz
  have HBL := Lib.hid hbel
  clear hsz hbel
  go_wp2_with fail
  first
    | exact ⟨rfl, done3g (n := w.heap.size) rfl rfl vnil v0 v1 v2 HBL.out⟩
    | exact ⟨rfl, done3 (n := w.heap.size) rfl rfl v0 v1 v2 HBL.out vnil⟩

theorem ref_b_mul (op : ByteArray) (a b : V) (ha : a.s.size ≤ maxLen) (hb : b.s.size ≤ maxLen) (t1 : (op.toList == [43]) = false) (t2 : (op.toList == [45]) = false) (t3 : (op.toList == [42]) = true) (ra : vright a = true) (rb : vright b = false) (w : World) :
    Calls Try.prog 11 #[.string op, ev a, ev b] w fun e w' => e = .returned (.tuple #[ev vnil, .int .i64 1]) ∧ Below w.heap.size w w' := by
  have HA := Lib.hid ha
  have HB := Lib.hid hb
  clear ha hb
  have hs := start3_is w a b
  unfold start3 at hs
  obtain ⟨k, n, s⟩ := a
  obtain ⟨k', n', s'⟩ := b
  unfold ev
  simp only at hs HA HB ra rb ⊢
  have HS := Lib.hid hs
  clear hs
  go_enter Try.func11, Try.ntmps11
  go_wp2_with fail
  revert HS
  generalize ((w.alloc (.cells #[.int .i64 k, .int .i64 n, .string s] 23)).alloc (.cells #[.int .i64 k', .int .i64 n', .string s'] 23)).alloc
    (.cells #[.int .i64 0, .int .i64 0, .string ⟨#[]⟩] 23) = W
  intro HS
  obtain ⟨⟨a0, a1, a2, b0, b1, b2, v0, v1, v2, fv0, fv1, fv2, hsz⟩, hbel⟩ := HS.out
  have HSZ := Lib.hid hsz
  have HBL := Lib.hid hbel
  clear hsz hbel
  go_simp
  go_wp2_with fail
  refine (refVright_any ⟨k, n, s⟩ HA.out _).mono ?_; rintro e W4 ⟨rfl, hb⟩
  have HS4 := Lib.hid (R3.next HS.out hb)
  clear hb HBL
  clear a0 a1 a2 b0 b1 b2 v0 v1 v2 fv0 fv1 fv2 HSZ
  obtain ⟨⟨a0, a1, a2, b0, b1, b2, v0, v1, v2, fv0, fv1, fv2, hsz⟩, hbel⟩ := HS4.out
  have HSZ := Lib.hid hsz
  have HBL := Lib.hid hbel
  clear hsz hbel
  go_simp
  go_wp2_with fail
  refine (refVright_any ⟨k', n', s'⟩ HB.out _).mono ?_; rintro e W5 ⟨rfl, hb⟩
  have HS5 := Lib.hid (R3.next HS4.out hb)
  clear hb HBL
  clear a0 a1 a2 b0 b1 b2 v0 v1 v2 fv0 fv1 fv2 HSZ
  obtain ⟨⟨a0, a1, a2, b0, b1, b2, v0, v1, v2, fv0, fv1, fv2, hsz⟩, hbel⟩ := HS5.out
  have HSZ := Lib.hid hsz
  have HBL := Lib.hid hbel
  clear hsz hbel
  go_wp2_with fail
  first
    | exact ⟨rfl, done3g (n := w.heap.size) rfl rfl vnil v0 v1 v2 HBL.out⟩
    | exact ⟨rfl, done3 (n := w.heap.size) rfl rfl v0 v1 v2 HBL.out vnil⟩

theorem ref_k_mul (op : ByteArray) (a b : V) (ha : a.s.size ≤ maxLen) (hb : b.s.size ≤ maxLen) (t1 : (op.toList == [43]) = false) (t2 : (op.toList == [45]) = false) (t3 : (op.toList == [42]) = true) (ra : vright a = true) (rb : vright b = true) (hk : (a.k != b.k) = true) (w : World) :
    Calls Try.prog 11 #[.string op, ev a, ev b] w fun e w' => e = .returned (.tuple #[ev vnil, .int .i64 6]) ∧ Below w.heap.size w w' := by
  have HA := Lib.hid ha
  have HB := Lib.hid hb
  clear ha hb
  have hs := start3_is w a b
  unfold start3 at hs
  obtain ⟨k, n, s⟩ := a
  obtain ⟨k', n', s'⟩ := b
  unfold ev
  simp only at hs HA HB ra rb hk ⊢
  have HS := Lib.hid hs
  clear hs
  go_enter Try.func11, Try.ntmps11
  go_wp2_with fail
  revert HS
  generalize ((w.alloc (.cells #[.int .i64 k, .int .i64 n, .string s] 23)).alloc (.cells #[.int .i64 k', .int .i64 n', .string s'] 23)).alloc
    (.cells #[.int .i64 0, .int .i64 0, .string ⟨#[]⟩] 23) = W
  intro HS
  obtain ⟨⟨a0, a1, a2, b0, b1, b2, v0, v1, v2, fv0, fv1, fv2, hsz⟩, hbel⟩ := HS.out
  have HSZ := Lib.hid hsz
  have HBL := Lib.hid hbel
  clear hsz hbel
  go_simp
  go_wp2_with fail
  refine (refVright_any ⟨k, n, s⟩ HA.out _).mono ?_; rintro e W4 ⟨rfl, hb⟩
  have HS4 := Lib.hid (R3.next HS.out hb)
  clear hb HBL
  clear a0 a1 a2 b0 b1 b2 v0 v1 v2 fv0 fv1 fv2 HSZ
  obtain ⟨⟨a0, a1, a2, b0, b1, b2, v0, v1, v2, fv0, fv1, fv2, hsz⟩, hbel⟩ := HS4.out
  have HSZ := Lib.hid hsz
  have HBL := Lib.hid hbel
  clear hsz hbel
  go_simp
  go_wp2_with fail
  refine (refVright_any ⟨k', n', s'⟩ HB.out _).mono ?_; rintro e W5 ⟨rfl, hb⟩
  have HS5 := Lib.hid (R3.next HS4.out hb)
  clear hb HBL
  clear a0 a1 a2 b0 b1 b2 v0 v1 v2 fv0 fv1 fv2 HSZ
  obtain ⟨⟨a0, a1, a2, b0, b1, b2, v0, v1, v2, fv0, fv1, fv2, hsz⟩, hbel⟩ := HS5.out
  have HSZ := Lib.hid hsz
  have HBL := Lib.hid hbel
  clear hsz hbel
  go_wp2_with fail
  first
    | exact ⟨rfl, done3g (n := w.heap.size) rfl rfl vnil v0 v1 v2 HBL.out⟩
    | exact ⟨rfl, done3 (n := w.heap.size) rfl rfl v0 v1 v2 HBL.out vnil⟩

theorem ref_s_mul (op : ByteArray) (a b : V) (ha : a.s.size ≤ maxLen) (hb : b.s.size ≤ maxLen) (t1 : (op.toList == [43]) = false) (t2 : (op.toList == [45]) = false) (t3 : (op.toList == [42]) = true) (ra : vright a = true) (rb : vright b = true) (hk : (a.k != b.k) = false) (hk3 : (a.k == 3) = true) (w : World) :
    Calls Try.prog 11 #[.string op, ev a, ev b] w fun e w' => e = .returned (.tuple #[ev vnil, .int .i64 6]) ∧ Below w.heap.size w w' := by
  have HA := Lib.hid ha
  have HB := Lib.hid hb
  clear ha hb
  have hs := start3_is w a b
  unfold start3 at hs
  obtain ⟨k, n, s⟩ := a
  obtain ⟨k', n', s'⟩ := b
  unfold ev
  simp only at hs HA HB ra rb hk hk3 ⊢
  have HS := Lib.hid hs
  clear hs
  go_enter Try.func11, Try.ntmps11
  go_wp2_with fail
  revert HS
  generalize ((w.alloc (.cells #[.int .i64 k, .int .i64 n, .string s] 23)).alloc (.cells #[.int .i64 k', .int .i64 n', .string s'] 23)).alloc
    (.cells #[.int .i64 0, .int .i64 0, .string ⟨#[]⟩] 23) = W
  intro HS
  obtain ⟨⟨a0, a1, a2, b0, b1, b2, v0, v1, v2, fv0, fv1, fv2, hsz⟩, hbel⟩ := HS.out
  have HSZ := Lib.hid hsz
  have HBL := Lib.hid hbel
  clear hsz hbel
  go_simp
  go_wp2_with fail
  refine (refVright_any ⟨k, n, s⟩ HA.out _).mono ?_; rintro e W4 ⟨rfl, hb⟩
  have HS4 := Lib.hid (R3.next HS.out hb)
  clear hb HBL
  clear a0 a1 a2 b0 b1 b2 v0 v1 v2 fv0 fv1 fv2 HSZ
  obtain ⟨⟨a0, a1, a2, b0, b1, b2, v0, v1, v2, fv0, fv1, fv2, hsz⟩, hbel⟩ := HS4.out
  have HSZ := Lib.hid hsz
  have HBL := Lib.hid hbel
  clear hsz hbel
  go_simp
  go_wp2_with fail
  refine (refVright_any ⟨k', n', s'⟩ HB.out _).mono ?_; rintro e W5 ⟨rfl, hb⟩
  have HS5 := Lib.hid (R3.next HS4.out hb)
  clear hb HBL
  clear a0 a1 a2 b0 b1 b2 v0 v1 v2 fv0 fv1 fv2 HSZ
  obtain ⟨⟨a0, a1, a2, b0, b1, b2, v0, v1, v2, fv0, fv1, fv2, hsz⟩, hbel⟩ := HS5.out
  have HSZ := Lib.hid hsz
  have HBL := Lib.hid hbel
  clear hsz hbel
  go_wp2_with fail
  first
    | exact ⟨rfl, done3g (n := w.heap.size) rfl rfl vnil v0 v1 v2 HBL.out⟩
    | exact ⟨rfl, done3 (n := w.heap.size) rfl rfl v0 v1 v2 HBL.out vnil⟩

end Go.Proofs.Ytcoidmkaddnkdaa
