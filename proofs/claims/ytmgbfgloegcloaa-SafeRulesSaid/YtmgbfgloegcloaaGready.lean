/- safe.ready: whether a literal is ready, as the printed texts ask for it. No condition. -/
import Derived.Test.YtmgbfgloegcloaaGidx
import Derived.Test.YtmgbfgloegcloaaGlib
import Derived.Outline
import Derived.Laws.EntriesVeiled
namespace Go.Proofs.Ytmgbfgloegcloaa.Ps
open Go.RowKit Go.Proofs.YtmgbfgloegcloaaW.PrintWords Go.Proofs.YtmgbfgloegcloaaW.PrintLast
set_option linter.unusedVariables false
theorem drawn_below {w w' : World} (h : yO w w') : Below w.heap.size w w' := h.below
set_option maxRecDepth 100000 in
theorem qh (x : S40) (l1 : List ByteArray) (A1 : Option Addr) (c1 B : Nat) (w : World) (hc : w.cell? ⟨B, 0, none⟩ = some (.slice A1 l1.length c1)) (hr : Kd.C Kd.string w A1 l1.length l1) (hc1 : l1.length ≤ c1) :
    Calls Try.prog 41 #[termV x, .pointer (some ⟨B, 0, none⟩)] w fun e w' => e = .returned (.bool (isB x.f0 l1)) ∧ Below w.heap.size w w' := by
  have hB : B < w.heap.size := World.block_lt_of_cell? w ⟨B, 0, none⟩ hc
  unfold termV isB
  have HR := Lib.hid hr
  have HC := Lib.hid hc1
  have hcc : ∀ o, (w.alloc o).cell? ⟨B, 0, none⟩ = some (.slice A1 l1.length c1) := fun o => zg (zd (Below.refl _ _) o) hc
  have HB : Hid (Below w.heap.size w w) := Below.refl _ _
  clear hr hc1
  cases he : (x.f0.toList == ([] : List UInt8)) with
  | true =>
    have he2 : (x.f0.toList != ([] : List UInt8)) = false := by simp only [bne, he]; rfl
    go_enter Try.func41, Try.ntmps41
    go_wp2_with fail
    go_ret
    exact ⟨rfl, (Below.refl _ _).alloc (Nat.le_refl _) _⟩
  | false =>
    have he2 : (x.f0.toList != ([] : List UInt8)) = true := by simp only [bne, he]; rfl
    go_enter Try.func41, Try.ntmps41
    go_wp2_with (go_at_call 35; refine (yz.calls A1 c1 l1 x.f0 _ _ (Kd.zL HR.out ((Below.refl _ _).alloc (Nat.le_refl _) _)) HC.out rfl).mono ?_; rintro e w' ⟨rfl, hd⟩)
    go_ret
    exact ⟨rfl, ((Below.refl _ _).alloc (Nat.le_refl _) _).trans (drawn_below hd |>.mono (by simp))⟩
def Held (W : World) (B : Nat) (a0_0 : Int) (a0_1 : ByteArray) (A0_2 : Option Addr) (c0_2 : Nat) (l0_2 : List (S40)) (a0_3 : ByteArray) (a0_4 : ByteArray) (a0_5 : Int) (a0_6 : Int) (a0_7 : ByteArray) (a0_8 : ByteArray) (a0_9 : Int) (a0_10 : Int) (a0_11 : ByteArray) (a0_12 : ByteArray) (a0_13 : Int) (a0_14 : Int) (a0_15 : ByteArray) (A0_16 : Option Addr) (c0_16 : Nat) (l0_16 : List (S82)) (A1 : Option Addr) (c1 : Nat) (l1 : List ByteArray) : Prop :=
  W.cell? ⟨B, 0, none⟩ = some (.int .i64 a0_0) ∧ W.cell? ⟨B, 1, none⟩ = some (.string a0_1) ∧ W.cell? ⟨B, 2, none⟩ = some (.slice A0_2 l0_2.length c0_2) ∧ W.cell? ⟨B, 3, none⟩ = some (.string a0_3) ∧ W.cell? ⟨B, 4, none⟩ = some (.string a0_4) ∧ W.cell? ⟨B, 5, none⟩ = some (.int .i64 a0_5) ∧ W.cell? ⟨B, 6, none⟩ = some (.int .i64 a0_6) ∧ W.cell? ⟨B, 7, none⟩ = some (.string a0_7) ∧ W.cell? ⟨B, 8, none⟩ = some (.string a0_8) ∧ W.cell? ⟨B, 9, none⟩ = some (.int .i64 a0_9) ∧ W.cell? ⟨B, 10, none⟩ = some (.int .i64 a0_10) ∧ W.cell? ⟨B, 11, none⟩ = some (.string a0_11) ∧ W.cell? ⟨B, 12, none⟩ = some (.string a0_12) ∧ W.cell? ⟨B, 13, none⟩ = some (.int .i64 a0_13) ∧ W.cell? ⟨B, 14, none⟩ = some (.int .i64 a0_14) ∧ W.cell? ⟨B, 15, none⟩ = some (.string a0_15) ∧ W.cell? ⟨B, 16, none⟩ = some (.slice A0_16 l0_16.length c0_16) ∧ W.cell? ⟨B + 1, 0, none⟩ = some (.slice A1 l1.length c1) ∧ W.cell? ⟨B + 2, 0, none⟩ = some (.func (.func 41) #[] #[.pointer (some ⟨B + 1, 0, none⟩)])
theorem Held.below {W W1 : World} {B : Nat} {a0_0 : Int} {a0_1 : ByteArray} {A0_2 : Option Addr} {c0_2 : Nat} {l0_2 : List (S40)} {a0_3 : ByteArray} {a0_4 : ByteArray} {a0_5 : Int} {a0_6 : Int} {a0_7 : ByteArray} {a0_8 : ByteArray} {a0_9 : Int} {a0_10 : Int} {a0_11 : ByteArray} {a0_12 : ByteArray} {a0_13 : Int} {a0_14 : Int} {a0_15 : ByteArray} {A0_16 : Option Addr} {c0_16 : Nat} {l0_16 : List (S82)} {A1 : Option Addr} {c1 : Nat} {l1 : List ByteArray} (h : Held W B a0_0 a0_1 A0_2 c0_2 l0_2 a0_3 a0_4 a0_5 a0_6 a0_7 a0_8 a0_9 a0_10 a0_11 a0_12 a0_13 a0_14 a0_15 A0_16 c0_16 l0_16 A1 c1 l1) (hb : Below W.heap.size W W1) : Held W1 B a0_0 a0_1 A0_2 c0_2 l0_2 a0_3 a0_4 a0_5 a0_6 a0_7 a0_8 a0_9 a0_10 a0_11 a0_12 a0_13 a0_14 a0_15 A0_16 c0_16 l0_16 A1 c1 l1 := by
  obtain ⟨q0, q1, q2, q3, q4, q5, q6, q7, q8, q9, q10, q11, q12, q13, q14, q15, q16, q17, q18⟩ := h
  exact ⟨zg hb q0, zg hb q1, zg hb q2, zg hb q3, zg hb q4, zg hb q5, zg hb q6, zg hb q7, zg hb q8, zg hb q9, zg hb q10, zg hb q11, zg hb q12, zg hb q13, zg hb q14, zg hb q15, zg hb q16, zg hb q17, zg hb q18⟩
theorem Held.bound {W : World} {B : Nat} {a0_0 : Int} {a0_1 : ByteArray} {A0_2 : Option Addr} {c0_2 : Nat} {l0_2 : List (S40)} {a0_3 : ByteArray} {a0_4 : ByteArray} {a0_5 : Int} {a0_6 : Int} {a0_7 : ByteArray} {a0_8 : ByteArray} {a0_9 : Int} {a0_10 : Int} {a0_11 : ByteArray} {a0_12 : ByteArray} {a0_13 : Int} {a0_14 : Int} {a0_15 : ByteArray} {A0_16 : Option Addr} {c0_16 : Nat} {l0_16 : List (S82)} {A1 : Option Addr} {c1 : Nat} {l1 : List ByteArray} (h : Held W B a0_0 a0_1 A0_2 c0_2 l0_2 a0_3 a0_4 a0_5 a0_6 a0_7 a0_8 a0_9 a0_10 a0_11 a0_12 a0_13 a0_14 a0_15 A0_16 c0_16 l0_16 A1 c1 l1) : W.cell? ⟨B + 1, 0, none⟩ = some (.slice A1 l1.length c1) := by
  obtain ⟨q0, q1, q2, q3, q4, q5, q6, q7, q8, q9, q10, q11, q12, q13, q14, q15, q16, q17, q18⟩ := h
  exact q17
theorem Held.clos {W : World} {B : Nat} {a0_0 : Int} {a0_1 : ByteArray} {A0_2 : Option Addr} {c0_2 : Nat} {l0_2 : List (S40)} {a0_3 : ByteArray} {a0_4 : ByteArray} {a0_5 : Int} {a0_6 : Int} {a0_7 : ByteArray} {a0_8 : ByteArray} {a0_9 : Int} {a0_10 : Int} {a0_11 : ByteArray} {a0_12 : ByteArray} {a0_13 : Int} {a0_14 : Int} {a0_15 : ByteArray} {A0_16 : Option Addr} {c0_16 : Nat} {l0_16 : List (S82)} {A1 : Option Addr} {c1 : Nat} {l1 : List ByteArray} (h : Held W B a0_0 a0_1 A0_2 c0_2 l0_2 a0_3 a0_4 a0_5 a0_6 a0_7 a0_8 a0_9 a0_10 a0_11 a0_12 a0_13 a0_14 a0_15 A0_16 c0_16 l0_16 A1 c1 l1) : W.cell? ⟨B + 2, 0, none⟩ = some (.func (.func 41) #[] #[.pointer (some ⟨B + 1, 0, none⟩)]) := by
  obtain ⟨q0, q1, q2, q3, q4, q5, q6, q7, q8, q9, q10, q11, q12, q13, q14, q15, q16, q17, q18⟩ := h
  exact q18
theorem not_is_calls (x : S40) (l1 : List ByteArray) (A1 : Option Addr) (c1 B : Nat) (w : World) (hc : w.cell? ⟨B + 1, 0, none⟩ = some (.slice A1 l1.length c1)) (hf : w.cell? ⟨B + 2, 0, none⟩ = some (.func (.func 41) #[] #[.pointer (some ⟨B + 1, 0, none⟩)])) (hr : Kd.C Kd.string w A1 l1.length l1) (hc1 : l1.length ≤ c1) :
    Calls Try.prog 42 #[termV x, .pointer (some ⟨B + 2, 0, none⟩)] w fun e w' => e = .returned (.bool (!isB x.f0 l1)) ∧ Below w.heap.size w w' := by
  have HR := Lib.hid hr
  have HC := Lib.hid hc1
  have hcc : ∀ o, (w.alloc o).cell? ⟨B + 1, 0, none⟩ = some (.slice A1 l1.length c1) := fun o => zg (zd (Below.refl _ _) o) hc
  have hff : ∀ o, (w.alloc o).cell? ⟨B + 2, 0, none⟩ = some (.func (.func 41) #[] #[.pointer (some ⟨B + 1, 0, none⟩)]) := fun o => zg (zd (Below.refl _ _) o) hf
  clear hr hc1 hc hf
  unfold termV
  go_enter Try.func42, Try.ntmps42
  go_wp2_with (go_at_call 41; refine (qh x l1 A1 c1 (B + 1) _ (hcc _) (Kd.zL HR.out ((Below.refl _ _).alloc (Nat.le_refl _) _)) HC.out).mono ?_; rintro e w' ⟨rfl, hb⟩)
  go_ret
  exact ⟨rfl, ((Below.refl _ _).alloc (Nat.le_refl _) _).trans (hb.mono (by simp))⟩
theorem pred_one {p : S40 → Bool} {g : Nat} {b0 : Value} {w : World} (h : ∀ (W : World) (x : S40), Below w.heap.size w W → Calls Try.prog g #[termV x, b0] W fun e w' => e = .returned (.bool (p x)) ∧ Below W.heap.size W w') :
    ∀ (W : World) (x : S40), Below w.heap.size w W → Calls Try.prog g (#[termV x] ++ #[b0]) W fun e w' => e = .returned (.bool (p x)) ∧ Below w.heap.size w w' := fun W x hW =>
  ((h W x hW).mono fun e w' ⟨h1, h2⟩ => ⟨h1, yg hW hW.size h2⟩ : Calls Try.prog g #[termV x, b0] W fun e w' => e = .returned (.bool (p x)) ∧ Below w.heap.size w w')
theorem yM (a0_0 : Int) (a0_1 : ByteArray) (A0_2 : Option Addr) (c0_2 : Nat) (l0_2 : List (S40)) (a0_3 : ByteArray) (a0_4 : ByteArray) (a0_5 : Int) (a0_6 : Int) (a0_7 : ByteArray) (a0_8 : ByteArray) (a0_9 : Int) (a0_10 : Int) (a0_11 : ByteArray) (a0_12 : ByteArray) (a0_13 : Int) (a0_14 : Int) (a0_15 : ByteArray) (A0_16 : Option Addr) (c0_16 : Nat) (l0_16 : List (S82)) (A1 : Option Addr) (c1 : Nat) (l1 : List ByteArray) (w : World) : Held (((w.alloc (.cells #[.int .i64 a0_0, .string a0_1, .slice A0_2 l0_2.length c0_2, .string a0_3, .string a0_4, .int .i64 a0_5, .int .i64 a0_6, .string a0_7, .string a0_8, .int .i64 a0_9, .int .i64 a0_10, .string a0_11, .string a0_12, .int .i64 a0_13, .int .i64 a0_14, .string a0_15, .slice A0_16 l0_16.length c0_16] 43)).alloc (.cells #[.slice A1 l1.length c1] 23)).alloc (.cells #[.func (.func 41) #[] #[.pointer (some ⟨w.heap.size + 1, 0, none⟩)]] 72)) w.heap.size a0_0 a0_1 A0_2 c0_2 l0_2 a0_3 a0_4 a0_5 a0_6 a0_7 a0_8 a0_9 a0_10 a0_11 a0_12 a0_13 a0_14 a0_15 A0_16 c0_16 l0_16 A1 c1 l1 := by
  unfold Held
  refine ⟨?_, ?_, ?_, ?_, ?_, ?_, ?_, ?_, ?_, ?_, ?_, ?_, ?_, ?_, ?_, ?_, ?_, ?_, ?_⟩ <;> simp [go_sem]
theorem yY {w W : World} (h : Below w.heap.size w W) : Below w.heap.size w W := h
set_option maxHeartbeats 1000000 in
set_option maxRecDepth 100000 in
theorem ready_other (a0_0 : Int) (a0_1 : ByteArray) (A0_2 : Option Addr) (c0_2 : Nat) (l0_2 : List (S40)) (a0_3 : ByteArray) (a0_4 : ByteArray) (a0_5 : Int) (a0_6 : Int) (a0_7 : ByteArray) (a0_8 : ByteArray) (a0_9 : Int) (a0_10 : Int) (a0_11 : ByteArray) (a0_12 : ByteArray) (a0_13 : Int) (a0_14 : Int) (a0_15 : ByteArray) (A0_16 : Option Addr) (c0_16 : Nat) (l0_16 : List (S82)) (A1 : Option Addr) (c1 : Nat) (l1 : List ByteArray) (w : World) (hr0_2 : Kd.C k40 w A0_2 l0_2.length l0_2) (hc0_2 : l0_2.length ≤ c0_2) (hr0_16 : Kd.C k82 w A0_16 l0_16.length l0_16) (hc0_16 : l0_16.length ≤ c0_16) (hr1 : Kd.C Kd.string w A1 l1.length l1) (hc1 : l1.length ≤ c1) (n2 : (a0_0 == 2) = false) (n3 : (a0_0 == 3) = false) (n4 : (a0_0 == 4) = false) :
    Calls Try.prog 28 #[.agg #[.int .i64 a0_0, .string a0_1, .slice A0_2 l0_2.length c0_2, .string a0_3, .string a0_4, .int .i64 a0_5, .int .i64 a0_6, .string a0_7, .string a0_8, .int .i64 a0_9, .int .i64 a0_10, .string a0_11, .string a0_12, .int .i64 a0_13, .int .i64 a0_14, .string a0_15, .slice A0_16 l0_16.length c0_16], .slice A1 l1.length c1] w fun e w' => e = .returned (.bool (readyB a0_0 a0_3 a0_4 a0_8 a0_12 l0_2 l1)) ∧ Below w.heap.size w w' := by
  have HR0 := Lib.hid hr0_2
  have HR1 := Lib.hid hr1
  have HC1 := Lib.hid hc1
  clear hr0_2 hc0_2 hr0_16 hc0_16 hr1 hc1
  have hu43 := Try.underlying43
  have hu40 := Try.underlying40
  have hu23 := Try.underlying23
  have hu72 := Try.underlying72
  go_enter Try.func28, Try.ntmps28
  have HL := Lib.hid (yM a0_0 a0_1 A0_2 c0_2 l0_2 a0_3 a0_4 a0_5 a0_6 a0_7 a0_8 a0_9 a0_10 a0_11 a0_12 a0_13 a0_14 a0_15 A0_16 c0_16 l0_16 A1 c1 l1 w)
  have HB := Lib.hid (show Below w.heap.size w (((w.alloc (.cells #[.int .i64 a0_0, .string a0_1, .slice A0_2 l0_2.length c0_2, .string a0_3, .string a0_4, .int .i64 a0_5, .int .i64 a0_6, .string a0_7, .string a0_8, .int .i64 a0_9, .int .i64 a0_10, .string a0_11, .string a0_12, .int .i64 a0_13, .int .i64 a0_14, .string a0_15, .slice A0_16 l0_16.length c0_16] 43)).alloc (.cells #[.slice A1 l1.length c1] 23)).alloc (.cells #[.func (.func 41) #[] #[.pointer (some ⟨w.heap.size + 1, 0, none⟩)]] 72)) from ((((Below.refl _ _).alloc (Nat.le_refl _) _).alloc (by simp) _).alloc (by simp; omega) _))
  have HZ := Lib.hid HB.out.size
  go_wp2
  go_ret
  refine ⟨?_, HB.out⟩
  have m2 : ¬ a0_0 = 2 := by simpa using n2
  have m3 : ¬ a0_0 = 3 := by simpa using n3
  have m4 : ¬ a0_0 = 4 := by simpa using n4
  unfold readyB
  rw [if_neg m2, if_neg m3, if_neg m4]
  rfl
set_option maxHeartbeats 1000000 in
set_option maxRecDepth 100000 in
theorem ready_2_0 (a0_0 : Int) (a0_1 : ByteArray) (A0_2 : Option Addr) (c0_2 : Nat) (l0_2 : List (S40)) (a0_3 : ByteArray) (a0_4 : ByteArray) (a0_5 : Int) (a0_6 : Int) (a0_7 : ByteArray) (a0_8 : ByteArray) (a0_9 : Int) (a0_10 : Int) (a0_11 : ByteArray) (a0_12 : ByteArray) (a0_13 : Int) (a0_14 : Int) (a0_15 : ByteArray) (A0_16 : Option Addr) (c0_16 : Nat) (l0_16 : List (S82)) (A1 : Option Addr) (c1 : Nat) (l1 : List ByteArray) (w : World) (hr0_2 : Kd.C k40 w A0_2 l0_2.length l0_2) (hc0_2 : l0_2.length ≤ c0_2) (hr0_16 : Kd.C k82 w A0_16 l0_16.length l0_16) (hc0_16 : l0_16.length ≤ c0_16) (hr1 : Kd.C Kd.string w A1 l1.length l1) (hc1 : l1.length ≤ c1) (hk : a0_0 = 2) (fy : (l0_2.any fun t => !isB t.f0 l1) = true) :
    Calls Try.prog 28 #[.agg #[.int .i64 a0_0, .string a0_1, .slice A0_2 l0_2.length c0_2, .string a0_3, .string a0_4, .int .i64 a0_5, .int .i64 a0_6, .string a0_7, .string a0_8, .int .i64 a0_9, .int .i64 a0_10, .string a0_11, .string a0_12, .int .i64 a0_13, .int .i64 a0_14, .string a0_15, .slice A0_16 l0_16.length c0_16], .slice A1 l1.length c1] w fun e w' => e = .returned (.bool (readyB a0_0 a0_3 a0_4 a0_8 a0_12 l0_2 l1)) ∧ Below w.heap.size w w' := by
  subst hk
  have HR0 := Lib.hid hr0_2
  have HR1 := Lib.hid hr1
  have HC1 := Lib.hid hc1
  clear hr0_2 hc0_2 hr0_16 hc0_16 hr1 hc1
  have hu43 := Try.underlying43
  have hu40 := Try.underlying40
  have hu23 := Try.underlying23
  have hu72 := Try.underlying72
  go_enter Try.func28, Try.ntmps28
  have HL := Lib.hid (yM 2  a0_1 A0_2 c0_2 l0_2 a0_3 a0_4 a0_5 a0_6 a0_7 a0_8 a0_9 a0_10 a0_11 a0_12 a0_13 a0_14 a0_15 A0_16 c0_16 l0_16 A1 c1 l1 w)
  have HB := Lib.hid (show Below w.heap.size w (((w.alloc (.cells #[.int .i64 2 , .string a0_1, .slice A0_2 l0_2.length c0_2, .string a0_3, .string a0_4, .int .i64 a0_5, .int .i64 a0_6, .string a0_7, .string a0_8, .int .i64 a0_9, .int .i64 a0_10, .string a0_11, .string a0_12, .int .i64 a0_13, .int .i64 a0_14, .string a0_15, .slice A0_16 l0_16.length c0_16] 43)).alloc (.cells #[.slice A1 l1.length c1] 23)).alloc (.cells #[.func (.func 41) #[] #[.pointer (some ⟨w.heap.size + 1, 0, none⟩)]] 72)) from ((((Below.refl _ _).alloc (Nat.le_refl _) _).alloc (by simp) _).alloc (by simp; omega) _))
  have HZ := Lib.hid HB.out.size
  go_wp2_with (first | (go_at_call 33; refine (qC (fun t => !isB t.f0 l1) 42 #[.pointer (some ⟨w.heap.size + 1 + 1, 0, none⟩)] (enters_of Try.func42 (by kernel_rfl) rfl) A0_2 c0_2 l0_2 _ (Kd.zL HR0.out HB.out) (pred_one fun W2 x hW2 => not_is_calls x l1 A1 c1 w.heap.size W2 (zg hW2 (Held.bound HL.out)) (zg hW2 (Held.clos HL.out)) (Kd.zL HR1.out (yg HB.out HZ.out hW2)) HC1.out)).mono ?_; rintro e w' ⟨rfl, hb⟩; (try clear q0 q1 q2 q3 q4 q5 q6 q7 q8 q9 q10 q11 q12 q13 q14 q15 q16 q17 q18); replace HB := Lib.hid (yg HB.out HZ.out hb); replace HZ := Lib.hid (Nat.le_trans HZ.out hb.size); replace HL := Lib.hid (Held.below HL.out hb); obtain ⟨q0, q1, q2, q3, q4, q5, q6, q7, q8, q9, q10, q11, q12, q13, q14, q15, q16, q17, q18⟩ := HL.out; clear hb) | (go_at_call 41; refine (qh ⟨_, ⟨_, _, _⟩⟩ l1 A1 c1 (w.heap.size + 1) _ (Held.bound HL.out) (Kd.zL HR1.out (yY HB.out)) HC1.out).mono ?_; rintro e w' ⟨rfl, hb⟩; (try clear q0 q1 q2 q3 q4 q5 q6 q7 q8 q9 q10 q11 q12 q13 q14 q15 q16 q17 q18); replace HB := Lib.hid (yg HB.out HZ.out hb); replace HZ := Lib.hid (Nat.le_trans HZ.out hb.size); replace HL := Lib.hid (Held.below HL.out hb); obtain ⟨q0, q1, q2, q3, q4, q5, q6, q7, q8, q9, q10, q11, q12, q13, q14, q15, q16, q17, q18⟩ := HL.out; clear hb))
  go_ret
  refine ⟨?_, HB.out⟩
  unfold readyB
  simp only [fy]
  rfl
set_option maxHeartbeats 1000000 in
set_option maxRecDepth 100000 in
theorem ready_2_1 (a0_0 : Int) (a0_1 : ByteArray) (A0_2 : Option Addr) (c0_2 : Nat) (l0_2 : List (S40)) (a0_3 : ByteArray) (a0_4 : ByteArray) (a0_5 : Int) (a0_6 : Int) (a0_7 : ByteArray) (a0_8 : ByteArray) (a0_9 : Int) (a0_10 : Int) (a0_11 : ByteArray) (a0_12 : ByteArray) (a0_13 : Int) (a0_14 : Int) (a0_15 : ByteArray) (A0_16 : Option Addr) (c0_16 : Nat) (l0_16 : List (S82)) (A1 : Option Addr) (c1 : Nat) (l1 : List ByteArray) (w : World) (hr0_2 : Kd.C k40 w A0_2 l0_2.length l0_2) (hc0_2 : l0_2.length ≤ c0_2) (hr0_16 : Kd.C k82 w A0_16 l0_16.length l0_16) (hc0_16 : l0_16.length ≤ c0_16) (hr1 : Kd.C Kd.string w A1 l1.length l1) (hc1 : l1.length ≤ c1) (hk : a0_0 = 2) (fy : (l0_2.any fun t => !isB t.f0 l1) = false) (fa : isB a0_4 l1 = false) :
    Calls Try.prog 28 #[.agg #[.int .i64 a0_0, .string a0_1, .slice A0_2 l0_2.length c0_2, .string a0_3, .string a0_4, .int .i64 a0_5, .int .i64 a0_6, .string a0_7, .string a0_8, .int .i64 a0_9, .int .i64 a0_10, .string a0_11, .string a0_12, .int .i64 a0_13, .int .i64 a0_14, .string a0_15, .slice A0_16 l0_16.length c0_16], .slice A1 l1.length c1] w fun e w' => e = .returned (.bool (readyB a0_0 a0_3 a0_4 a0_8 a0_12 l0_2 l1)) ∧ Below w.heap.size w w' := by
  subst hk
  have HR0 := Lib.hid hr0_2
  have HR1 := Lib.hid hr1
  have HC1 := Lib.hid hc1
  clear hr0_2 hc0_2 hr0_16 hc0_16 hr1 hc1
  have hu43 := Try.underlying43
  have hu40 := Try.underlying40
  have hu23 := Try.underlying23
  have hu72 := Try.underlying72
  go_enter Try.func28, Try.ntmps28
  have HL := Lib.hid (yM 2  a0_1 A0_2 c0_2 l0_2 a0_3 a0_4 a0_5 a0_6 a0_7 a0_8 a0_9 a0_10 a0_11 a0_12 a0_13 a0_14 a0_15 A0_16 c0_16 l0_16 A1 c1 l1 w)
  have HB := Lib.hid (show Below w.heap.size w (((w.alloc (.cells #[.int .i64 2 , .string a0_1, .slice A0_2 l0_2.length c0_2, .string a0_3, .string a0_4, .int .i64 a0_5, .int .i64 a0_6, .string a0_7, .string a0_8, .int .i64 a0_9, .int .i64 a0_10, .string a0_11, .string a0_12, .int .i64 a0_13, .int .i64 a0_14, .string a0_15, .slice A0_16 l0_16.length c0_16] 43)).alloc (.cells #[.slice A1 l1.length c1] 23)).alloc (.cells #[.func (.func 41) #[] #[.pointer (some ⟨w.heap.size + 1, 0, none⟩)]] 72)) from ((((Below.refl _ _).alloc (Nat.le_refl _) _).alloc (by simp) _).alloc (by simp; omega) _))
  have HZ := Lib.hid HB.out.size
  go_wp2_with (first | (go_at_call 33; refine (qC (fun t => !isB t.f0 l1) 42 #[.pointer (some ⟨w.heap.size + 1 + 1, 0, none⟩)] (enters_of Try.func42 (by kernel_rfl) rfl) A0_2 c0_2 l0_2 _ (Kd.zL HR0.out HB.out) (pred_one fun W2 x hW2 => not_is_calls x l1 A1 c1 w.heap.size W2 (zg hW2 (Held.bound HL.out)) (zg hW2 (Held.clos HL.out)) (Kd.zL HR1.out (yg HB.out HZ.out hW2)) HC1.out)).mono ?_; rintro e w' ⟨rfl, hb⟩; (try clear q0 q1 q2 q3 q4 q5 q6 q7 q8 q9 q10 q11 q12 q13 q14 q15 q16 q17 q18); replace HB := Lib.hid (yg HB.out HZ.out hb); replace HZ := Lib.hid (Nat.le_trans HZ.out hb.size); replace HL := Lib.hid (Held.below HL.out hb); obtain ⟨q0, q1, q2, q3, q4, q5, q6, q7, q8, q9, q10, q11, q12, q13, q14, q15, q16, q17, q18⟩ := HL.out; clear hb) | (go_at_call 41; refine (qh ⟨_, ⟨_, _, _⟩⟩ l1 A1 c1 (w.heap.size + 1) _ (Held.bound HL.out) (Kd.zL HR1.out (yY HB.out)) HC1.out).mono ?_; rintro e w' ⟨rfl, hb⟩; (try clear q0 q1 q2 q3 q4 q5 q6 q7 q8 q9 q10 q11 q12 q13 q14 q15 q16 q17 q18); replace HB := Lib.hid (yg HB.out HZ.out hb); replace HZ := Lib.hid (Nat.le_trans HZ.out hb.size); replace HL := Lib.hid (Held.below HL.out hb); obtain ⟨q0, q1, q2, q3, q4, q5, q6, q7, q8, q9, q10, q11, q12, q13, q14, q15, q16, q17, q18⟩ := HL.out; clear hb))
  go_ret
  refine ⟨?_, HB.out⟩
  unfold readyB
  simp only [fy, fa]
  rfl
set_option maxHeartbeats 1000000 in
set_option maxRecDepth 100000 in
theorem ready_2_2 (a0_0 : Int) (a0_1 : ByteArray) (A0_2 : Option Addr) (c0_2 : Nat) (l0_2 : List (S40)) (a0_3 : ByteArray) (a0_4 : ByteArray) (a0_5 : Int) (a0_6 : Int) (a0_7 : ByteArray) (a0_8 : ByteArray) (a0_9 : Int) (a0_10 : Int) (a0_11 : ByteArray) (a0_12 : ByteArray) (a0_13 : Int) (a0_14 : Int) (a0_15 : ByteArray) (A0_16 : Option Addr) (c0_16 : Nat) (l0_16 : List (S82)) (A1 : Option Addr) (c1 : Nat) (l1 : List ByteArray) (w : World) (hr0_2 : Kd.C k40 w A0_2 l0_2.length l0_2) (hc0_2 : l0_2.length ≤ c0_2) (hr0_16 : Kd.C k82 w A0_16 l0_16.length l0_16) (hc0_16 : l0_16.length ≤ c0_16) (hr1 : Kd.C Kd.string w A1 l1.length l1) (hc1 : l1.length ≤ c1) (hk : a0_0 = 2) (fy : (l0_2.any fun t => !isB t.f0 l1) = false) (fa : isB a0_4 l1 = true) (fb : isB a0_8 l1 = false) :
    Calls Try.prog 28 #[.agg #[.int .i64 a0_0, .string a0_1, .slice A0_2 l0_2.length c0_2, .string a0_3, .string a0_4, .int .i64 a0_5, .int .i64 a0_6, .string a0_7, .string a0_8, .int .i64 a0_9, .int .i64 a0_10, .string a0_11, .string a0_12, .int .i64 a0_13, .int .i64 a0_14, .string a0_15, .slice A0_16 l0_16.length c0_16], .slice A1 l1.length c1] w fun e w' => e = .returned (.bool (readyB a0_0 a0_3 a0_4 a0_8 a0_12 l0_2 l1)) ∧ Below w.heap.size w w' := by
  subst hk
  have HR0 := Lib.hid hr0_2
  have HR1 := Lib.hid hr1
  have HC1 := Lib.hid hc1
  clear hr0_2 hc0_2 hr0_16 hc0_16 hr1 hc1
  have hu43 := Try.underlying43
  have hu40 := Try.underlying40
  have hu23 := Try.underlying23
  have hu72 := Try.underlying72
  go_enter Try.func28, Try.ntmps28
  have HL := Lib.hid (yM 2  a0_1 A0_2 c0_2 l0_2 a0_3 a0_4 a0_5 a0_6 a0_7 a0_8 a0_9 a0_10 a0_11 a0_12 a0_13 a0_14 a0_15 A0_16 c0_16 l0_16 A1 c1 l1 w)
  have HB := Lib.hid (show Below w.heap.size w (((w.alloc (.cells #[.int .i64 2 , .string a0_1, .slice A0_2 l0_2.length c0_2, .string a0_3, .string a0_4, .int .i64 a0_5, .int .i64 a0_6, .string a0_7, .string a0_8, .int .i64 a0_9, .int .i64 a0_10, .string a0_11, .string a0_12, .int .i64 a0_13, .int .i64 a0_14, .string a0_15, .slice A0_16 l0_16.length c0_16] 43)).alloc (.cells #[.slice A1 l1.length c1] 23)).alloc (.cells #[.func (.func 41) #[] #[.pointer (some ⟨w.heap.size + 1, 0, none⟩)]] 72)) from ((((Below.refl _ _).alloc (Nat.le_refl _) _).alloc (by simp) _).alloc (by simp; omega) _))
  have HZ := Lib.hid HB.out.size
  go_wp2_with (first | (go_at_call 33; refine (qC (fun t => !isB t.f0 l1) 42 #[.pointer (some ⟨w.heap.size + 1 + 1, 0, none⟩)] (enters_of Try.func42 (by kernel_rfl) rfl) A0_2 c0_2 l0_2 _ (Kd.zL HR0.out HB.out) (pred_one fun W2 x hW2 => not_is_calls x l1 A1 c1 w.heap.size W2 (zg hW2 (Held.bound HL.out)) (zg hW2 (Held.clos HL.out)) (Kd.zL HR1.out (yg HB.out HZ.out hW2)) HC1.out)).mono ?_; rintro e w' ⟨rfl, hb⟩; (try clear q0 q1 q2 q3 q4 q5 q6 q7 q8 q9 q10 q11 q12 q13 q14 q15 q16 q17 q18); replace HB := Lib.hid (yg HB.out HZ.out hb); replace HZ := Lib.hid (Nat.le_trans HZ.out hb.size); replace HL := Lib.hid (Held.below HL.out hb); obtain ⟨q0, q1, q2, q3, q4, q5, q6, q7, q8, q9, q10, q11, q12, q13, q14, q15, q16, q17, q18⟩ := HL.out; clear hb) | (go_at_call 41; refine (qh ⟨_, ⟨_, _, _⟩⟩ l1 A1 c1 (w.heap.size + 1) _ (Held.bound HL.out) (Kd.zL HR1.out (yY HB.out)) HC1.out).mono ?_; rintro e w' ⟨rfl, hb⟩; (try clear q0 q1 q2 q3 q4 q5 q6 q7 q8 q9 q10 q11 q12 q13 q14 q15 q16 q17 q18); replace HB := Lib.hid (yg HB.out HZ.out hb); replace HZ := Lib.hid (Nat.le_trans HZ.out hb.size); replace HL := Lib.hid (Held.below HL.out hb); obtain ⟨q0, q1, q2, q3, q4, q5, q6, q7, q8, q9, q10, q11, q12, q13, q14, q15, q16, q17, q18⟩ := HL.out; clear hb))
  go_ret
  refine ⟨?_, HB.out⟩
  unfold readyB
  simp only [fy, fa, fb]
  rfl
set_option maxHeartbeats 1000000 in
set_option maxRecDepth 100000 in
theorem ready_2_3 (a0_0 : Int) (a0_1 : ByteArray) (A0_2 : Option Addr) (c0_2 : Nat) (l0_2 : List (S40)) (a0_3 : ByteArray) (a0_4 : ByteArray) (a0_5 : Int) (a0_6 : Int) (a0_7 : ByteArray) (a0_8 : ByteArray) (a0_9 : Int) (a0_10 : Int) (a0_11 : ByteArray) (a0_12 : ByteArray) (a0_13 : Int) (a0_14 : Int) (a0_15 : ByteArray) (A0_16 : Option Addr) (c0_16 : Nat) (l0_16 : List (S82)) (A1 : Option Addr) (c1 : Nat) (l1 : List ByteArray) (w : World) (hr0_2 : Kd.C k40 w A0_2 l0_2.length l0_2) (hc0_2 : l0_2.length ≤ c0_2) (hr0_16 : Kd.C k82 w A0_16 l0_16.length l0_16) (hc0_16 : l0_16.length ≤ c0_16) (hr1 : Kd.C Kd.string w A1 l1.length l1) (hc1 : l1.length ≤ c1) (hk : a0_0 = 2) (fy : (l0_2.any fun t => !isB t.f0 l1) = false) (fa : isB a0_4 l1 = true) (fb : isB a0_8 l1 = true) (fc : isB a0_12 l1 = false) :
    Calls Try.prog 28 #[.agg #[.int .i64 a0_0, .string a0_1, .slice A0_2 l0_2.length c0_2, .string a0_3, .string a0_4, .int .i64 a0_5, .int .i64 a0_6, .string a0_7, .string a0_8, .int .i64 a0_9, .int .i64 a0_10, .string a0_11, .string a0_12, .int .i64 a0_13, .int .i64 a0_14, .string a0_15, .slice A0_16 l0_16.length c0_16], .slice A1 l1.length c1] w fun e w' => e = .returned (.bool (readyB a0_0 a0_3 a0_4 a0_8 a0_12 l0_2 l1)) ∧ Below w.heap.size w w' := by
  subst hk
  have HR0 := Lib.hid hr0_2
  have HR1 := Lib.hid hr1
  have HC1 := Lib.hid hc1
  clear hr0_2 hc0_2 hr0_16 hc0_16 hr1 hc1
  have hu43 := Try.underlying43
  have hu40 := Try.underlying40
  have hu23 := Try.underlying23
  have hu72 := Try.underlying72
  go_enter Try.func28, Try.ntmps28
  have HL := Lib.hid (yM 2  a0_1 A0_2 c0_2 l0_2 a0_3 a0_4 a0_5 a0_6 a0_7 a0_8 a0_9 a0_10 a0_11 a0_12 a0_13 a0_14 a0_15 A0_16 c0_16 l0_16 A1 c1 l1 w)
  have HB := Lib.hid (show Below w.heap.size w (((w.alloc (.cells #[.int .i64 2 , .string a0_1, .slice A0_2 l0_2.length c0_2, .string a0_3, .string a0_4, .int .i64 a0_5, .int .i64 a0_6, .string a0_7, .string a0_8, .int .i64 a0_9, .int .i64 a0_10, .string a0_11, .string a0_12, .int .i64 a0_13, .int .i64 a0_14, .string a0_15, .slice A0_16 l0_16.length c0_16] 43)).alloc (.cells #[.slice A1 l1.length c1] 23)).alloc (.cells #[.func (.func 41) #[] #[.pointer (some ⟨w.heap.size + 1, 0, none⟩)]] 72)) from ((((Below.refl _ _).alloc (Nat.le_refl _) _).alloc (by simp) _).alloc (by simp; omega) _))
  have HZ := Lib.hid HB.out.size
  go_wp2_with (first | (go_at_call 33; refine (qC (fun t => !isB t.f0 l1) 42 #[.pointer (some ⟨w.heap.size + 1 + 1, 0, none⟩)] (enters_of Try.func42 (by kernel_rfl) rfl) A0_2 c0_2 l0_2 _ (Kd.zL HR0.out HB.out) (pred_one fun W2 x hW2 => not_is_calls x l1 A1 c1 w.heap.size W2 (zg hW2 (Held.bound HL.out)) (zg hW2 (Held.clos HL.out)) (Kd.zL HR1.out (yg HB.out HZ.out hW2)) HC1.out)).mono ?_; rintro e w' ⟨rfl, hb⟩; (try clear q0 q1 q2 q3 q4 q5 q6 q7 q8 q9 q10 q11 q12 q13 q14 q15 q16 q17 q18); replace HB := Lib.hid (yg HB.out HZ.out hb); replace HZ := Lib.hid (Nat.le_trans HZ.out hb.size); replace HL := Lib.hid (Held.below HL.out hb); obtain ⟨q0, q1, q2, q3, q4, q5, q6, q7, q8, q9, q10, q11, q12, q13, q14, q15, q16, q17, q18⟩ := HL.out; clear hb) | (go_at_call 41; refine (qh ⟨_, ⟨_, _, _⟩⟩ l1 A1 c1 (w.heap.size + 1) _ (Held.bound HL.out) (Kd.zL HR1.out (yY HB.out)) HC1.out).mono ?_; rintro e w' ⟨rfl, hb⟩; (try clear q0 q1 q2 q3 q4 q5 q6 q7 q8 q9 q10 q11 q12 q13 q14 q15 q16 q17 q18); replace HB := Lib.hid (yg HB.out HZ.out hb); replace HZ := Lib.hid (Nat.le_trans HZ.out hb.size); replace HL := Lib.hid (Held.below HL.out hb); obtain ⟨q0, q1, q2, q3, q4, q5, q6, q7, q8, q9, q10, q11, q12, q13, q14, q15, q16, q17, q18⟩ := HL.out; clear hb))
  go_ret
  refine ⟨?_, HB.out⟩
  unfold readyB
  simp only [fy, fa, fb, fc]
  rfl
set_option maxHeartbeats 1000000 in
set_option maxRecDepth 100000 in
theorem ready_2_4 (a0_0 : Int) (a0_1 : ByteArray) (A0_2 : Option Addr) (c0_2 : Nat) (l0_2 : List (S40)) (a0_3 : ByteArray) (a0_4 : ByteArray) (a0_5 : Int) (a0_6 : Int) (a0_7 : ByteArray) (a0_8 : ByteArray) (a0_9 : Int) (a0_10 : Int) (a0_11 : ByteArray) (a0_12 : ByteArray) (a0_13 : Int) (a0_14 : Int) (a0_15 : ByteArray) (A0_16 : Option Addr) (c0_16 : Nat) (l0_16 : List (S82)) (A1 : Option Addr) (c1 : Nat) (l1 : List ByteArray) (w : World) (hr0_2 : Kd.C k40 w A0_2 l0_2.length l0_2) (hc0_2 : l0_2.length ≤ c0_2) (hr0_16 : Kd.C k82 w A0_16 l0_16.length l0_16) (hc0_16 : l0_16.length ≤ c0_16) (hr1 : Kd.C Kd.string w A1 l1.length l1) (hc1 : l1.length ≤ c1) (hk : a0_0 = 2) (fy : (l0_2.any fun t => !isB t.f0 l1) = false) (fa : isB a0_4 l1 = true) (fb : isB a0_8 l1 = true) (fc : isB a0_12 l1 = true) :
    Calls Try.prog 28 #[.agg #[.int .i64 a0_0, .string a0_1, .slice A0_2 l0_2.length c0_2, .string a0_3, .string a0_4, .int .i64 a0_5, .int .i64 a0_6, .string a0_7, .string a0_8, .int .i64 a0_9, .int .i64 a0_10, .string a0_11, .string a0_12, .int .i64 a0_13, .int .i64 a0_14, .string a0_15, .slice A0_16 l0_16.length c0_16], .slice A1 l1.length c1] w fun e w' => e = .returned (.bool (readyB a0_0 a0_3 a0_4 a0_8 a0_12 l0_2 l1)) ∧ Below w.heap.size w w' := by
  subst hk
  have HR0 := Lib.hid hr0_2
  have HR1 := Lib.hid hr1
  have HC1 := Lib.hid hc1
  clear hr0_2 hc0_2 hr0_16 hc0_16 hr1 hc1
  have hu43 := Try.underlying43
  have hu40 := Try.underlying40
  have hu23 := Try.underlying23
  have hu72 := Try.underlying72
  go_enter Try.func28, Try.ntmps28
  have HL := Lib.hid (yM 2  a0_1 A0_2 c0_2 l0_2 a0_3 a0_4 a0_5 a0_6 a0_7 a0_8 a0_9 a0_10 a0_11 a0_12 a0_13 a0_14 a0_15 A0_16 c0_16 l0_16 A1 c1 l1 w)
  have HB := Lib.hid (show Below w.heap.size w (((w.alloc (.cells #[.int .i64 2 , .string a0_1, .slice A0_2 l0_2.length c0_2, .string a0_3, .string a0_4, .int .i64 a0_5, .int .i64 a0_6, .string a0_7, .string a0_8, .int .i64 a0_9, .int .i64 a0_10, .string a0_11, .string a0_12, .int .i64 a0_13, .int .i64 a0_14, .string a0_15, .slice A0_16 l0_16.length c0_16] 43)).alloc (.cells #[.slice A1 l1.length c1] 23)).alloc (.cells #[.func (.func 41) #[] #[.pointer (some ⟨w.heap.size + 1, 0, none⟩)]] 72)) from ((((Below.refl _ _).alloc (Nat.le_refl _) _).alloc (by simp) _).alloc (by simp; omega) _))
  have HZ := Lib.hid HB.out.size
  go_wp2_with (first | (go_at_call 33; refine (qC (fun t => !isB t.f0 l1) 42 #[.pointer (some ⟨w.heap.size + 1 + 1, 0, none⟩)] (enters_of Try.func42 (by kernel_rfl) rfl) A0_2 c0_2 l0_2 _ (Kd.zL HR0.out HB.out) (pred_one fun W2 x hW2 => not_is_calls x l1 A1 c1 w.heap.size W2 (zg hW2 (Held.bound HL.out)) (zg hW2 (Held.clos HL.out)) (Kd.zL HR1.out (yg HB.out HZ.out hW2)) HC1.out)).mono ?_; rintro e w' ⟨rfl, hb⟩; (try clear q0 q1 q2 q3 q4 q5 q6 q7 q8 q9 q10 q11 q12 q13 q14 q15 q16 q17 q18); replace HB := Lib.hid (yg HB.out HZ.out hb); replace HZ := Lib.hid (Nat.le_trans HZ.out hb.size); replace HL := Lib.hid (Held.below HL.out hb); obtain ⟨q0, q1, q2, q3, q4, q5, q6, q7, q8, q9, q10, q11, q12, q13, q14, q15, q16, q17, q18⟩ := HL.out; clear hb) | (go_at_call 41; refine (qh ⟨_, ⟨_, _, _⟩⟩ l1 A1 c1 (w.heap.size + 1) _ (Held.bound HL.out) (Kd.zL HR1.out (yY HB.out)) HC1.out).mono ?_; rintro e w' ⟨rfl, hb⟩; (try clear q0 q1 q2 q3 q4 q5 q6 q7 q8 q9 q10 q11 q12 q13 q14 q15 q16 q17 q18); replace HB := Lib.hid (yg HB.out HZ.out hb); replace HZ := Lib.hid (Nat.le_trans HZ.out hb.size); replace HL := Lib.hid (Held.below HL.out hb); obtain ⟨q0, q1, q2, q3, q4, q5, q6, q7, q8, q9, q10, q11, q12, q13, q14, q15, q16, q17, q18⟩ := HL.out; clear hb))
  go_ret
  refine ⟨?_, HB.out⟩
  unfold readyB
  simp only [fy, fa, fb, fc]
  rfl
set_option maxHeartbeats 1000000 in
set_option maxRecDepth 100000 in
theorem ready_3_0 (a0_0 : Int) (a0_1 : ByteArray) (A0_2 : Option Addr) (c0_2 : Nat) (l0_2 : List (S40)) (a0_3 : ByteArray) (a0_4 : ByteArray) (a0_5 : Int) (a0_6 : Int) (a0_7 : ByteArray) (a0_8 : ByteArray) (a0_9 : Int) (a0_10 : Int) (a0_11 : ByteArray) (a0_12 : ByteArray) (a0_13 : Int) (a0_14 : Int) (a0_15 : ByteArray) (A0_16 : Option Addr) (c0_16 : Nat) (l0_16 : List (S82)) (A1 : Option Addr) (c1 : Nat) (l1 : List ByteArray) (w : World) (hr0_2 : Kd.C k40 w A0_2 l0_2.length l0_2) (hc0_2 : l0_2.length ≤ c0_2) (hr0_16 : Kd.C k82 w A0_16 l0_16.length l0_16) (hc0_16 : l0_16.length ≤ c0_16) (hr1 : Kd.C Kd.string w A1 l1.length l1) (hc1 : l1.length ≤ c1) (hk : a0_0 = 3) (fa : isB a0_4 l1 = true) (fb : isB a0_8 l1 = true) :
    Calls Try.prog 28 #[.agg #[.int .i64 a0_0, .string a0_1, .slice A0_2 l0_2.length c0_2, .string a0_3, .string a0_4, .int .i64 a0_5, .int .i64 a0_6, .string a0_7, .string a0_8, .int .i64 a0_9, .int .i64 a0_10, .string a0_11, .string a0_12, .int .i64 a0_13, .int .i64 a0_14, .string a0_15, .slice A0_16 l0_16.length c0_16], .slice A1 l1.length c1] w fun e w' => e = .returned (.bool (readyB a0_0 a0_3 a0_4 a0_8 a0_12 l0_2 l1)) ∧ Below w.heap.size w w' := by
  subst hk
  have HR0 := Lib.hid hr0_2
  have HR1 := Lib.hid hr1
  have HC1 := Lib.hid hc1
  clear hr0_2 hc0_2 hr0_16 hc0_16 hr1 hc1
  have hu43 := Try.underlying43
  have hu40 := Try.underlying40
  have hu23 := Try.underlying23
  have hu72 := Try.underlying72
  go_enter Try.func28, Try.ntmps28
  have HL := Lib.hid (yM 3 a0_1 A0_2 c0_2 l0_2 a0_3 a0_4 a0_5 a0_6 a0_7 a0_8 a0_9 a0_10 a0_11 a0_12 a0_13 a0_14 a0_15 A0_16 c0_16 l0_16 A1 c1 l1 w)
  have HB := Lib.hid (show Below w.heap.size w (((w.alloc (.cells #[.int .i64 3, .string a0_1, .slice A0_2 l0_2.length c0_2, .string a0_3, .string a0_4, .int .i64 a0_5, .int .i64 a0_6, .string a0_7, .string a0_8, .int .i64 a0_9, .int .i64 a0_10, .string a0_11, .string a0_12, .int .i64 a0_13, .int .i64 a0_14, .string a0_15, .slice A0_16 l0_16.length c0_16] 43)).alloc (.cells #[.slice A1 l1.length c1] 23)).alloc (.cells #[.func (.func 41) #[] #[.pointer (some ⟨w.heap.size + 1, 0, none⟩)]] 72)) from ((((Below.refl _ _).alloc (Nat.le_refl _) _).alloc (by simp) _).alloc (by simp; omega) _))
  have HZ := Lib.hid HB.out.size
  go_wp2_with (go_at_call 41; refine (qh ⟨_, ⟨_, _, _⟩⟩ l1 A1 c1 (w.heap.size + 1) _ (Held.bound HL.out) (Kd.zL HR1.out (yY HB.out)) HC1.out).mono ?_; rintro e w' ⟨rfl, hb⟩; (try clear q0 q1 q2 q3 q4 q5 q6 q7 q8 q9 q10 q11 q12 q13 q14 q15 q16 q17 q18); replace HB := Lib.hid (yg HB.out HZ.out hb); replace HZ := Lib.hid (Nat.le_trans HZ.out hb.size); replace HL := Lib.hid (Held.below HL.out hb); obtain ⟨q0, q1, q2, q3, q4, q5, q6, q7, q8, q9, q10, q11, q12, q13, q14, q15, q16, q17, q18⟩ := HL.out; clear hb)
  go_ret
  refine ⟨?_, HB.out⟩
  unfold readyB
  simp only [fa, fb]
  rfl
set_option maxHeartbeats 1000000 in
set_option maxRecDepth 100000 in
theorem ready_3_1 (a0_0 : Int) (a0_1 : ByteArray) (A0_2 : Option Addr) (c0_2 : Nat) (l0_2 : List (S40)) (a0_3 : ByteArray) (a0_4 : ByteArray) (a0_5 : Int) (a0_6 : Int) (a0_7 : ByteArray) (a0_8 : ByteArray) (a0_9 : Int) (a0_10 : Int) (a0_11 : ByteArray) (a0_12 : ByteArray) (a0_13 : Int) (a0_14 : Int) (a0_15 : ByteArray) (A0_16 : Option Addr) (c0_16 : Nat) (l0_16 : List (S82)) (A1 : Option Addr) (c1 : Nat) (l1 : List ByteArray) (w : World) (hr0_2 : Kd.C k40 w A0_2 l0_2.length l0_2) (hc0_2 : l0_2.length ≤ c0_2) (hr0_16 : Kd.C k82 w A0_16 l0_16.length l0_16) (hc0_16 : l0_16.length ≤ c0_16) (hr1 : Kd.C Kd.string w A1 l1.length l1) (hc1 : l1.length ≤ c1) (hk : a0_0 = 3) (fa : isB a0_4 l1 = true) (fb : isB a0_8 l1 = false) (fe : (a0_3.toList == ([61] : List UInt8)) = true) :
    Calls Try.prog 28 #[.agg #[.int .i64 a0_0, .string a0_1, .slice A0_2 l0_2.length c0_2, .string a0_3, .string a0_4, .int .i64 a0_5, .int .i64 a0_6, .string a0_7, .string a0_8, .int .i64 a0_9, .int .i64 a0_10, .string a0_11, .string a0_12, .int .i64 a0_13, .int .i64 a0_14, .string a0_15, .slice A0_16 l0_16.length c0_16], .slice A1 l1.length c1] w fun e w' => e = .returned (.bool (readyB a0_0 a0_3 a0_4 a0_8 a0_12 l0_2 l1)) ∧ Below w.heap.size w w' := by
  subst hk
  have HR0 := Lib.hid hr0_2
  have HR1 := Lib.hid hr1
  have HC1 := Lib.hid hc1
  clear hr0_2 hc0_2 hr0_16 hc0_16 hr1 hc1
  have hu43 := Try.underlying43
  have hu40 := Try.underlying40
  have hu23 := Try.underlying23
  have hu72 := Try.underlying72
  go_enter Try.func28, Try.ntmps28
  have HL := Lib.hid (yM 3 a0_1 A0_2 c0_2 l0_2 a0_3 a0_4 a0_5 a0_6 a0_7 a0_8 a0_9 a0_10 a0_11 a0_12 a0_13 a0_14 a0_15 A0_16 c0_16 l0_16 A1 c1 l1 w)
  have HB := Lib.hid (show Below w.heap.size w (((w.alloc (.cells #[.int .i64 3, .string a0_1, .slice A0_2 l0_2.length c0_2, .string a0_3, .string a0_4, .int .i64 a0_5, .int .i64 a0_6, .string a0_7, .string a0_8, .int .i64 a0_9, .int .i64 a0_10, .string a0_11, .string a0_12, .int .i64 a0_13, .int .i64 a0_14, .string a0_15, .slice A0_16 l0_16.length c0_16] 43)).alloc (.cells #[.slice A1 l1.length c1] 23)).alloc (.cells #[.func (.func 41) #[] #[.pointer (some ⟨w.heap.size + 1, 0, none⟩)]] 72)) from ((((Below.refl _ _).alloc (Nat.le_refl _) _).alloc (by simp) _).alloc (by simp; omega) _))
  have HZ := Lib.hid HB.out.size
  go_wp2_with (go_at_call 41; refine (qh ⟨_, ⟨_, _, _⟩⟩ l1 A1 c1 (w.heap.size + 1) _ (Held.bound HL.out) (Kd.zL HR1.out (yY HB.out)) HC1.out).mono ?_; rintro e w' ⟨rfl, hb⟩; (try clear q0 q1 q2 q3 q4 q5 q6 q7 q8 q9 q10 q11 q12 q13 q14 q15 q16 q17 q18); replace HB := Lib.hid (yg HB.out HZ.out hb); replace HZ := Lib.hid (Nat.le_trans HZ.out hb.size); replace HL := Lib.hid (Held.below HL.out hb); obtain ⟨q0, q1, q2, q3, q4, q5, q6, q7, q8, q9, q10, q11, q12, q13, q14, q15, q16, q17, q18⟩ := HL.out; clear hb)
  go_ret
  refine ⟨?_, HB.out⟩
  unfold readyB
  simp only [fa, fb, fe]
  rfl
set_option maxHeartbeats 1000000 in
set_option maxRecDepth 100000 in
theorem ready_3_2 (a0_0 : Int) (a0_1 : ByteArray) (A0_2 : Option Addr) (c0_2 : Nat) (l0_2 : List (S40)) (a0_3 : ByteArray) (a0_4 : ByteArray) (a0_5 : Int) (a0_6 : Int) (a0_7 : ByteArray) (a0_8 : ByteArray) (a0_9 : Int) (a0_10 : Int) (a0_11 : ByteArray) (a0_12 : ByteArray) (a0_13 : Int) (a0_14 : Int) (a0_15 : ByteArray) (A0_16 : Option Addr) (c0_16 : Nat) (l0_16 : List (S82)) (A1 : Option Addr) (c1 : Nat) (l1 : List ByteArray) (w : World) (hr0_2 : Kd.C k40 w A0_2 l0_2.length l0_2) (hc0_2 : l0_2.length ≤ c0_2) (hr0_16 : Kd.C k82 w A0_16 l0_16.length l0_16) (hc0_16 : l0_16.length ≤ c0_16) (hr1 : Kd.C Kd.string w A1 l1.length l1) (hc1 : l1.length ≤ c1) (hk : a0_0 = 3) (fa : isB a0_4 l1 = true) (fb : isB a0_8 l1 = false) (fe : (a0_3.toList == ([61] : List UInt8)) = false) :
    Calls Try.prog 28 #[.agg #[.int .i64 a0_0, .string a0_1, .slice A0_2 l0_2.length c0_2, .string a0_3, .string a0_4, .int .i64 a0_5, .int .i64 a0_6, .string a0_7, .string a0_8, .int .i64 a0_9, .int .i64 a0_10, .string a0_11, .string a0_12, .int .i64 a0_13, .int .i64 a0_14, .string a0_15, .slice A0_16 l0_16.length c0_16], .slice A1 l1.length c1] w fun e w' => e = .returned (.bool (readyB a0_0 a0_3 a0_4 a0_8 a0_12 l0_2 l1)) ∧ Below w.heap.size w w' := by
  subst hk
  have HR0 := Lib.hid hr0_2
  have HR1 := Lib.hid hr1
  have HC1 := Lib.hid hc1
  clear hr0_2 hc0_2 hr0_16 hc0_16 hr1 hc1
  have hu43 := Try.underlying43
  have hu40 := Try.underlying40
  have hu23 := Try.underlying23
  have hu72 := Try.underlying72
  go_enter Try.func28, Try.ntmps28
  have HL := Lib.hid (yM 3 a0_1 A0_2 c0_2 l0_2 a0_3 a0_4 a0_5 a0_6 a0_7 a0_8 a0_9 a0_10 a0_11 a0_12 a0_13 a0_14 a0_15 A0_16 c0_16 l0_16 A1 c1 l1 w)
  have HB := Lib.hid (show Below w.heap.size w (((w.alloc (.cells #[.int .i64 3, .string a0_1, .slice A0_2 l0_2.length c0_2, .string a0_3, .string a0_4, .int .i64 a0_5, .int .i64 a0_6, .string a0_7, .string a0_8, .int .i64 a0_9, .int .i64 a0_10, .string a0_11, .string a0_12, .int .i64 a0_13, .int .i64 a0_14, .string a0_15, .slice A0_16 l0_16.length c0_16] 43)).alloc (.cells #[.slice A1 l1.length c1] 23)).alloc (.cells #[.func (.func 41) #[] #[.pointer (some ⟨w.heap.size + 1, 0, none⟩)]] 72)) from ((((Below.refl _ _).alloc (Nat.le_refl _) _).alloc (by simp) _).alloc (by simp; omega) _))
  have HZ := Lib.hid HB.out.size
  go_wp2_with (go_at_call 41; refine (qh ⟨_, ⟨_, _, _⟩⟩ l1 A1 c1 (w.heap.size + 1) _ (Held.bound HL.out) (Kd.zL HR1.out (yY HB.out)) HC1.out).mono ?_; rintro e w' ⟨rfl, hb⟩; (try clear q0 q1 q2 q3 q4 q5 q6 q7 q8 q9 q10 q11 q12 q13 q14 q15 q16 q17 q18); replace HB := Lib.hid (yg HB.out HZ.out hb); replace HZ := Lib.hid (Nat.le_trans HZ.out hb.size); replace HL := Lib.hid (Held.below HL.out hb); obtain ⟨q0, q1, q2, q3, q4, q5, q6, q7, q8, q9, q10, q11, q12, q13, q14, q15, q16, q17, q18⟩ := HL.out; clear hb)
  go_ret
  refine ⟨?_, HB.out⟩
  unfold readyB
  simp only [fa, fb, fe]
  rfl
set_option maxHeartbeats 1000000 in
set_option maxRecDepth 100000 in
theorem ready_3_3 (a0_0 : Int) (a0_1 : ByteArray) (A0_2 : Option Addr) (c0_2 : Nat) (l0_2 : List (S40)) (a0_3 : ByteArray) (a0_4 : ByteArray) (a0_5 : Int) (a0_6 : Int) (a0_7 : ByteArray) (a0_8 : ByteArray) (a0_9 : Int) (a0_10 : Int) (a0_11 : ByteArray) (a0_12 : ByteArray) (a0_13 : Int) (a0_14 : Int) (a0_15 : ByteArray) (A0_16 : Option Addr) (c0_16 : Nat) (l0_16 : List (S82)) (A1 : Option Addr) (c1 : Nat) (l1 : List ByteArray) (w : World) (hr0_2 : Kd.C k40 w A0_2 l0_2.length l0_2) (hc0_2 : l0_2.length ≤ c0_2) (hr0_16 : Kd.C k82 w A0_16 l0_16.length l0_16) (hc0_16 : l0_16.length ≤ c0_16) (hr1 : Kd.C Kd.string w A1 l1.length l1) (hc1 : l1.length ≤ c1) (hk : a0_0 = 3) (fa : isB a0_4 l1 = false) (fb : isB a0_8 l1 = true) (fe : (a0_3.toList == ([61] : List UInt8)) = true) :
    Calls Try.prog 28 #[.agg #[.int .i64 a0_0, .string a0_1, .slice A0_2 l0_2.length c0_2, .string a0_3, .string a0_4, .int .i64 a0_5, .int .i64 a0_6, .string a0_7, .string a0_8, .int .i64 a0_9, .int .i64 a0_10, .string a0_11, .string a0_12, .int .i64 a0_13, .int .i64 a0_14, .string a0_15, .slice A0_16 l0_16.length c0_16], .slice A1 l1.length c1] w fun e w' => e = .returned (.bool (readyB a0_0 a0_3 a0_4 a0_8 a0_12 l0_2 l1)) ∧ Below w.heap.size w w' := by
  subst hk
  have HR0 := Lib.hid hr0_2
  have HR1 := Lib.hid hr1
  have HC1 := Lib.hid hc1
  clear hr0_2 hc0_2 hr0_16 hc0_16 hr1 hc1
  have hu43 := Try.underlying43
  have hu40 := Try.underlying40
  have hu23 := Try.underlying23
  have hu72 := Try.underlying72
  go_enter Try.func28, Try.ntmps28
  have HL := Lib.hid (yM 3 a0_1 A0_2 c0_2 l0_2 a0_3 a0_4 a0_5 a0_6 a0_7 a0_8 a0_9 a0_10 a0_11 a0_12 a0_13 a0_14 a0_15 A0_16 c0_16 l0_16 A1 c1 l1 w)
  have HB := Lib.hid (show Below w.heap.size w (((w.alloc (.cells #[.int .i64 3, .string a0_1, .slice A0_2 l0_2.length c0_2, .string a0_3, .string a0_4, .int .i64 a0_5, .int .i64 a0_6, .string a0_7, .string a0_8, .int .i64 a0_9, .int .i64 a0_10, .string a0_11, .string a0_12, .int .i64 a0_13, .int .i64 a0_14, .string a0_15, .slice A0_16 l0_16.length c0_16] 43)).alloc (.cells #[.slice A1 l1.length c1] 23)).alloc (.cells #[.func (.func 41) #[] #[.pointer (some ⟨w.heap.size + 1, 0, none⟩)]] 72)) from ((((Below.refl _ _).alloc (Nat.le_refl _) _).alloc (by simp) _).alloc (by simp; omega) _))
  have HZ := Lib.hid HB.out.size
  go_wp2_with (go_at_call 41; refine (qh ⟨_, ⟨_, _, _⟩⟩ l1 A1 c1 (w.heap.size + 1) _ (Held.bound HL.out) (Kd.zL HR1.out (yY HB.out)) HC1.out).mono ?_; rintro e w' ⟨rfl, hb⟩; (try clear q0 q1 q2 q3 q4 q5 q6 q7 q8 q9 q10 q11 q12 q13 q14 q15 q16 q17 q18); replace HB := Lib.hid (yg HB.out HZ.out hb); replace HZ := Lib.hid (Nat.le_trans HZ.out hb.size); replace HL := Lib.hid (Held.below HL.out hb); obtain ⟨q0, q1, q2, q3, q4, q5, q6, q7, q8, q9, q10, q11, q12, q13, q14, q15, q16, q17, q18⟩ := HL.out; clear hb)
  go_ret
  refine ⟨?_, HB.out⟩
  unfold readyB
  simp only [fa, fb, fe]
  rfl
set_option maxHeartbeats 1000000 in
set_option maxRecDepth 100000 in
theorem ready_3_4 (a0_0 : Int) (a0_1 : ByteArray) (A0_2 : Option Addr) (c0_2 : Nat) (l0_2 : List (S40)) (a0_3 : ByteArray) (a0_4 : ByteArray) (a0_5 : Int) (a0_6 : Int) (a0_7 : ByteArray) (a0_8 : ByteArray) (a0_9 : Int) (a0_10 : Int) (a0_11 : ByteArray) (a0_12 : ByteArray) (a0_13 : Int) (a0_14 : Int) (a0_15 : ByteArray) (A0_16 : Option Addr) (c0_16 : Nat) (l0_16 : List (S82)) (A1 : Option Addr) (c1 : Nat) (l1 : List ByteArray) (w : World) (hr0_2 : Kd.C k40 w A0_2 l0_2.length l0_2) (hc0_2 : l0_2.length ≤ c0_2) (hr0_16 : Kd.C k82 w A0_16 l0_16.length l0_16) (hc0_16 : l0_16.length ≤ c0_16) (hr1 : Kd.C Kd.string w A1 l1.length l1) (hc1 : l1.length ≤ c1) (hk : a0_0 = 3) (fa : isB a0_4 l1 = false) (fb : isB a0_8 l1 = false) (fe : (a0_3.toList == ([61] : List UInt8)) = true) :
    Calls Try.prog 28 #[.agg #[.int .i64 a0_0, .string a0_1, .slice A0_2 l0_2.length c0_2, .string a0_3, .string a0_4, .int .i64 a0_5, .int .i64 a0_6, .string a0_7, .string a0_8, .int .i64 a0_9, .int .i64 a0_10, .string a0_11, .string a0_12, .int .i64 a0_13, .int .i64 a0_14, .string a0_15, .slice A0_16 l0_16.length c0_16], .slice A1 l1.length c1] w fun e w' => e = .returned (.bool (readyB a0_0 a0_3 a0_4 a0_8 a0_12 l0_2 l1)) ∧ Below w.heap.size w w' := by
  subst hk
  have HR0 := Lib.hid hr0_2
  have HR1 := Lib.hid hr1
  have HC1 := Lib.hid hc1
  clear hr0_2 hc0_2 hr0_16 hc0_16 hr1 hc1
  have hu43 := Try.underlying43
  have hu40 := Try.underlying40
  have hu23 := Try.underlying23
  have hu72 := Try.underlying72
  go_enter Try.func28, Try.ntmps28
  have HL := Lib.hid (yM 3 a0_1 A0_2 c0_2 l0_2 a0_3 a0_4 a0_5 a0_6 a0_7 a0_8 a0_9 a0_10 a0_11 a0_12 a0_13 a0_14 a0_15 A0_16 c0_16 l0_16 A1 c1 l1 w)
  have HB := Lib.hid (show Below w.heap.size w (((w.alloc (.cells #[.int .i64 3, .string a0_1, .slice A0_2 l0_2.length c0_2, .string a0_3, .string a0_4, .int .i64 a0_5, .int .i64 a0_6, .string a0_7, .string a0_8, .int .i64 a0_9, .int .i64 a0_10, .string a0_11, .string a0_12, .int .i64 a0_13, .int .i64 a0_14, .string a0_15, .slice A0_16 l0_16.length c0_16] 43)).alloc (.cells #[.slice A1 l1.length c1] 23)).alloc (.cells #[.func (.func 41) #[] #[.pointer (some ⟨w.heap.size + 1, 0, none⟩)]] 72)) from ((((Below.refl _ _).alloc (Nat.le_refl _) _).alloc (by simp) _).alloc (by simp; omega) _))
  have HZ := Lib.hid HB.out.size
  go_wp2_with (go_at_call 41; refine (qh ⟨_, ⟨_, _, _⟩⟩ l1 A1 c1 (w.heap.size + 1) _ (Held.bound HL.out) (Kd.zL HR1.out (yY HB.out)) HC1.out).mono ?_; rintro e w' ⟨rfl, hb⟩; (try clear q0 q1 q2 q3 q4 q5 q6 q7 q8 q9 q10 q11 q12 q13 q14 q15 q16 q17 q18); replace HB := Lib.hid (yg HB.out HZ.out hb); replace HZ := Lib.hid (Nat.le_trans HZ.out hb.size); replace HL := Lib.hid (Held.below HL.out hb); obtain ⟨q0, q1, q2, q3, q4, q5, q6, q7, q8, q9, q10, q11, q12, q13, q14, q15, q16, q17, q18⟩ := HL.out; clear hb)
  go_ret
  refine ⟨?_, HB.out⟩
  unfold readyB
  simp only [fa, fb, fe]
  rfl
set_option maxHeartbeats 1000000 in
set_option maxRecDepth 100000 in
theorem ready_3_5 (a0_0 : Int) (a0_1 : ByteArray) (A0_2 : Option Addr) (c0_2 : Nat) (l0_2 : List (S40)) (a0_3 : ByteArray) (a0_4 : ByteArray) (a0_5 : Int) (a0_6 : Int) (a0_7 : ByteArray) (a0_8 : ByteArray) (a0_9 : Int) (a0_10 : Int) (a0_11 : ByteArray) (a0_12 : ByteArray) (a0_13 : Int) (a0_14 : Int) (a0_15 : ByteArray) (A0_16 : Option Addr) (c0_16 : Nat) (l0_16 : List (S82)) (A1 : Option Addr) (c1 : Nat) (l1 : List ByteArray) (w : World) (hr0_2 : Kd.C k40 w A0_2 l0_2.length l0_2) (hc0_2 : l0_2.length ≤ c0_2) (hr0_16 : Kd.C k82 w A0_16 l0_16.length l0_16) (hc0_16 : l0_16.length ≤ c0_16) (hr1 : Kd.C Kd.string w A1 l1.length l1) (hc1 : l1.length ≤ c1) (hk : a0_0 = 3) (fa : isB a0_4 l1 = false) (fb : isB a0_8 l1 = true) (fe : (a0_3.toList == ([61] : List UInt8)) = false) :
    Calls Try.prog 28 #[.agg #[.int .i64 a0_0, .string a0_1, .slice A0_2 l0_2.length c0_2, .string a0_3, .string a0_4, .int .i64 a0_5, .int .i64 a0_6, .string a0_7, .string a0_8, .int .i64 a0_9, .int .i64 a0_10, .string a0_11, .string a0_12, .int .i64 a0_13, .int .i64 a0_14, .string a0_15, .slice A0_16 l0_16.length c0_16], .slice A1 l1.length c1] w fun e w' => e = .returned (.bool (readyB a0_0 a0_3 a0_4 a0_8 a0_12 l0_2 l1)) ∧ Below w.heap.size w w' := by
  subst hk
  have HR0 := Lib.hid hr0_2
  have HR1 := Lib.hid hr1
  have HC1 := Lib.hid hc1
  clear hr0_2 hc0_2 hr0_16 hc0_16 hr1 hc1
  have hu43 := Try.underlying43
  have hu40 := Try.underlying40
  have hu23 := Try.underlying23
  have hu72 := Try.underlying72
  go_enter Try.func28, Try.ntmps28
  have HL := Lib.hid (yM 3 a0_1 A0_2 c0_2 l0_2 a0_3 a0_4 a0_5 a0_6 a0_7 a0_8 a0_9 a0_10 a0_11 a0_12 a0_13 a0_14 a0_15 A0_16 c0_16 l0_16 A1 c1 l1 w)
  have HB := Lib.hid (show Below w.heap.size w (((w.alloc (.cells #[.int .i64 3, .string a0_1, .slice A0_2 l0_2.length c0_2, .string a0_3, .string a0_4, .int .i64 a0_5, .int .i64 a0_6, .string a0_7, .string a0_8, .int .i64 a0_9, .int .i64 a0_10, .string a0_11, .string a0_12, .int .i64 a0_13, .int .i64 a0_14, .string a0_15, .slice A0_16 l0_16.length c0_16] 43)).alloc (.cells #[.slice A1 l1.length c1] 23)).alloc (.cells #[.func (.func 41) #[] #[.pointer (some ⟨w.heap.size + 1, 0, none⟩)]] 72)) from ((((Below.refl _ _).alloc (Nat.le_refl _) _).alloc (by simp) _).alloc (by simp; omega) _))
  have HZ := Lib.hid HB.out.size
  go_wp2_with (go_at_call 41; refine (qh ⟨_, ⟨_, _, _⟩⟩ l1 A1 c1 (w.heap.size + 1) _ (Held.bound HL.out) (Kd.zL HR1.out (yY HB.out)) HC1.out).mono ?_; rintro e w' ⟨rfl, hb⟩; (try clear q0 q1 q2 q3 q4 q5 q6 q7 q8 q9 q10 q11 q12 q13 q14 q15 q16 q17 q18); replace HB := Lib.hid (yg HB.out HZ.out hb); replace HZ := Lib.hid (Nat.le_trans HZ.out hb.size); replace HL := Lib.hid (Held.below HL.out hb); obtain ⟨q0, q1, q2, q3, q4, q5, q6, q7, q8, q9, q10, q11, q12, q13, q14, q15, q16, q17, q18⟩ := HL.out; clear hb)
  go_ret
  refine ⟨?_, HB.out⟩
  unfold readyB
  simp only [fa, fb, fe]
  rfl
set_option maxHeartbeats 1000000 in
set_option maxRecDepth 100000 in
theorem ready_3_6 (a0_0 : Int) (a0_1 : ByteArray) (A0_2 : Option Addr) (c0_2 : Nat) (l0_2 : List (S40)) (a0_3 : ByteArray) (a0_4 : ByteArray) (a0_5 : Int) (a0_6 : Int) (a0_7 : ByteArray) (a0_8 : ByteArray) (a0_9 : Int) (a0_10 : Int) (a0_11 : ByteArray) (a0_12 : ByteArray) (a0_13 : Int) (a0_14 : Int) (a0_15 : ByteArray) (A0_16 : Option Addr) (c0_16 : Nat) (l0_16 : List (S82)) (A1 : Option Addr) (c1 : Nat) (l1 : List ByteArray) (w : World) (hr0_2 : Kd.C k40 w A0_2 l0_2.length l0_2) (hc0_2 : l0_2.length ≤ c0_2) (hr0_16 : Kd.C k82 w A0_16 l0_16.length l0_16) (hc0_16 : l0_16.length ≤ c0_16) (hr1 : Kd.C Kd.string w A1 l1.length l1) (hc1 : l1.length ≤ c1) (hk : a0_0 = 3) (fa : isB a0_4 l1 = false) (fb : isB a0_8 l1 = false) (fe : (a0_3.toList == ([61] : List UInt8)) = false) :
    Calls Try.prog 28 #[.agg #[.int .i64 a0_0, .string a0_1, .slice A0_2 l0_2.length c0_2, .string a0_3, .string a0_4, .int .i64 a0_5, .int .i64 a0_6, .string a0_7, .string a0_8, .int .i64 a0_9, .int .i64 a0_10, .string a0_11, .string a0_12, .int .i64 a0_13, .int .i64 a0_14, .string a0_15, .slice A0_16 l0_16.length c0_16], .slice A1 l1.length c1] w fun e w' => e = .returned (.bool (readyB a0_0 a0_3 a0_4 a0_8 a0_12 l0_2 l1)) ∧ Below w.heap.size w w' := by
  subst hk
  have HR0 := Lib.hid hr0_2
  have HR1 := Lib.hid hr1
  have HC1 := Lib.hid hc1
  clear hr0_2 hc0_2 hr0_16 hc0_16 hr1 hc1
  have hu43 := Try.underlying43
  have hu40 := Try.underlying40
  have hu23 := Try.underlying23
  have hu72 := Try.underlying72
  go_enter Try.func28, Try.ntmps28
  have HL := Lib.hid (yM 3 a0_1 A0_2 c0_2 l0_2 a0_3 a0_4 a0_5 a0_6 a0_7 a0_8 a0_9 a0_10 a0_11 a0_12 a0_13 a0_14 a0_15 A0_16 c0_16 l0_16 A1 c1 l1 w)
  have HB := Lib.hid (show Below w.heap.size w (((w.alloc (.cells #[.int .i64 3, .string a0_1, .slice A0_2 l0_2.length c0_2, .string a0_3, .string a0_4, .int .i64 a0_5, .int .i64 a0_6, .string a0_7, .string a0_8, .int .i64 a0_9, .int .i64 a0_10, .string a0_11, .string a0_12, .int .i64 a0_13, .int .i64 a0_14, .string a0_15, .slice A0_16 l0_16.length c0_16] 43)).alloc (.cells #[.slice A1 l1.length c1] 23)).alloc (.cells #[.func (.func 41) #[] #[.pointer (some ⟨w.heap.size + 1, 0, none⟩)]] 72)) from ((((Below.refl _ _).alloc (Nat.le_refl _) _).alloc (by simp) _).alloc (by simp; omega) _))
  have HZ := Lib.hid HB.out.size
  go_wp2_with (go_at_call 41; refine (qh ⟨_, ⟨_, _, _⟩⟩ l1 A1 c1 (w.heap.size + 1) _ (Held.bound HL.out) (Kd.zL HR1.out (yY HB.out)) HC1.out).mono ?_; rintro e w' ⟨rfl, hb⟩; (try clear q0 q1 q2 q3 q4 q5 q6 q7 q8 q9 q10 q11 q12 q13 q14 q15 q16 q17 q18); replace HB := Lib.hid (yg HB.out HZ.out hb); replace HZ := Lib.hid (Nat.le_trans HZ.out hb.size); replace HL := Lib.hid (Held.below HL.out hb); obtain ⟨q0, q1, q2, q3, q4, q5, q6, q7, q8, q9, q10, q11, q12, q13, q14, q15, q16, q17, q18⟩ := HL.out; clear hb)
  go_ret
  refine ⟨?_, HB.out⟩
  unfold readyB
  simp only [fa, fb, fe]
  rfl
set_option maxHeartbeats 1000000 in
set_option maxRecDepth 100000 in
theorem ready_4_0 (a0_0 : Int) (a0_1 : ByteArray) (A0_2 : Option Addr) (c0_2 : Nat) (l0_2 : List (S40)) (a0_3 : ByteArray) (a0_4 : ByteArray) (a0_5 : Int) (a0_6 : Int) (a0_7 : ByteArray) (a0_8 : ByteArray) (a0_9 : Int) (a0_10 : Int) (a0_11 : ByteArray) (a0_12 : ByteArray) (a0_13 : Int) (a0_14 : Int) (a0_15 : ByteArray) (A0_16 : Option Addr) (c0_16 : Nat) (l0_16 : List (S82)) (A1 : Option Addr) (c1 : Nat) (l1 : List ByteArray) (w : World) (hr0_2 : Kd.C k40 w A0_2 l0_2.length l0_2) (hc0_2 : l0_2.length ≤ c0_2) (hr0_16 : Kd.C k82 w A0_16 l0_16.length l0_16) (hc0_16 : l0_16.length ≤ c0_16) (hr1 : Kd.C Kd.string w A1 l1.length l1) (hc1 : l1.length ≤ c1) (hk : a0_0 = 4) (fb : isB a0_8 l1 = true) (fc : isB a0_12 l1 = true) :
    Calls Try.prog 28 #[.agg #[.int .i64 a0_0, .string a0_1, .slice A0_2 l0_2.length c0_2, .string a0_3, .string a0_4, .int .i64 a0_5, .int .i64 a0_6, .string a0_7, .string a0_8, .int .i64 a0_9, .int .i64 a0_10, .string a0_11, .string a0_12, .int .i64 a0_13, .int .i64 a0_14, .string a0_15, .slice A0_16 l0_16.length c0_16], .slice A1 l1.length c1] w fun e w' => e = .returned (.bool (readyB a0_0 a0_3 a0_4 a0_8 a0_12 l0_2 l1)) ∧ Below w.heap.size w w' := by
  subst hk
  have HR0 := Lib.hid hr0_2
  have HR1 := Lib.hid hr1
  have HC1 := Lib.hid hc1
  clear hr0_2 hc0_2 hr0_16 hc0_16 hr1 hc1
  have hu43 := Try.underlying43
  have hu40 := Try.underlying40
  have hu23 := Try.underlying23
  have hu72 := Try.underlying72
  go_enter Try.func28, Try.ntmps28
  have HL := Lib.hid (yM 4 a0_1 A0_2 c0_2 l0_2 a0_3 a0_4 a0_5 a0_6 a0_7 a0_8 a0_9 a0_10 a0_11 a0_12 a0_13 a0_14 a0_15 A0_16 c0_16 l0_16 A1 c1 l1 w)
  have HB := Lib.hid (show Below w.heap.size w (((w.alloc (.cells #[.int .i64 4, .string a0_1, .slice A0_2 l0_2.length c0_2, .string a0_3, .string a0_4, .int .i64 a0_5, .int .i64 a0_6, .string a0_7, .string a0_8, .int .i64 a0_9, .int .i64 a0_10, .string a0_11, .string a0_12, .int .i64 a0_13, .int .i64 a0_14, .string a0_15, .slice A0_16 l0_16.length c0_16] 43)).alloc (.cells #[.slice A1 l1.length c1] 23)).alloc (.cells #[.func (.func 41) #[] #[.pointer (some ⟨w.heap.size + 1, 0, none⟩)]] 72)) from ((((Below.refl _ _).alloc (Nat.le_refl _) _).alloc (by simp) _).alloc (by simp; omega) _))
  have HZ := Lib.hid HB.out.size
  go_wp2_with (go_at_call 41; refine (qh ⟨_, ⟨_, _, _⟩⟩ l1 A1 c1 (w.heap.size + 1) _ (Held.bound HL.out) (Kd.zL HR1.out (yY HB.out)) HC1.out).mono ?_; rintro e w' ⟨rfl, hb⟩; (try clear q0 q1 q2 q3 q4 q5 q6 q7 q8 q9 q10 q11 q12 q13 q14 q15 q16 q17 q18); replace HB := Lib.hid (yg HB.out HZ.out hb); replace HZ := Lib.hid (Nat.le_trans HZ.out hb.size); replace HL := Lib.hid (Held.below HL.out hb); obtain ⟨q0, q1, q2, q3, q4, q5, q6, q7, q8, q9, q10, q11, q12, q13, q14, q15, q16, q17, q18⟩ := HL.out; clear hb)
  go_ret
  refine ⟨?_, HB.out⟩
  unfold readyB
  simp only [fb, fc]
  rfl
set_option maxHeartbeats 1000000 in
set_option maxRecDepth 100000 in
theorem ready_4_1 (a0_0 : Int) (a0_1 : ByteArray) (A0_2 : Option Addr) (c0_2 : Nat) (l0_2 : List (S40)) (a0_3 : ByteArray) (a0_4 : ByteArray) (a0_5 : Int) (a0_6 : Int) (a0_7 : ByteArray) (a0_8 : ByteArray) (a0_9 : Int) (a0_10 : Int) (a0_11 : ByteArray) (a0_12 : ByteArray) (a0_13 : Int) (a0_14 : Int) (a0_15 : ByteArray) (A0_16 : Option Addr) (c0_16 : Nat) (l0_16 : List (S82)) (A1 : Option Addr) (c1 : Nat) (l1 : List ByteArray) (w : World) (hr0_2 : Kd.C k40 w A0_2 l0_2.length l0_2) (hc0_2 : l0_2.length ≤ c0_2) (hr0_16 : Kd.C k82 w A0_16 l0_16.length l0_16) (hc0_16 : l0_16.length ≤ c0_16) (hr1 : Kd.C Kd.string w A1 l1.length l1) (hc1 : l1.length ≤ c1) (hk : a0_0 = 4) (fb : isB a0_8 l1 = true) (fc : isB a0_12 l1 = false) :
    Calls Try.prog 28 #[.agg #[.int .i64 a0_0, .string a0_1, .slice A0_2 l0_2.length c0_2, .string a0_3, .string a0_4, .int .i64 a0_5, .int .i64 a0_6, .string a0_7, .string a0_8, .int .i64 a0_9, .int .i64 a0_10, .string a0_11, .string a0_12, .int .i64 a0_13, .int .i64 a0_14, .string a0_15, .slice A0_16 l0_16.length c0_16], .slice A1 l1.length c1] w fun e w' => e = .returned (.bool (readyB a0_0 a0_3 a0_4 a0_8 a0_12 l0_2 l1)) ∧ Below w.heap.size w w' := by
  subst hk
  have HR0 := Lib.hid hr0_2
  have HR1 := Lib.hid hr1
  have HC1 := Lib.hid hc1
  clear hr0_2 hc0_2 hr0_16 hc0_16 hr1 hc1
  have hu43 := Try.underlying43
  have hu40 := Try.underlying40
  have hu23 := Try.underlying23
  have hu72 := Try.underlying72
  go_enter Try.func28, Try.ntmps28
  have HL := Lib.hid (yM 4 a0_1 A0_2 c0_2 l0_2 a0_3 a0_4 a0_5 a0_6 a0_7 a0_8 a0_9 a0_10 a0_11 a0_12 a0_13 a0_14 a0_15 A0_16 c0_16 l0_16 A1 c1 l1 w)
  have HB := Lib.hid (show Below w.heap.size w (((w.alloc (.cells #[.int .i64 4, .string a0_1, .slice A0_2 l0_2.length c0_2, .string a0_3, .string a0_4, .int .i64 a0_5, .int .i64 a0_6, .string a0_7, .string a0_8, .int .i64 a0_9, .int .i64 a0_10, .string a0_11, .string a0_12, .int .i64 a0_13, .int .i64 a0_14, .string a0_15, .slice A0_16 l0_16.length c0_16] 43)).alloc (.cells #[.slice A1 l1.length c1] 23)).alloc (.cells #[.func (.func 41) #[] #[.pointer (some ⟨w.heap.size + 1, 0, none⟩)]] 72)) from ((((Below.refl _ _).alloc (Nat.le_refl _) _).alloc (by simp) _).alloc (by simp; omega) _))
  have HZ := Lib.hid HB.out.size
  go_wp2_with (go_at_call 41; refine (qh ⟨_, ⟨_, _, _⟩⟩ l1 A1 c1 (w.heap.size + 1) _ (Held.bound HL.out) (Kd.zL HR1.out (yY HB.out)) HC1.out).mono ?_; rintro e w' ⟨rfl, hb⟩; (try clear q0 q1 q2 q3 q4 q5 q6 q7 q8 q9 q10 q11 q12 q13 q14 q15 q16 q17 q18); replace HB := Lib.hid (yg HB.out HZ.out hb); replace HZ := Lib.hid (Nat.le_trans HZ.out hb.size); replace HL := Lib.hid (Held.below HL.out hb); obtain ⟨q0, q1, q2, q3, q4, q5, q6, q7, q8, q9, q10, q11, q12, q13, q14, q15, q16, q17, q18⟩ := HL.out; clear hb)
  go_ret
  refine ⟨?_, HB.out⟩
  unfold readyB
  simp only [fb, fc]
  rfl
set_option maxHeartbeats 1000000 in
set_option maxRecDepth 100000 in
theorem ready_4_2 (a0_0 : Int) (a0_1 : ByteArray) (A0_2 : Option Addr) (c0_2 : Nat) (l0_2 : List (S40)) (a0_3 : ByteArray) (a0_4 : ByteArray) (a0_5 : Int) (a0_6 : Int) (a0_7 : ByteArray) (a0_8 : ByteArray) (a0_9 : Int) (a0_10 : Int) (a0_11 : ByteArray) (a0_12 : ByteArray) (a0_13 : Int) (a0_14 : Int) (a0_15 : ByteArray) (A0_16 : Option Addr) (c0_16 : Nat) (l0_16 : List (S82)) (A1 : Option Addr) (c1 : Nat) (l1 : List ByteArray) (w : World) (hr0_2 : Kd.C k40 w A0_2 l0_2.length l0_2) (hc0_2 : l0_2.length ≤ c0_2) (hr0_16 : Kd.C k82 w A0_16 l0_16.length l0_16) (hc0_16 : l0_16.length ≤ c0_16) (hr1 : Kd.C Kd.string w A1 l1.length l1) (hc1 : l1.length ≤ c1) (hk : a0_0 = 4) (fb : isB a0_8 l1 = false) :
    Calls Try.prog 28 #[.agg #[.int .i64 a0_0, .string a0_1, .slice A0_2 l0_2.length c0_2, .string a0_3, .string a0_4, .int .i64 a0_5, .int .i64 a0_6, .string a0_7, .string a0_8, .int .i64 a0_9, .int .i64 a0_10, .string a0_11, .string a0_12, .int .i64 a0_13, .int .i64 a0_14, .string a0_15, .slice A0_16 l0_16.length c0_16], .slice A1 l1.length c1] w fun e w' => e = .returned (.bool (readyB a0_0 a0_3 a0_4 a0_8 a0_12 l0_2 l1)) ∧ Below w.heap.size w w' := by
  subst hk
  have HR0 := Lib.hid hr0_2
  have HR1 := Lib.hid hr1
  have HC1 := Lib.hid hc1
  clear hr0_2 hc0_2 hr0_16 hc0_16 hr1 hc1
  have hu43 := Try.underlying43
  have hu40 := Try.underlying40
  have hu23 := Try.underlying23
  have hu72 := Try.underlying72
  go_enter Try.func28, Try.ntmps28
  have HL := Lib.hid (yM 4 a0_1 A0_2 c0_2 l0_2 a0_3 a0_4 a0_5 a0_6 a0_7 a0_8 a0_9 a0_10 a0_11 a0_12 a0_13 a0_14 a0_15 A0_16 c0_16 l0_16 A1 c1 l1 w)
  have HB := Lib.hid (show Below w.heap.size w (((w.alloc (.cells #[.int .i64 4, .string a0_1, .slice A0_2 l0_2.length c0_2, .string a0_3, .string a0_4, .int .i64 a0_5, .int .i64 a0_6, .string a0_7, .string a0_8, .int .i64 a0_9, .int .i64 a0_10, .string a0_11, .string a0_12, .int .i64 a0_13, .int .i64 a0_14, .string a0_15, .slice A0_16 l0_16.length c0_16] 43)).alloc (.cells #[.slice A1 l1.length c1] 23)).alloc (.cells #[.func (.func 41) #[] #[.pointer (some ⟨w.heap.size + 1, 0, none⟩)]] 72)) from ((((Below.refl _ _).alloc (Nat.le_refl _) _).alloc (by simp) _).alloc (by simp; omega) _))
  have HZ := Lib.hid HB.out.size
  go_wp2_with (go_at_call 41; refine (qh ⟨_, ⟨_, _, _⟩⟩ l1 A1 c1 (w.heap.size + 1) _ (Held.bound HL.out) (Kd.zL HR1.out (yY HB.out)) HC1.out).mono ?_; rintro e w' ⟨rfl, hb⟩; (try clear q0 q1 q2 q3 q4 q5 q6 q7 q8 q9 q10 q11 q12 q13 q14 q15 q16 q17 q18); replace HB := Lib.hid (yg HB.out HZ.out hb); replace HZ := Lib.hid (Nat.le_trans HZ.out hb.size); replace HL := Lib.hid (Held.below HL.out hb); obtain ⟨q0, q1, q2, q3, q4, q5, q6, q7, q8, q9, q10, q11, q12, q13, q14, q15, q16, q17, q18⟩ := HL.out; clear hb)
  go_ret
  refine ⟨?_, HB.out⟩
  unfold readyB
  simp only [fb]
  rfl
theorem qu.calls (a0_0 : Int) (a0_1 : ByteArray) (A0_2 : Option Addr) (c0_2 : Nat) (l0_2 : List (S40)) (a0_3 : ByteArray) (a0_4 : ByteArray) (a0_5 : Int) (a0_6 : Int) (a0_7 : ByteArray) (a0_8 : ByteArray) (a0_9 : Int) (a0_10 : Int) (a0_11 : ByteArray) (a0_12 : ByteArray) (a0_13 : Int) (a0_14 : Int) (a0_15 : ByteArray) (A0_16 : Option Addr) (c0_16 : Nat) (l0_16 : List (S82)) (A1 : Option Addr) (c1 : Nat) (l1 : List ByteArray) (r : Bool) (w : World) (hr0_2 : Kd.C k40 w A0_2 l0_2.length l0_2) (hc0_2 : l0_2.length ≤ c0_2) (hr0_16 : Kd.C k82 w A0_16 l0_16.length l0_16) (hc0_16 : l0_16.length ≤ c0_16) (hr1 : Kd.C Kd.string w A1 l1.length l1) (hc1 : l1.length ≤ c1) (h : qu.f a0_0 a0_1 l0_2 a0_3 a0_4 a0_5 a0_6 a0_7 a0_8 a0_9 a0_10 a0_11 a0_12 a0_13 a0_14 a0_15 l0_16 l1 = some r) :
    Calls Try.prog 28 #[.agg #[.int .i64 a0_0, .string a0_1, .slice A0_2 l0_2.length c0_2, .string a0_3, .string a0_4, .int .i64 a0_5, .int .i64 a0_6, .string a0_7, .string a0_8, .int .i64 a0_9, .int .i64 a0_10, .string a0_11, .string a0_12, .int .i64 a0_13, .int .i64 a0_14, .string a0_15, .slice A0_16 l0_16.length c0_16], .slice A1 l1.length c1] w fun e w' => e = .returned (.bool r) ∧ Below w.heap.size w w' := by
  unfold qu.f at h
  obtain rfl := Option.some.inj h
  clear h
  rcases Classical.em (a0_0 = 2) with k2 | k2
  · cases fy : (l0_2.any fun t => !isB t.f0 l1) with
    | false =>
      cases fa : isB a0_4 l1 with
      | false =>
        exact ready_2_1 a0_0 a0_1 A0_2 c0_2 l0_2 a0_3 a0_4 a0_5 a0_6 a0_7 a0_8 a0_9 a0_10 a0_11 a0_12 a0_13 a0_14 a0_15 A0_16 c0_16 l0_16 A1 c1 l1 w hr0_2 hc0_2 hr0_16 hc0_16 hr1 hc1 k2 fy fa
      | true =>
        cases fb : isB a0_8 l1 with
        | false =>
          exact ready_2_2 a0_0 a0_1 A0_2 c0_2 l0_2 a0_3 a0_4 a0_5 a0_6 a0_7 a0_8 a0_9 a0_10 a0_11 a0_12 a0_13 a0_14 a0_15 A0_16 c0_16 l0_16 A1 c1 l1 w hr0_2 hc0_2 hr0_16 hc0_16 hr1 hc1 k2 fy fa fb
        | true =>
          cases fc : isB a0_12 l1 with
          | false =>
            exact ready_2_3 a0_0 a0_1 A0_2 c0_2 l0_2 a0_3 a0_4 a0_5 a0_6 a0_7 a0_8 a0_9 a0_10 a0_11 a0_12 a0_13 a0_14 a0_15 A0_16 c0_16 l0_16 A1 c1 l1 w hr0_2 hc0_2 hr0_16 hc0_16 hr1 hc1 k2 fy fa fb fc
          | true =>
            exact ready_2_4 a0_0 a0_1 A0_2 c0_2 l0_2 a0_3 a0_4 a0_5 a0_6 a0_7 a0_8 a0_9 a0_10 a0_11 a0_12 a0_13 a0_14 a0_15 A0_16 c0_16 l0_16 A1 c1 l1 w hr0_2 hc0_2 hr0_16 hc0_16 hr1 hc1 k2 fy fa fb fc
    | true =>
      exact ready_2_0 a0_0 a0_1 A0_2 c0_2 l0_2 a0_3 a0_4 a0_5 a0_6 a0_7 a0_8 a0_9 a0_10 a0_11 a0_12 a0_13 a0_14 a0_15 A0_16 c0_16 l0_16 A1 c1 l1 w hr0_2 hc0_2 hr0_16 hc0_16 hr1 hc1 k2 fy
  rcases Classical.em (a0_0 = 3) with k3 | k3
  · cases fa : isB a0_4 l1 with
    | false =>
      cases fb : isB a0_8 l1 with
      | false =>
        cases fe : (a0_3.toList == ([61] : List UInt8)) with
        | false =>
          exact ready_3_6 a0_0 a0_1 A0_2 c0_2 l0_2 a0_3 a0_4 a0_5 a0_6 a0_7 a0_8 a0_9 a0_10 a0_11 a0_12 a0_13 a0_14 a0_15 A0_16 c0_16 l0_16 A1 c1 l1 w hr0_2 hc0_2 hr0_16 hc0_16 hr1 hc1 k3 fa fb fe
        | true =>
          exact ready_3_4 a0_0 a0_1 A0_2 c0_2 l0_2 a0_3 a0_4 a0_5 a0_6 a0_7 a0_8 a0_9 a0_10 a0_11 a0_12 a0_13 a0_14 a0_15 A0_16 c0_16 l0_16 A1 c1 l1 w hr0_2 hc0_2 hr0_16 hc0_16 hr1 hc1 k3 fa fb fe
      | true =>
        cases fe : (a0_3.toList == ([61] : List UInt8)) with
        | false =>
          exact ready_3_5 a0_0 a0_1 A0_2 c0_2 l0_2 a0_3 a0_4 a0_5 a0_6 a0_7 a0_8 a0_9 a0_10 a0_11 a0_12 a0_13 a0_14 a0_15 A0_16 c0_16 l0_16 A1 c1 l1 w hr0_2 hc0_2 hr0_16 hc0_16 hr1 hc1 k3 fa fb fe
        | true =>
          exact ready_3_3 a0_0 a0_1 A0_2 c0_2 l0_2 a0_3 a0_4 a0_5 a0_6 a0_7 a0_8 a0_9 a0_10 a0_11 a0_12 a0_13 a0_14 a0_15 A0_16 c0_16 l0_16 A1 c1 l1 w hr0_2 hc0_2 hr0_16 hc0_16 hr1 hc1 k3 fa fb fe
    | true =>
      cases fb : isB a0_8 l1 with
      | false =>
        cases fe : (a0_3.toList == ([61] : List UInt8)) with
        | false =>
          exact ready_3_2 a0_0 a0_1 A0_2 c0_2 l0_2 a0_3 a0_4 a0_5 a0_6 a0_7 a0_8 a0_9 a0_10 a0_11 a0_12 a0_13 a0_14 a0_15 A0_16 c0_16 l0_16 A1 c1 l1 w hr0_2 hc0_2 hr0_16 hc0_16 hr1 hc1 k3 fa fb fe
        | true =>
          exact ready_3_1 a0_0 a0_1 A0_2 c0_2 l0_2 a0_3 a0_4 a0_5 a0_6 a0_7 a0_8 a0_9 a0_10 a0_11 a0_12 a0_13 a0_14 a0_15 A0_16 c0_16 l0_16 A1 c1 l1 w hr0_2 hc0_2 hr0_16 hc0_16 hr1 hc1 k3 fa fb fe
      | true =>
        exact ready_3_0 a0_0 a0_1 A0_2 c0_2 l0_2 a0_3 a0_4 a0_5 a0_6 a0_7 a0_8 a0_9 a0_10 a0_11 a0_12 a0_13 a0_14 a0_15 A0_16 c0_16 l0_16 A1 c1 l1 w hr0_2 hc0_2 hr0_16 hc0_16 hr1 hc1 k3 fa fb
  rcases Classical.em (a0_0 = 4) with k4 | k4
  · cases fb : isB a0_8 l1 with
    | false =>
      exact ready_4_2 a0_0 a0_1 A0_2 c0_2 l0_2 a0_3 a0_4 a0_5 a0_6 a0_7 a0_8 a0_9 a0_10 a0_11 a0_12 a0_13 a0_14 a0_15 A0_16 c0_16 l0_16 A1 c1 l1 w hr0_2 hc0_2 hr0_16 hc0_16 hr1 hc1 k4 fb
    | true =>
      cases fc : isB a0_12 l1 with
      | false =>
        exact ready_4_1 a0_0 a0_1 A0_2 c0_2 l0_2 a0_3 a0_4 a0_5 a0_6 a0_7 a0_8 a0_9 a0_10 a0_11 a0_12 a0_13 a0_14 a0_15 A0_16 c0_16 l0_16 A1 c1 l1 w hr0_2 hc0_2 hr0_16 hc0_16 hr1 hc1 k4 fb fc
      | true =>
        exact ready_4_0 a0_0 a0_1 A0_2 c0_2 l0_2 a0_3 a0_4 a0_5 a0_6 a0_7 a0_8 a0_9 a0_10 a0_11 a0_12 a0_13 a0_14 a0_15 A0_16 c0_16 l0_16 A1 c1 l1 w hr0_2 hc0_2 hr0_16 hc0_16 hr1 hc1 k4 fb fc
  exact ready_other a0_0 a0_1 A0_2 c0_2 l0_2 a0_3 a0_4 a0_5 a0_6 a0_7 a0_8 a0_9 a0_10 a0_11 a0_12 a0_13 a0_14 a0_15 A0_16 c0_16 l0_16 A1 c1 l1 w hr0_2 hc0_2 hr0_16 hc0_16 hr1 hc1 (beq_eq_false_iff_ne.mpr k2) (beq_eq_false_iff_ne.mpr k3) (beq_eq_false_iff_ne.mpr k4)
end Go.Proofs.Ytmgbfgloegcloaa.Ps
