/- awake. No condition. -/
import Derived.Test.YtcoidmkaddnkdaaP8
import Derived.Deep.RegionHeld3
namespace Go.Proofs.Ytcoidmkaddnkdaa
open Go.RowKit AnteFlo AnteVal AnteOps
set_option linter.unusedVariables false

theorem below_box {w W : World} (h : Below w.heap.size w W) (o : Obj) : Below w.heap.size w (W.alloc o) := h.alloc h.size o
theorem cell_box {W : World} {a : Addr} {v : Value} (h : W.cell? a = some v) (o : Obj) : (W.alloc o).cell? a = some v := cell_keep h (below1 W o)

theorem rk23 (w : World) : Calls Try.prog 10 #[.string ⟨#[43]⟩, .agg #[.int .i64 1, .int .i64 2, .string ⟨#[]⟩], .agg #[.int .i64 1, .int .i64 3, .string ⟨#[]⟩]] w fun e w' =>
    e = .returned (.tuple #[.agg #[.int .i64 1, .int .i64 5, .string ⟨#[]⟩], .int .i64 0]) ∧ Below w.heap.size w w' :=
  reckon_whole rfl (by unfold I64; omega) (by unfold I64; omega) w
theorem rkbig (w : World) : Calls Try.prog 10 #[.string ⟨#[42]⟩, .agg #[.int .i64 1, .int .i64 4611686018427387904, .string ⟨#[]⟩], .agg #[.int .i64 1, .int .i64 2, .string ⟨#[]⟩]] w fun e w' =>
    e = .returned (.tuple #[.agg #[.int .i64 0, .int .i64 0, .string ⟨#[]⟩], .int .i64 10]) ∧ Below w.heap.size w w' :=
  reckon_whole rfl (by unfold I64; omega) (by unfold I64; omega) w
theorem hold12 (w : World) : Calls Try.prog 12 #[.string ⟨#[60]⟩, .agg #[.int .i64 1, .int .i64 1, .string ⟨#[]⟩], .agg #[.int .i64 1, .int .i64 2, .string ⟨#[]⟩]] w fun e w' =>
    e = .returned (.bool true) ∧ Below w.heap.size w w' := by
  have := hold_any ⟨#[60]⟩ (vw 1) (vw 2) w
  rw [show hold ⟨#[60]⟩ (vw 1) (vw 2) = true by decide +kernel] at this
  exact this

theorem awake_any (w : World) : Calls Try.prog 9 #[] w fun e w' => e = .returned (.bool true) ∧ Below w.heap.size w w' := by
  go_enter Try.func9, Try.ntmps9
  have HB : Hid (Below w.heap.size w w) := Below.refl _ _
  go_wp2_with fail
  refine (whole_any 2 _).mono ?_; rintro e W1 ⟨rfl, hb⟩
  replace HB := Lib.hid (below_next HB.out hb)
  clear hb
  go_wp2_with fail
  refine (whole_any 3 _).mono ?_; rintro e W2 ⟨rfl, hb⟩
  replace HB := Lib.hid (below_next HB.out hb)
  clear hb
  go_wp2_with fail
  refine (rk23 _).mono ?_; rintro e W3 ⟨rfl, hb⟩
  replace HB := Lib.hid (below_next HB.out hb)
  clear hb
  go_wp2_with fail
  have v0 : (W3.alloc (.cells #[.int .i64 1, .int .i64 5, .string ⟨#[]⟩] 23)).cell? ⟨W3.heap.size, 0, none⟩ = some (.int .i64 1) := by simp [go_sem]
  have v1 : (W3.alloc (.cells #[.int .i64 1, .int .i64 5, .string ⟨#[]⟩] 23)).cell? ⟨W3.heap.size, 1, none⟩ = some (.int .i64 5) := by simp [go_sem]
  have v2 : (W3.alloc (.cells #[.int .i64 1, .int .i64 5, .string ⟨#[]⟩] 23)).cell? ⟨W3.heap.size, 2, none⟩ = some (.string ⟨#[]⟩) := by simp [go_sem]
  replace HB := Lib.hid (below_box HB.out (.cells #[.int .i64 1, .int .i64 5, .string ⟨#[]⟩] 23))
  generalize (W3.alloc (.cells #[.int .i64 1, .int .i64 5, .string ⟨#[]⟩] 23)) = W4 at *
  generalize W3.heap.size = pv at *
  go_wp2_with fail
  refine (whole_any 4611686018427387904 _).mono ?_; rintro e W5 ⟨rfl, hb⟩
  replace HB := Lib.hid (below_next HB.out hb)
  replace v0 := cell_keep v0 hb
  replace v1 := cell_keep v1 hb
  replace v2 := cell_keep v2 hb
  clear hb
  go_wp2_with fail
  refine (whole_any 2 _).mono ?_; rintro e W6 ⟨rfl, hb⟩
  replace HB := Lib.hid (below_next HB.out hb)
  replace v0 := cell_keep v0 hb
  replace v1 := cell_keep v1 hb
  replace v2 := cell_keep v2 hb
  clear hb
  go_wp2_with fail
  refine (rkbig _).mono ?_; rintro e W7 ⟨rfl, hb⟩
  replace HB := Lib.hid (below_next HB.out hb)
  replace v0 := cell_keep v0 hb
  replace v1 := cell_keep v1 hb
  replace v2 := cell_keep v2 hb
  clear hb
  go_wp2_with fail
  have x0 : (W7.alloc (.cells #[.int .i64 0, .int .i64 0, .string ⟨#[]⟩] 23)).cell? ⟨W7.heap.size, 0, none⟩ = some (.int .i64 0) := by simp [go_sem]
  have x1 : (W7.alloc (.cells #[.int .i64 0, .int .i64 0, .string ⟨#[]⟩] 23)).cell? ⟨W7.heap.size, 1, none⟩ = some (.int .i64 0) := by simp [go_sem]
  have x2 : (W7.alloc (.cells #[.int .i64 0, .int .i64 0, .string ⟨#[]⟩] 23)).cell? ⟨W7.heap.size, 2, none⟩ = some (.string ⟨#[]⟩) := by simp [go_sem]
  replace HB := Lib.hid (below_box HB.out (.cells #[.int .i64 0, .int .i64 0, .string ⟨#[]⟩] 23))
  replace v0 := cell_box v0 (.cells #[.int .i64 0, .int .i64 0, .string ⟨#[]⟩] 23)
  replace v1 := cell_box v1 (.cells #[.int .i64 0, .int .i64 0, .string ⟨#[]⟩] 23)
  replace v2 := cell_box v2 (.cells #[.int .i64 0, .int .i64 0, .string ⟨#[]⟩] 23)
  generalize (W7.alloc (.cells #[.int .i64 0, .int .i64 0, .string ⟨#[]⟩] 23)) = W8 at *
  generalize W7.heap.size = px at *
  have hB := HB.out
  go_region_held3 (fun w' => w'.cell? ⟨pv, 0, none⟩ = some (.int .i64 1) ∧ w'.cell? ⟨pv, 1, none⟩ = some (.int .i64 5) ∧ w'.cell? ⟨pv, 2, none⟩ = some (.string ⟨#[]⟩) ∧ Below w.heap.size w w') (first | assumption | (go_split_ands; (repeat' apply And.intro); (all_goals first | assumption | exact cell_keep (by assumption) hb | exact below_next (by assumption) hb | exact Below.drew (by assumption)))) (first | (go_at_call 14; refine (whole_any _ _).mono ?_; rintro e w' ⟨rfl, hb⟩) | (go_at_call 12; refine (hold12 _).mono ?_; rintro e w' ⟨rfl, hb⟩))
  all_goals
    go_split_ands
    go_wp2_with fail
    go_ret
    exact ⟨rfl, by assumption⟩

end Go.Proofs.Ytcoidmkaddnkdaa
