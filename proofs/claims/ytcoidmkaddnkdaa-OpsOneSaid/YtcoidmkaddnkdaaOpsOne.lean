/- THE LAW OpsOne: whatever the arguments, the call returns true, and they read as they did. No condition. -/
import Derived.Test.YtcoidmkaddnkdaaRows
import Derived.Test.YtcoidmkaddnkdaaQ2
import Derived.Test.YtcoidmkaddnkdaaKit
import Derived.Lib.SmallJoins
namespace Go.Proofs.Ytcoidmkaddnkdaa.opsOne
open Go.ChangeShapes Go.WideShapes Go.ChangeAt Go.RowKit AnteFlo AnteVal AnteOps
set_option linter.unusedVariables false

theorem eqf (k n k' n' : Int) (s s' : ByteArray) (h : ¬ (k = k' ∧ n = n' ∧ s.toList = s'.toList)) (w : World) : (binOp .eql 23 (.agg #[.int .i64 k, .int .i64 n, .string s]) (.agg #[.int .i64 k', .int .i64 n', .string s'])).run Try.prog w = .ok (.bool false) w := by
  go_simp
  by_cases h1 : k = k' <;> by_cases h2 : n = n' <;> by_cases h3 : s.toList = s'.toList <;> simp_all
theorem hlt (a b : V) : hold ⟨#[60]⟩ a b = decide (vcmp a b < 0) := by unfold hold; rw [if_pos (by decide +kernel)]
theorem hle (a b : V) : hold ⟨#[60, 61]⟩ a b = decide (vcmp a b ≤ 0) := by unfold hold; rw [if_neg (by decide +kernel), if_pos (by decide +kernel)]
theorem heq (a b : V) : hold ⟨#[61]⟩ a b = (vcmp a b == 0) := by unfold hold; rw [if_neg (by decide +kernel), if_neg (by decide +kernel), if_pos (by decide +kernel)]
theorem hne (a b : V) : hold ⟨#[33, 61]⟩ a b = (vcmp a b != 0) := by unfold hold; rw [if_neg (by decide +kernel), if_neg (by decide +kernel), if_neg (by decide +kernel), if_pos (by decide +kernel)]
theorem hgt (a b : V) : hold ⟨#[62]⟩ a b = false := by unfold hold; rw [if_neg (by decide +kernel), if_neg (by decide +kernel), if_neg (by decide +kernel), if_neg (by decide +kernel)]
theorem hno (a b : V) : hold ⟨#[]⟩ a b = false := by unfold hold; rw [if_neg (by decide +kernel), if_neg (by decide +kernel), if_neg (by decide +kernel), if_neg (by decide +kernel)]
set_option maxHeartbeats 4000000 in
theorem less_ (k n : Int) (s : ByteArray) (k' n' : Int) (s' : ByteArray)
    (h1 : ∀ w, Calls Try.prog 12 #[.string ⟨#[60]⟩, .agg #[.int .i64 k, .int .i64 n, .string s], .agg #[.int .i64 k', .int .i64 n', .string s']] w fun e w' => e = .returned (.bool true) ∧ Below w.heap.size w w')
    (h2 : ∀ w, Calls Try.prog 12 #[.string ⟨#[61]⟩, .agg #[.int .i64 k, .int .i64 n, .string s], .agg #[.int .i64 k', .int .i64 n', .string s']] w fun e w' => e = .returned (.bool false) ∧ Below w.heap.size w w')
    (h3 : ∀ w, Calls Try.prog 12 #[.string ⟨#[60]⟩, .agg #[.int .i64 k', .int .i64 n', .string s'], .agg #[.int .i64 k, .int .i64 n, .string s]] w fun e w' => e = .returned (.bool false) ∧ Below w.heap.size w w')
    (h4 : ∀ w, Calls Try.prog 12 #[.string ⟨#[60, 61]⟩, .agg #[.int .i64 k, .int .i64 n, .string s], .agg #[.int .i64 k', .int .i64 n', .string s']] w fun e w' => e = .returned (.bool true) ∧ Below w.heap.size w w')
    (h5 : ∀ w, Calls Try.prog 12 #[.string ⟨#[33, 61]⟩, .agg #[.int .i64 k, .int .i64 n, .string s], .agg #[.int .i64 k', .int .i64 n', .string s']] w fun e w' => e = .returned (.bool true) ∧ Below w.heap.size w w')
    (h6 : ∀ w, Calls Try.prog 12 #[.string ⟨#[62]⟩, .agg #[.int .i64 k, .int .i64 n, .string s], .agg #[.int .i64 k', .int .i64 n', .string s']] w fun e w' => e = .returned (.bool false) ∧ Below w.heap.size w w')
    (h7 : ∀ w, Calls Try.prog 12 #[.string ⟨#[]⟩, .agg #[.int .i64 k, .int .i64 n, .string s], .agg #[.int .i64 k', .int .i64 n', .string s']] w fun e w' => e = .returned (.bool false) ∧ Below w.heap.size w w')
    (q : ∀ w, (binOp .eql 23 (.agg #[.int .i64 k, .int .i64 n, .string s]) (.agg #[.int .i64 k', .int .i64 n', .string s'])).run Try.prog w = .ok (.bool false) w) (w : World) :
    Calls Try.prog 7 #[.agg #[.int .i64 k, .int .i64 n, .string s], .agg #[.int .i64 k', .int .i64 n', .string s']] w fun e w' => e = .returned (.bool true) ∧ Below w.heap.size w w' := by
  have H1 := Lib.hid h1
  have H2 := Lib.hid h2
  have H3 := Lib.hid h3
  have H4 := Lib.hid h4
  have H5 := Lib.hid h5
  have H6 := Lib.hid h6
  have H7 := Lib.hid h7
  have Q := Lib.hid q
  clear h1 h2 h3 h4 h5 h6 h7 q
  go_enter Try.func7, Try.ntmps7
  go_wp2_with fail
  have c0 : ((w.alloc (.cells #[.int .i64 k, .int .i64 n, .string s] 23)).alloc (.cells #[.int .i64 k', .int .i64 n', .string s'] 23)).cell? ⟨w.heap.size, 0, none⟩ = some (.int .i64 k) := by simp [go_sem]
  have c1 : ((w.alloc (.cells #[.int .i64 k, .int .i64 n, .string s] 23)).alloc (.cells #[.int .i64 k', .int .i64 n', .string s'] 23)).cell? ⟨w.heap.size, 1, none⟩ = some (.int .i64 n) := by simp [go_sem]
  have c2 : ((w.alloc (.cells #[.int .i64 k, .int .i64 n, .string s] 23)).alloc (.cells #[.int .i64 k', .int .i64 n', .string s'] 23)).cell? ⟨w.heap.size, 2, none⟩ = some (.string s) := by simp [go_sem]
  have d0 : ((w.alloc (.cells #[.int .i64 k, .int .i64 n, .string s] 23)).alloc (.cells #[.int .i64 k', .int .i64 n', .string s'] 23)).cell? ⟨w.heap.size + 1, 0, none⟩ = some (.int .i64 k') := by simp [go_sem]
  have d1 : ((w.alloc (.cells #[.int .i64 k, .int .i64 n, .string s] 23)).alloc (.cells #[.int .i64 k', .int .i64 n', .string s'] 23)).cell? ⟨w.heap.size + 1, 1, none⟩ = some (.int .i64 n') := by simp [go_sem]
  have d2 : ((w.alloc (.cells #[.int .i64 k, .int .i64 n, .string s] 23)).alloc (.cells #[.int .i64 k', .int .i64 n', .string s'] 23)).cell? ⟨w.heap.size + 1, 2, none⟩ = some (.string s') := by simp [go_sem]
  have HB : Hid (Below w.heap.size w ((w.alloc (.cells #[.int .i64 k, .int .i64 n, .string s] 23)).alloc (.cells #[.int .i64 k', .int .i64 n', .string s'] 23))) := below2 w _ _
  generalize ((w.alloc (.cells #[.int .i64 k, .int .i64 n, .string s] 23)).alloc (.cells #[.int .i64 k', .int .i64 n', .string s'] 23)) = W1 at *
  go_wp2_with fail
  refine (awake_any _).mono ?_; rintro e W2 ⟨rfl, hb⟩
  replace HB := Lib.hid (below_next HB.out hb)
  replace c0 := cell_keep c0 hb
  replace c1 := cell_keep c1 hb
  replace c2 := cell_keep c2 hb
  replace d0 := cell_keep d0 hb
  replace d1 := cell_keep d1 hb
  replace d2 := cell_keep d2 hb
  clear hb
  go_wp2_with fail
  have hB := HB.out
  go_region_held3 (fun w' => w'.cell? ⟨w.heap.size, 0, none⟩ = some (.int .i64 k) ∧ w'.cell? ⟨w.heap.size, 1, none⟩ = some (.int .i64 n) ∧ w'.cell? ⟨w.heap.size, 2, none⟩ = some (.string s) ∧ w'.cell? ⟨w.heap.size + 1, 0, none⟩ = some (.int .i64 k') ∧ w'.cell? ⟨w.heap.size + 1, 1, none⟩ = some (.int .i64 n') ∧ w'.cell? ⟨w.heap.size + 1, 2, none⟩ = some (.string s') ∧ Below w.heap.size w w') (first | assumption | (go_split_ands; (repeat' apply And.intro); (all_goals first | assumption | exact cell_keep (by assumption) hb | exact below_next (by assumption) hb | exact Below.drew (by assumption)))) (first | (go_at_call 12; with_reducible refine (H1.out _).mono ?_; rintro e w' ⟨rfl, hb⟩) | (go_at_call 12; with_reducible refine (H2.out _).mono ?_; rintro e w' ⟨rfl, hb⟩) | (go_at_call 12; with_reducible refine (H3.out _).mono ?_; rintro e w' ⟨rfl, hb⟩))
  all_goals
    clear c0 c1 c2 d0 d1 d2 HB hB
    have hh := ‹_ ∧ _ ∧ _ ∧ _ ∧ _ ∧ _ ∧ Below w.heap.size w _›
    obtain ⟨c0, c1, c2, d0, d1, d2, hB⟩ := hh
    have HB := Lib.hid hB
    clear hB
    replace c0 := cell_box c0 (.cells #[.bool true, .bool false, .bool false] 4)
    replace c1 := cell_box c1 (.cells #[.bool true, .bool false, .bool false] 4)
    replace c2 := cell_box c2 (.cells #[.bool true, .bool false, .bool false] 4)
    replace d0 := cell_box d0 (.cells #[.bool true, .bool false, .bool false] 4)
    replace d1 := cell_box d1 (.cells #[.bool true, .bool false, .bool false] 4)
    replace d2 := cell_box d2 (.cells #[.bool true, .bool false, .bool false] 4)
    replace HB := Lib.hid (below_box HB.out (.cells #[.bool true, .bool false, .bool false] 4))
    go_wp2_with fail
    refine wp_loop_rounds 4 ?_
    repeat any_goals (rw [rounds_succ]; go_wp2_with fail)
    go_wp2_with fail
    refine (H4.out _).mono ?_; rintro e W3 ⟨rfl, hb⟩
    replace HB := Lib.hid (below_next HB.out hb)
    replace c0 := cell_keep c0 hb
    replace c1 := cell_keep c1 hb
    replace c2 := cell_keep c2 hb
    replace d0 := cell_keep d0 hb
    replace d1 := cell_keep d1 hb
    replace d2 := cell_keep d2 hb
    clear hb
    go_wp2_with fail
    refine (H5.out _).mono ?_; rintro e W4 ⟨rfl, hb⟩
    replace HB := Lib.hid (below_next HB.out hb)
    replace c0 := cell_keep c0 hb
    replace c1 := cell_keep c1 hb
    replace c2 := cell_keep c2 hb
    replace d0 := cell_keep d0 hb
    replace d1 := cell_keep d1 hb
    replace d2 := cell_keep d2 hb
    clear hb
    have q := Q.out
    go_wp2_with fail
    refine (H6.out _).mono ?_; rintro e W5 ⟨rfl, hb⟩
    replace HB := Lib.hid (below_next HB.out hb)
    replace c0 := cell_keep c0 hb
    replace c1 := cell_keep c1 hb
    replace c2 := cell_keep c2 hb
    replace d0 := cell_keep d0 hb
    replace d1 := cell_keep d1 hb
    replace d2 := cell_keep d2 hb
    clear hb
    go_wp2_with fail
    refine (H7.out _).mono ?_; rintro e W6 ⟨rfl, hb⟩
    replace HB := Lib.hid (below_next HB.out hb)
    replace c0 := cell_keep c0 hb
    replace c1 := cell_keep c1 hb
    replace c2 := cell_keep c2 hb
    replace d0 := cell_keep d0 hb
    replace d1 := cell_keep d1 hb
    replace d2 := cell_keep d2 hb
    clear hb
    go_wp2_with fail
    go_ret
    exact ⟨ret_bool (by simp), HB.out⟩

set_option maxHeartbeats 4000000 in
theorem same_ (k n : Int) (s : ByteArray) 
    (h1 : ∀ w, Calls Try.prog 12 #[.string ⟨#[60]⟩, .agg #[.int .i64 k, .int .i64 n, .string s], .agg #[.int .i64 k, .int .i64 n, .string s]] w fun e w' => e = .returned (.bool false) ∧ Below w.heap.size w w')
    (h2 : ∀ w, Calls Try.prog 12 #[.string ⟨#[61]⟩, .agg #[.int .i64 k, .int .i64 n, .string s], .agg #[.int .i64 k, .int .i64 n, .string s]] w fun e w' => e = .returned (.bool true) ∧ Below w.heap.size w w')
    (h3 : ∀ w, Calls Try.prog 12 #[.string ⟨#[60]⟩, .agg #[.int .i64 k, .int .i64 n, .string s], .agg #[.int .i64 k, .int .i64 n, .string s]] w fun e w' => e = .returned (.bool false) ∧ Below w.heap.size w w')
    (h4 : ∀ w, Calls Try.prog 12 #[.string ⟨#[60, 61]⟩, .agg #[.int .i64 k, .int .i64 n, .string s], .agg #[.int .i64 k, .int .i64 n, .string s]] w fun e w' => e = .returned (.bool true) ∧ Below w.heap.size w w')
    (h5 : ∀ w, Calls Try.prog 12 #[.string ⟨#[33, 61]⟩, .agg #[.int .i64 k, .int .i64 n, .string s], .agg #[.int .i64 k, .int .i64 n, .string s]] w fun e w' => e = .returned (.bool false) ∧ Below w.heap.size w w')
    (h6 : ∀ w, Calls Try.prog 12 #[.string ⟨#[62]⟩, .agg #[.int .i64 k, .int .i64 n, .string s], .agg #[.int .i64 k, .int .i64 n, .string s]] w fun e w' => e = .returned (.bool false) ∧ Below w.heap.size w w')
    (h7 : ∀ w, Calls Try.prog 12 #[.string ⟨#[]⟩, .agg #[.int .i64 k, .int .i64 n, .string s], .agg #[.int .i64 k, .int .i64 n, .string s]] w fun e w' => e = .returned (.bool false) ∧ Below w.heap.size w w')
    (q : ∀ w, (binOp .eql 23 (.agg #[.int .i64 k, .int .i64 n, .string s]) (.agg #[.int .i64 k, .int .i64 n, .string s])).run Try.prog w = .ok (.bool true) w) (w : World) :
    Calls Try.prog 7 #[.agg #[.int .i64 k, .int .i64 n, .string s], .agg #[.int .i64 k, .int .i64 n, .string s]] w fun e w' => e = .returned (.bool true) ∧ Below w.heap.size w w' := by
  have H1 := Lib.hid h1
  have H2 := Lib.hid h2
  have H3 := Lib.hid h3
  have H4 := Lib.hid h4
  have H5 := Lib.hid h5
  have H6 := Lib.hid h6
  have H7 := Lib.hid h7
  have Q := Lib.hid q
  clear h1 h2 h3 h4 h5 h6 h7 q
  go_enter Try.func7, Try.ntmps7
  go_wp2_with fail
  have c0 : ((w.alloc (.cells #[.int .i64 k, .int .i64 n, .string s] 23)).alloc (.cells #[.int .i64 k, .int .i64 n, .string s] 23)).cell? ⟨w.heap.size, 0, none⟩ = some (.int .i64 k) := by simp [go_sem]
  have c1 : ((w.alloc (.cells #[.int .i64 k, .int .i64 n, .string s] 23)).alloc (.cells #[.int .i64 k, .int .i64 n, .string s] 23)).cell? ⟨w.heap.size, 1, none⟩ = some (.int .i64 n) := by simp [go_sem]
  have c2 : ((w.alloc (.cells #[.int .i64 k, .int .i64 n, .string s] 23)).alloc (.cells #[.int .i64 k, .int .i64 n, .string s] 23)).cell? ⟨w.heap.size, 2, none⟩ = some (.string s) := by simp [go_sem]
  have d0 : ((w.alloc (.cells #[.int .i64 k, .int .i64 n, .string s] 23)).alloc (.cells #[.int .i64 k, .int .i64 n, .string s] 23)).cell? ⟨w.heap.size + 1, 0, none⟩ = some (.int .i64 k) := by simp [go_sem]
  have d1 : ((w.alloc (.cells #[.int .i64 k, .int .i64 n, .string s] 23)).alloc (.cells #[.int .i64 k, .int .i64 n, .string s] 23)).cell? ⟨w.heap.size + 1, 1, none⟩ = some (.int .i64 n) := by simp [go_sem]
  have d2 : ((w.alloc (.cells #[.int .i64 k, .int .i64 n, .string s] 23)).alloc (.cells #[.int .i64 k, .int .i64 n, .string s] 23)).cell? ⟨w.heap.size + 1, 2, none⟩ = some (.string s) := by simp [go_sem]
  have HB : Hid (Below w.heap.size w ((w.alloc (.cells #[.int .i64 k, .int .i64 n, .string s] 23)).alloc (.cells #[.int .i64 k, .int .i64 n, .string s] 23))) := below2 w _ _
  generalize ((w.alloc (.cells #[.int .i64 k, .int .i64 n, .string s] 23)).alloc (.cells #[.int .i64 k, .int .i64 n, .string s] 23)) = W1 at *
  go_wp2_with fail
  refine (awake_any _).mono ?_; rintro e W2 ⟨rfl, hb⟩
  replace HB := Lib.hid (below_next HB.out hb)
  replace c0 := cell_keep c0 hb
  replace c1 := cell_keep c1 hb
  replace c2 := cell_keep c2 hb
  replace d0 := cell_keep d0 hb
  replace d1 := cell_keep d1 hb
  replace d2 := cell_keep d2 hb
  clear hb
  go_wp2_with fail
  have hB := HB.out
  go_region_held3 (fun w' => w'.cell? ⟨w.heap.size, 0, none⟩ = some (.int .i64 k) ∧ w'.cell? ⟨w.heap.size, 1, none⟩ = some (.int .i64 n) ∧ w'.cell? ⟨w.heap.size, 2, none⟩ = some (.string s) ∧ w'.cell? ⟨w.heap.size + 1, 0, none⟩ = some (.int .i64 k) ∧ w'.cell? ⟨w.heap.size + 1, 1, none⟩ = some (.int .i64 n) ∧ w'.cell? ⟨w.heap.size + 1, 2, none⟩ = some (.string s) ∧ Below w.heap.size w w') (first | assumption | (go_split_ands; (repeat' apply And.intro); (all_goals first | assumption | exact cell_keep (by assumption) hb | exact below_next (by assumption) hb | exact Below.drew (by assumption)))) (first | (go_at_call 12; with_reducible refine (H1.out _).mono ?_; rintro e w' ⟨rfl, hb⟩) | (go_at_call 12; with_reducible refine (H2.out _).mono ?_; rintro e w' ⟨rfl, hb⟩) | (go_at_call 12; with_reducible refine (H3.out _).mono ?_; rintro e w' ⟨rfl, hb⟩))
  all_goals
    clear c0 c1 c2 d0 d1 d2 HB hB
    have hh := ‹_ ∧ _ ∧ _ ∧ _ ∧ _ ∧ _ ∧ Below w.heap.size w _›
    obtain ⟨c0, c1, c2, d0, d1, d2, hB⟩ := hh
    have HB := Lib.hid hB
    clear hB
    replace c0 := cell_box c0 (.cells #[.bool false, .bool true, .bool false] 4)
    replace c1 := cell_box c1 (.cells #[.bool false, .bool true, .bool false] 4)
    replace c2 := cell_box c2 (.cells #[.bool false, .bool true, .bool false] 4)
    replace d0 := cell_box d0 (.cells #[.bool false, .bool true, .bool false] 4)
    replace d1 := cell_box d1 (.cells #[.bool false, .bool true, .bool false] 4)
    replace d2 := cell_box d2 (.cells #[.bool false, .bool true, .bool false] 4)
    replace HB := Lib.hid (below_box HB.out (.cells #[.bool false, .bool true, .bool false] 4))
    go_wp2_with fail
    refine wp_loop_rounds 4 ?_
    repeat any_goals (rw [rounds_succ]; go_wp2_with fail)
    go_wp2_with fail
    refine (H4.out _).mono ?_; rintro e W3 ⟨rfl, hb⟩
    replace HB := Lib.hid (below_next HB.out hb)
    replace c0 := cell_keep c0 hb
    replace c1 := cell_keep c1 hb
    replace c2 := cell_keep c2 hb
    replace d0 := cell_keep d0 hb
    replace d1 := cell_keep d1 hb
    replace d2 := cell_keep d2 hb
    clear hb
    go_wp2_with fail
    refine (H5.out _).mono ?_; rintro e W4 ⟨rfl, hb⟩
    replace HB := Lib.hid (below_next HB.out hb)
    replace c0 := cell_keep c0 hb
    replace c1 := cell_keep c1 hb
    replace c2 := cell_keep c2 hb
    replace d0 := cell_keep d0 hb
    replace d1 := cell_keep d1 hb
    replace d2 := cell_keep d2 hb
    clear hb
    have q := Q.out
    go_wp2_with fail
    refine (H6.out _).mono ?_; rintro e W5 ⟨rfl, hb⟩
    replace HB := Lib.hid (below_next HB.out hb)
    replace c0 := cell_keep c0 hb
    replace c1 := cell_keep c1 hb
    replace c2 := cell_keep c2 hb
    replace d0 := cell_keep d0 hb
    replace d1 := cell_keep d1 hb
    replace d2 := cell_keep d2 hb
    clear hb
    go_wp2_with fail
    refine (H7.out _).mono ?_; rintro e W6 ⟨rfl, hb⟩
    replace HB := Lib.hid (below_next HB.out hb)
    replace c0 := cell_keep c0 hb
    replace c1 := cell_keep c1 hb
    replace c2 := cell_keep c2 hb
    replace d0 := cell_keep d0 hb
    replace d1 := cell_keep d1 hb
    replace d2 := cell_keep d2 hb
    clear hb
    go_wp2_with fail
    go_ret
    exact ⟨ret_bool (by simp), HB.out⟩

set_option maxHeartbeats 4000000 in
theorem more_ (k n : Int) (s : ByteArray) (k' n' : Int) (s' : ByteArray)
    (h1 : ∀ w, Calls Try.prog 12 #[.string ⟨#[60]⟩, .agg #[.int .i64 k, .int .i64 n, .string s], .agg #[.int .i64 k', .int .i64 n', .string s']] w fun e w' => e = .returned (.bool false) ∧ Below w.heap.size w w')
    (h2 : ∀ w, Calls Try.prog 12 #[.string ⟨#[61]⟩, .agg #[.int .i64 k, .int .i64 n, .string s], .agg #[.int .i64 k', .int .i64 n', .string s']] w fun e w' => e = .returned (.bool false) ∧ Below w.heap.size w w')
    (h3 : ∀ w, Calls Try.prog 12 #[.string ⟨#[60]⟩, .agg #[.int .i64 k', .int .i64 n', .string s'], .agg #[.int .i64 k, .int .i64 n, .string s]] w fun e w' => e = .returned (.bool true) ∧ Below w.heap.size w w')
    (h4 : ∀ w, Calls Try.prog 12 #[.string ⟨#[60, 61]⟩, .agg #[.int .i64 k, .int .i64 n, .string s], .agg #[.int .i64 k', .int .i64 n', .string s']] w fun e w' => e = .returned (.bool false) ∧ Below w.heap.size w w')
    (h5 : ∀ w, Calls Try.prog 12 #[.string ⟨#[33, 61]⟩, .agg #[.int .i64 k, .int .i64 n, .string s], .agg #[.int .i64 k', .int .i64 n', .string s']] w fun e w' => e = .returned (.bool true) ∧ Below w.heap.size w w')
    (h6 : ∀ w, Calls Try.prog 12 #[.string ⟨#[62]⟩, .agg #[.int .i64 k, .int .i64 n, .string s], .agg #[.int .i64 k', .int .i64 n', .string s']] w fun e w' => e = .returned (.bool false) ∧ Below w.heap.size w w')
    (h7 : ∀ w, Calls Try.prog 12 #[.string ⟨#[]⟩, .agg #[.int .i64 k, .int .i64 n, .string s], .agg #[.int .i64 k', .int .i64 n', .string s']] w fun e w' => e = .returned (.bool false) ∧ Below w.heap.size w w')
    (q : ∀ w, (binOp .eql 23 (.agg #[.int .i64 k, .int .i64 n, .string s]) (.agg #[.int .i64 k', .int .i64 n', .string s'])).run Try.prog w = .ok (.bool false) w) (w : World) :
    Calls Try.prog 7 #[.agg #[.int .i64 k, .int .i64 n, .string s], .agg #[.int .i64 k', .int .i64 n', .string s']] w fun e w' => e = .returned (.bool true) ∧ Below w.heap.size w w' := by
  have H1 := Lib.hid h1
  have H2 := Lib.hid h2
  have H3 := Lib.hid h3
  have H4 := Lib.hid h4
  have H5 := Lib.hid h5
  have H6 := Lib.hid h6
  have H7 := Lib.hid h7
  have Q := Lib.hid q
  clear h1 h2 h3 h4 h5 h6 h7 q
  go_enter Try.func7, Try.ntmps7
  go_wp2_with fail
  have c0 : ((w.alloc (.cells #[.int .i64 k, .int .i64 n, .string s] 23)).alloc (.cells #[.int .i64 k', .int .i64 n', .string s'] 23)).cell? ⟨w.heap.size, 0, none⟩ = some (.int .i64 k) := by simp [go_sem]
  have c1 : ((w.alloc (.cells #[.int .i64 k, .int .i64 n, .string s] 23)).alloc (.cells #[.int .i64 k', .int .i64 n', .string s'] 23)).cell? ⟨w.heap.size, 1, none⟩ = some (.int .i64 n) := by simp [go_sem]
  have c2 : ((w.alloc (.cells #[.int .i64 k, .int .i64 n, .string s] 23)).alloc (.cells #[.int .i64 k', .int .i64 n', .string s'] 23)).cell? ⟨w.heap.size, 2, none⟩ = some (.string s) := by simp [go_sem]
  have d0 : ((w.alloc (.cells #[.int .i64 k, .int .i64 n, .string s] 23)).alloc (.cells #[.int .i64 k', .int .i64 n', .string s'] 23)).cell? ⟨w.heap.size + 1, 0, none⟩ = some (.int .i64 k') := by simp [go_sem]
  have d1 : ((w.alloc (.cells #[.int .i64 k, .int .i64 n, .string s] 23)).alloc (.cells #[.int .i64 k', .int .i64 n', .string s'] 23)).cell? ⟨w.heap.size + 1, 1, none⟩ = some (.int .i64 n') := by simp [go_sem]
  have d2 : ((w.alloc (.cells #[.int .i64 k, .int .i64 n, .string s] 23)).alloc (.cells #[.int .i64 k', .int .i64 n', .string s'] 23)).cell? ⟨w.heap.size + 1, 2, none⟩ = some (.string s') := by simp [go_sem]
  have HB : Hid (Below w.heap.size w ((w.alloc (.cells #[.int .i64 k, .int .i64 n, .string s] 23)).alloc (.cells #[.int .i64 k', .int .i64 n', .string s'] 23))) := below2 w _ _
  generalize ((w.alloc (.cells #[.int .i64 k, .int .i64 n, .string s] 23)).alloc (.cells #[.int .i64 k', .int .i64 n', .string s'] 23)) = W1 at *
  go_wp2_with fail
  refine (awake_any _).mono ?_; rintro e W2 ⟨rfl, hb⟩
  replace HB := Lib.hid (below_next HB.out hb)
  replace c0 := cell_keep c0 hb
  replace c1 := cell_keep c1 hb
  replace c2 := cell_keep c2 hb
  replace d0 := cell_keep d0 hb
  replace d1 := cell_keep d1 hb
  replace d2 := cell_keep d2 hb
  clear hb
  go_wp2_with fail
  have hB := HB.out
  go_region_held3 (fun w' => w'.cell? ⟨w.heap.size, 0, none⟩ = some (.int .i64 k) ∧ w'.cell? ⟨w.heap.size, 1, none⟩ = some (.int .i64 n) ∧ w'.cell? ⟨w.heap.size, 2, none⟩ = some (.string s) ∧ w'.cell? ⟨w.heap.size + 1, 0, none⟩ = some (.int .i64 k') ∧ w'.cell? ⟨w.heap.size + 1, 1, none⟩ = some (.int .i64 n') ∧ w'.cell? ⟨w.heap.size + 1, 2, none⟩ = some (.string s') ∧ Below w.heap.size w w') (first | assumption | (go_split_ands; (repeat' apply And.intro); (all_goals first | assumption | exact cell_keep (by assumption) hb | exact below_next (by assumption) hb | exact Below.drew (by assumption)))) (first | (go_at_call 12; with_reducible refine (H1.out _).mono ?_; rintro e w' ⟨rfl, hb⟩) | (go_at_call 12; with_reducible refine (H2.out _).mono ?_; rintro e w' ⟨rfl, hb⟩) | (go_at_call 12; with_reducible refine (H3.out _).mono ?_; rintro e w' ⟨rfl, hb⟩))
  all_goals
    clear c0 c1 c2 d0 d1 d2 HB hB
    have hh := ‹_ ∧ _ ∧ _ ∧ _ ∧ _ ∧ _ ∧ Below w.heap.size w _›
    obtain ⟨c0, c1, c2, d0, d1, d2, hB⟩ := hh
    have HB := Lib.hid hB
    clear hB
    replace c0 := cell_box c0 (.cells #[.bool false, .bool false, .bool true] 4)
    replace c1 := cell_box c1 (.cells #[.bool false, .bool false, .bool true] 4)
    replace c2 := cell_box c2 (.cells #[.bool false, .bool false, .bool true] 4)
    replace d0 := cell_box d0 (.cells #[.bool false, .bool false, .bool true] 4)
    replace d1 := cell_box d1 (.cells #[.bool false, .bool false, .bool true] 4)
    replace d2 := cell_box d2 (.cells #[.bool false, .bool false, .bool true] 4)
    replace HB := Lib.hid (below_box HB.out (.cells #[.bool false, .bool false, .bool true] 4))
    go_wp2_with fail
    refine wp_loop_rounds 4 ?_
    repeat any_goals (rw [rounds_succ]; go_wp2_with fail)
    go_wp2_with fail
    refine (H4.out _).mono ?_; rintro e W3 ⟨rfl, hb⟩
    replace HB := Lib.hid (below_next HB.out hb)
    replace c0 := cell_keep c0 hb
    replace c1 := cell_keep c1 hb
    replace c2 := cell_keep c2 hb
    replace d0 := cell_keep d0 hb
    replace d1 := cell_keep d1 hb
    replace d2 := cell_keep d2 hb
    clear hb
    go_wp2_with fail
    refine (H5.out _).mono ?_; rintro e W4 ⟨rfl, hb⟩
    replace HB := Lib.hid (below_next HB.out hb)
    replace c0 := cell_keep c0 hb
    replace c1 := cell_keep c1 hb
    replace c2 := cell_keep c2 hb
    replace d0 := cell_keep d0 hb
    replace d1 := cell_keep d1 hb
    replace d2 := cell_keep d2 hb
    clear hb
    have q := Q.out
    go_wp2_with fail
    refine (H6.out _).mono ?_; rintro e W5 ⟨rfl, hb⟩
    replace HB := Lib.hid (below_next HB.out hb)
    replace c0 := cell_keep c0 hb
    replace c1 := cell_keep c1 hb
    replace c2 := cell_keep c2 hb
    replace d0 := cell_keep d0 hb
    replace d1 := cell_keep d1 hb
    replace d2 := cell_keep d2 hb
    clear hb
    go_wp2_with fail
    refine (H7.out _).mono ?_; rintro e W6 ⟨rfl, hb⟩
    replace HB := Lib.hid (below_next HB.out hb)
    replace c0 := cell_keep c0 hb
    replace c1 := cell_keep c1 hb
    replace c2 := cell_keep c2 hb
    replace d0 := cell_keep d0 hb
    replace d1 := cell_keep d1 hb
    replace d2 := cell_keep d2 hb
    clear hb
    go_wp2_with fail
    go_ret
    exact ⟨ret_bool (by simp), HB.out⟩

theorem walk (a0 a1 : V) (wk0 : (Lit.int .i64 a0.k).wf = true) (wn0 : (Lit.int .i64 a0.n).wf = true) (ws0 : a0.s.size ≤ maxLen)
    (wk1 : (Lit.int .i64 a1.k).wf = true) (wn1 : (Lit.int .i64 a1.n).wf = true) (ws1 : a1.s.size ≤ maxLen) (w : World) :
    Calls Try.prog 7 #[ev a0, ev a1] w fun e w' => e = .returned (.bool true) ∧ Below w.heap.size w w' := by
  clear wk0 wn0 ws0 wk1 wn1 ws1
  have H : ∀ (op : ByteArray) (x y : V) (b : Bool), hold op x y = b → ∀ w, Calls Try.prog 12 #[.string op, ev x, ev y] w fun e w' => e = .returned (.bool b) ∧ Below w.heap.size w w' := by
    rintro op x y b rfl w; exact hold_any op x y w
  rcases vcmp_cases a0 a1 with ⟨e1, e2⟩ | ⟨e1, rfl⟩ | ⟨e1, e2⟩
  · have hn : ¬ (a0.k = a1.k ∧ a0.n = a1.n ∧ a0.s.toList = a1.s.toList) := by
      rintro ⟨h1, h2, h3⟩
      obtain rfl := V.ext' h1 h2 h3
      omega
    exact less_ a0.k a0.n a0.s a1.k a1.n a1.s (H _ a0 a1 _ (by rw [hlt, e1]; rfl)) (H _ a0 a1 _ (by rw [heq, e1]; rfl)) (H _ a1 a0 _ (by rw [hlt, e2]; rfl)) (H _ a0 a1 _ (by rw [hle, e1]; rfl))
      (H _ a0 a1 _ (by rw [hne, e1]; rfl)) (H _ a0 a1 _ (hgt a0 a1)) (H _ a0 a1 _ (hno a0 a1)) (eqf _ _ _ _ _ _ hn) w
  · exact same_ a0.k a0.n a0.s (H _ a0 a0 _ (by rw [hlt, e1]; rfl)) (H _ a0 a0 _ (by rw [heq, e1]; rfl)) (H _ a0 a0 _ (by rw [hlt, e1]; rfl)) (H _ a0 a0 _ (by rw [hle, e1]; rfl))
      (H _ a0 a0 _ (by rw [hne, e1]; rfl)) (H _ a0 a0 _ (hgt a0 a0)) (H _ a0 a0 _ (hno a0 a0)) (fun w => by go_simp) w
  · have hn : ¬ (a0.k = a1.k ∧ a0.n = a1.n ∧ a0.s.toList = a1.s.toList) := by
      rintro ⟨h1, h2, h3⟩
      obtain rfl := V.ext' h1 h2 h3
      omega
    exact more_ a0.k a0.n a0.s a1.k a1.n a1.s (H _ a0 a1 _ (by rw [hlt, e1]; rfl)) (H _ a0 a1 _ (by rw [heq, e1]; rfl)) (H _ a1 a0 _ (by rw [hlt, e2]; rfl)) (H _ a0 a1 _ (by rw [hle, e1]; rfl))
      (H _ a0 a1 _ (by rw [hne, e1]; rfl)) (H _ a0 a1 _ (hgt a0 a1)) (H _ a0 a1 _ (hno a0 a1)) (eqf _ _ _ _ _ _ hn) w


theorem own : ownKnob Try.prog.godebug = none := by kernel_rfl
theorem laid_out : laidOutB Try.prog = true := by kernel_rfl

set_option maxRecDepth 100000 in
theorem lifted (os : Os) (started : os.Started) (H : Type) (enc : TypeId × Value → H) :
    ReturnsInHanded {} Try.checked os 7 .any (Rows.opsOneSpec.pre6 enc Try.prog Try.f7 Rows.opsOneRow.domain false) (Rows.opsOneSpec.post enc Try.prog Try.f7 false true false false) := by
  refine returnsInHanded_of_change (C := Try.checked) own started (by kernel_rfl) Try.func7
    (ChangeSpec.witness6 (enc := enc) (C := Try.checked) false ⟨#[], #[.agg #[.int .i64 0, .int .i64 0, .string ByteArray.empty], .agg #[.int .i64 0, .int .i64 0, .string ByteArray.empty]], []⟩ 8 (by kernel_rfl) (by kernel_rfl) (by kernel_rfl) (by kernel_rfl)) ?_
  intro W base args ds gs before hval0 hW hcnd _
  have hval : ∀ (j : Nat) t v, Try.f7.params[j]? = some t → args[j]? = some v → Value.okWide Try.prog W .any base t v := hval0
  have hW' := hW
  obtain ⟨p, q, hA0, hV, rfl, hfz, hnd⟩ := hW
  have hA : DataW.TrodAll enc Try.prog W 0 (fun _ => true) true Try.f7.params.toList args.toList ds p := hA0
  rw [Try.params7] at hA hval
  obtain ⟨v0, vs0, d0, ds0, p0, q0, hargs, rfl, rfl, h0, r0⟩ := trodAll_cons hA
  obtain ⟨v1, vs1, d1, ds1, p1, q1, rfl, rfl, rfl, h1, r1⟩ := trodAll_cons r0
  obtain ⟨rfl, rfl, rfl⟩ := trodAll_nil r1
  obtain rfl : args = #[v0, v1] := by cases args; simp_all
  obtain ⟨rfl, rfl⟩ := trodVars_none hV
  obtain ⟨c0, c1, c2, y0, y1, y2, m, rfl, rfl, rfl, hy0, hy1, hy2⟩ := Joins.open_agg3 Try.underlying23 (by kernel_rfl) (by kernel_rfl) (hval 0 23 v0 rfl rfl) h0
  obtain ⟨k0, e0, rfl, wk0⟩ := DataW.trod_int Try.underlying3 hy0
  obtain ⟨n0, e1, rfl, wn0⟩ := DataW.trod_int Try.underlying2 hy1
  obtain ⟨s0, e2, rfl, ws0⟩ := DataW.trod_string Try.underlying9 hy2
  simp at e0 e1 e2
  subst e0 e1 e2
  obtain ⟨c0, c1, c2, y0, y1, y2, m, rfl, rfl, rfl, hy0, hy1, hy2⟩ := Joins.open_agg3 Try.underlying23 (by kernel_rfl) (by kernel_rfl) (hval 1 23 v1 rfl rfl) h1
  obtain ⟨k1, e0, rfl, wk1⟩ := DataW.trod_int Try.underlying3 hy0
  obtain ⟨n1, e1, rfl, wn1⟩ := DataW.trod_int Try.underlying2 hy1
  obtain ⟨s1, e2, rfl, ws1⟩ := DataW.trod_string Try.underlying9 hy2
  simp at e0 e1 e2
  subst e0 e1 e2
  clear hA0 hval0
  refine (walk ⟨k0, n0, s0⟩ ⟨k1, n1, s1⟩ wk0 wn0 ws0 wk1 wn1 ws1 W).mono fun e W' ⟨he, hg⟩ => ?_
  subst he
  exact ⟨_, rfl, LawKit.post_law laid_out (by kernel_rfl) rfl Try.underlying4 rfl hW' ⟨rfl, rfl, rfl⟩ hg⟩

theorem over : Rows.opsOneRow.holds Try.pinned (OpenSpec.ofChange Rows.opsOneSpec) :=
  OpenClaim.holds_of_wide 7 Try.f7 rfl rfl rfl rfl rfl rfl rfl ⟨rfl, rfl, rfl, rfl, rfl⟩ rfl rfl rfl rfl rfl (by kernel_rfl) Try.func7 (by kernel_rfl)
    (of_decide_eq_true (by kernel_rfl)) (by unfold Func.isWrapper; first | (rw [if_pos (by decide +kernel)]; kernel_rfl) | (rw [if_neg (by decide +kernel)]; exact ⟨rfl, rfl⟩))
    (fun os started H enc _ => lifted os started H enc)

/-- THE STATEMENT -/
theorem proved : Rows.OpsOneSaid := over
#print axioms proved
end Go.Proofs.Ytcoidmkaddnkdaa.opsOne
