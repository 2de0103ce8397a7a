/- slices.Repeat OF ONE NUMBER, as chain.match calls it. Condition: at most 1000000 times. -/
import Derived.Test.YtliocmjeglbpiaaGd
import Derived.Test.YtliocmjeglbpiaaShelf
import Derived.Lib.Hide
import Derived.Outline
import Derived.Laws.CopyOwn
import Derived.Laws.MakeOwn
import Derived.Deep.RegionHeld3
import Derived.Deep.DrawnRows
import Derived.IntWalk
namespace Go.Proofs.Ytliocmjeglbpiaa.Ps
open Go.RowKit Go.Proofs.YtliocmjeglbpiaaW.PrintWords Go.Proofs.YtliocmjeglbpiaaW.PrintLast
set_option linter.unusedVariables false

/-- The row behind m cells that have been filled. -/
def fillRow (rest : List Value) (n m : Nat) : List Value := List.replicate m (.int .i64 (-1)) ++ (List.replicate (n - m) (.int .i64 0) ++ rest)
theorem fillRow_length (rest : List Value) (n m : Nat) (h : m ≤ n) : (fillRow rest n m).length = n + rest.length := by simp [fillRow]; omega
def ones (k : Nat) : List Value := List.replicate k (.int .i64 (-1))
theorem ones_length (k : Nat) : (ones k).length = k := by simp [ones]
theorem ones_one (k : Nat) : ∀ v ∈ ones k, v.oneCell' = true := by
  intro v hv
  rw [(List.mem_replicate.1 hv).2]
  rfl
theorem fillRow_get (rest : List Value) (n m j : Nat) (h : j < m) : (fillRow rest n m)[j]? = some (.int .i64 (-1)) := by
  unfold fillRow
  rw [List.getElem?_append_left (by simpa using h)]
  simp [h]
theorem fillRow_splice (rest : List Value) (n m k : Nat) (h : m + k ≤ n) : splice (fillRow rest n m) m (ones k) = fillRow rest n (m + k) := by
  unfold splice fillRow ones
  rw [List.take_left' (by simp), List.length_replicate, List.drop_append, List.length_replicate, List.drop_of_length_le (by simp), List.nil_append, show m + k - m = k by omega, List.drop_append, List.drop_replicate, List.length_replicate, show k - (n - m) = 0 by omega, List.drop_zero, ← List.append_assoc, List.replicate_append_replicate, show n - m - k = n - (m + k) by omega]
theorem fillRow_done (rest : List Value) (n : Nat) : fillRow rest n n = ones n ++ rest := by
  unfold fillRow ones
  rw [Nat.sub_self]; rfl

theorem mul_one_calls (n : Nat) (hn : n < 1000000) (w : World) : Calls Try.prog 43 #[.int .u64 1, .int .u64 n] w fun e w' => e = .returned (.tuple #[.int .u64 0, .int .u64 n]) ∧ w = w' := by
  have h := Try.bits_Mul 1 n (by decide) (by omega) w
  have e1 : (1 * n / 18446744073709551616 : Nat) = 0 := by rw [Nat.one_mul]; exact Nat.div_eq_of_lt (by omega)
  have e2 : (1 * n % 18446744073709551616 : Nat) = n := by rw [Nat.one_mul]; exact Nat.mod_eq_of_lt (by omega)
  rw [e1, e2] at h
  exact h.mono fun e w' ⟨h1, h2⟩ => ⟨h1, h2.symm⟩

theorem made_open {w1 : World} {B n : Nat} {v1 : Value} (ho : Kd.R (Kd.int .i64) 3 w1 B (fun _ => True) v1 (List.replicate n (0 : Int))) :
    ∃ g cap, (v1 = .slice g n cap) ∧ (0 < n → ∃ g', g = some ⟨g', 0, none⟩ ∧ n ≤ cap ∧ cap ≤ maxLen ∧ B ≤ g' ∧ ∃ rest, rest.length = cap - n ∧ w1.heap[g']? = some (.cells (fillRow rest n 0).toArray 3 (0, 0))) := by
  have ho := Kd.own_of_R ho
  rw [List.length_replicate] at ho
  rcases ho.2 with ⟨rfl, hnil⟩ | ⟨g, cap, cur, rfl, hbase, hb, h1, h2, h3, h4⟩
  · subst hnil
    exact ⟨none, 0, rfl, fun h => absurd h (Nat.lt_irrefl 0)⟩
  · refine ⟨some ⟨g, 0, none⟩, cap, rfl, fun hn => ⟨g, rfl, h1, h2, hbase, cur.toList.drop n, by simp; omega, ?_⟩⟩
    rw [hb]
    have e : fillRow (cur.toList.drop n) n 0 = cur.toList := by
      unfold fillRow
      rw [List.replicate_zero, List.nil_append, Nat.sub_zero]
      have h5 : cur.toList.take n = List.replicate n (.int .i64 0) := by
        have : n * 1 = n := Nat.mul_one n
        rw [this] at h4
        rw [h4]
        simp [encs]
      rw [← h5, List.take_append_drop]
    rw [e]

theorem filled_own {w : World} {B g n cap : Nat} {rest : List Value} (hbase : B ≤ g) (h1 : n ≤ cap) (h2 : cap ≤ maxLen) (hr : rest.length = cap - n) (hb : w.heap[g]? = some (.cells (fillRow rest n n).toArray 3 (0, 0))) :
    Kd.R (Kd.int .i64) 3 w B (fun _ => True) (.slice (some ⟨g, 0, none⟩) n cap) (List.replicate n (-1)) := by
  refine Kd.R_of_own (enc := Value.int .i64) ?_ (fun _ _ => trivial)
  rw [List.length_replicate]
  refine ⟨by simp [encs], .inr ⟨g, cap, _, rfl, hbase, hb, h1, h2, ?_, ?_⟩⟩
  · rw [List.size_toArray, fillRow_length rest n n (Nat.le_refl _)]; omega
  · rw [fillRow_done]
    simp [ones, encs]

theorem src_cells {W : World} {g n m k : Nat} {rest : List Value} (hb : W.heap[g]? = some (.cells (fillRow rest n m).toArray 3 (0, 0))) (hk : k ≤ m) : ∀ j v, (ones k)[j]? = some v → W.cell? ((⟨g, 0, none⟩ : Addr).add j) = some v := by
  intro j v hj
  obtain ⟨hl, hv⟩ := List.getElem?_eq_some_iff.1 hj
  rw [ones_length] at hl
  have e : v = .int .i64 (-1) := by rw [← hv]; simp [ones]
  have ha : (⟨g, 0, none⟩ : Addr).add j = ⟨g, j, none⟩ := by unfold Addr.add; split <;> simp_all
  rw [ha, e]
  simp only [World.cell?, hb]
  simpa using fillRow_get rest n m j (by omega)

theorem wrap_sum (a b : Nat) (h : a + b < 2000000) : IntKind.i64.wrap ((a : Int) + (b : Int)) = ((a + b : Nat) : Int) := by
  rw [IntWalk.i64_in _ (by omega)]; omega

set_option maxRecDepth 100000 in
theorem repeat_some (n : Nat) (hn0 : 0 < n) (hn : n < 1000000) (g0 c0 : Nat) (w : World) (hc : w.cell? ⟨g0, 0, none⟩ = some (.int .i64 (-1))) :
    Calls Try.prog 34 #[.slice (some ⟨g0, 0, none⟩) 1 c0, .int .i64 n] w fun e w' => ∃ v0_ : Value, e = .returned v0_ ∧ Kd.R (Kd.int .i64) 3 w' w.heap.size (fun _ => True) v0_ (List.replicate n (-1)) ∧ Below w.heap.size w w' := by
  have HM := Lib.hid (mul_one_calls n hn)
  have hz : ((n : Int) < 0) = False := eq_false (by omega)
  go_enter Try.func34, Try.ntmps34
  go_wp2_with (first | (go_at_call 43; refine (HM.out _).mono ?_; rintro e w' ⟨rfl, rfl⟩) | ((with_reducible refine gate_dst (N := 30) rfl ?_); refine Kd.R_make (Kd.int .i64) _ 3 rfl (N := 30) rfl 31 _ _ rfl (n : Int) rfl rfl Try.underlying31 (.int .i64 0) 8 info3 rfl (by decide) (by omega) (0 : Int) (ok := fun _ => True) (okp := fun _ => True) rfl (fun _ hk => hk) trivial (by omega) (by omega) (Below.refl _ _) (Nat.le_refl _) ?_; intro v1 w1 ho hb hg_ hnew_; clear hg_ hnew_; rw [Int.toNat_natCast] at ho; obtain ⟨ga, cap, rfl, hx⟩ := made_open ho; obtain ⟨g, rfl, hx1, hx2, hx3, rest, hx4, hx5⟩ := hx hn0; have HB := Lib.hid hb; have HX := Lib.hid hx5; have HG := Lib.hid hx3; have HR := Lib.hid hx4; have HC := Lib.hid hx2; have HC1 := Lib.hid hx1; have HS := Lib.hid (hb.cell (World.block_lt_of_cell? w ⟨g0, 0, none⟩ hc) |>.trans hc); clear hb hx hx1 hx2 hx3 hx4 hx5 ho) | ((with_reducible refine gate_dst (N := 33) rfl ?_); refine wpList_copy_splice rfl (.tmp 31) (.tmp 32) 31 31 rfl 3 Try.underlying31 rfl _ _ n cap 1 c0 rfl rfl g 0 (fillRow rest n 0) 3 HX.out (ones 1) (by rw [ones_length]; show 1 = min 1 n; omega) (fun _ => ⟨rfl, _, rfl, fun j v hj => by (have : j = 0 := by (have := (List.getElem?_eq_some_iff.1 hj).1; rw [ones_length] at this; omega)); subst this; rw [show some v = some (Value.int .i64 (-1)) from hj.symm.trans rfl]; exact HS.out⟩) (by rw [fillRow_length _ _ _ (Nat.zero_le _), ones_length]; omega) (ones_one 1) w.heap.size w HB.out HG.out ?_; intro w2 hg2 hb2; have HX2 := Lib.hid hg2.out; have HB2 := Lib.hid hb2; clear hg2 hb2))
  go_loopw [8] (fun v8 wr => ∃ m : Nat, 1 ≤ m ∧ m ≤ n ∧ v8 = .int .i64 m ∧ Hid (wr.heap[g]? = some (.cells (fillRow rest n m).toArray 3 (0, 0))) ∧ Hid (Below w.heap.size w wr)) (fun v8 _ => n - (intOf v8).toNat)
  case atStart => exact ⟨1, by omega, by omega, rfl, by have h := HX2.out; rw [fillRow_splice rest n 0 1 (by omega)] at h; exact Lib.hid h, HB2⟩
  case round =>
    obtain ⟨m, hm1, hm2, rfl, HXr, HBr⟩ := hrel
    clear HX HX2 HB HB2 HS
    by_cases hlt : m < n
    · have hl1 : decide ((m : Int) < (n : Int)) = true := by simp; omega
      have hl2 : decide (m < n) = true := by simp; omega
      have i1 : ((0 : Int) ≤ (m : Int)) = True := eq_true (by omega)
      have i2 : ((m : Int) ≤ (n : Int)) = True := eq_true (by omega)
      have i3 : ((n : Int) ≤ (cap : Int)) = True := eq_true (by have := HC1.out; omega)
      have i4 : ((m : Int) ≤ (cap : Int)) = True := eq_true (by have := HC1.out; omega)
      have i5 : (cap = m) = False := eq_false (by have := HC1.out; omega)
      go_wp2
      go_region_held3 (fun _ => True) (trivial) ((refine step_copy_splice (by rfl) (.tmp 41) (.tmp 44) 31 31 (by rfl) 3 Try.underlying31 rfl _ _ (n - m) (cap - m) m cap (by rfl) (by rfl) g m (fillRow rest n m) 3 HXr.out (ones (min (n - m) m)) (by rw [ones_length]; exact Nat.min_comm _ _) (fun _ => ⟨rfl, _, rfl, src_cells HXr.out (Nat.min_le_right _ _)⟩) (by rw [fillRow_length _ _ _ hm2, ones_length]; omega) (ones_one _) w.heap.size w (by first | exact HBr.out | exact below_drew HBr.out) HG.out ?_; intro w3 hg3 hb3))
      have HX3 := Lib.hid hg3.out
      have HB3 := Lib.hid hb3
      clear hg3 hb3
      rw [fillRow_splice rest n m _ (by omega)] at HX3
      go_wp2
      go_roundw
      case rel => exact ⟨m + min (n - m) m, by omega, by omega, by rw [ones_length]; exact congrArg _ (wrap_sum m (min (n - m) m) (by omega)), HX3, HB3⟩
      case measure =>
        rw [ones_length, wrap_sum m (min (n - m) m) (by omega)]
        simp only [intOf]
        omega
    · obtain rfl : m = n := by omega
      have hl1 : decide ((m : Int) < (m : Int)) = false := by simp
      have hl2 : decide (m < m) = false := by simp
      go_wp2
      go_ret
      exact ⟨_, rfl, filled_own HG.out HC1.out HC.out HR.out HXr.out, HBr.out⟩

set_option maxRecDepth 100000 in
theorem repeat_none (g0 c0 : Nat) (w : World) :
    Calls Try.prog 34 #[.slice (some ⟨g0, 0, none⟩) 1 c0, .int .i64 0] w fun e w' => ∃ v0_ : Value, e = .returned v0_ ∧ Kd.R (Kd.int .i64) 3 w' w.heap.size (fun _ => True) v0_ ([] : List Int) ∧ Below w.heap.size w w' := by
  have HM := Lib.hid (mul_one_calls 0 (by omega))
  go_enter Try.func34, Try.ntmps34
  go_wp2_with (first | (go_at_call 43; refine (HM.out _).mono ?_; rintro e w' ⟨rfl, rfl⟩) | ((with_reducible refine gate_dst (N := 30) rfl ?_); refine Kd.R_make (Kd.int .i64) _ 3 rfl (N := 30) rfl 31 _ _ rfl (0 : Int) rfl rfl Try.underlying31 (.int .i64 0) 8 info3 rfl (by decide) (by omega) (0 : Int) (ok := fun _ => True) (okp := fun _ => True) rfl (fun _ hk => hk) trivial (by omega) (by omega) (Below.refl _ _) (Nat.le_refl _) ?_; intro v1 w1 ho hb hg_ hnew_; clear hg_ hnew_; rw [show (0 : Int).toNat = 0 from rfl, List.replicate_zero] at ho; obtain ⟨ga, cap, rfl, _⟩ := made_open (n := 0) ho; have HB := Lib.hid hb; have HO := Lib.hid ho; clear hb ho) | ((with_reducible refine gate_dst (N := 33) rfl ?_); refine wpList_copy_nothing rfl (.tmp 31) (.tmp 32) 31 31 rfl 3 Try.underlying31 rfl _ _ 0 cap 1 c0 rfl rfl rfl ?_))
  refine wp_loop_rounds 1 ?_
  rw [rounds_succ]
  go_wp2
  go_ret
  exact ⟨_, rfl, HO.out, HB.out⟩

theorem repeat_calls (n : Nat) (hn : n < 1000000) (g0 c0 : Nat) (w : World) (hc : w.cell? ⟨g0, 0, none⟩ = some (.int .i64 (-1))) :
    Calls Try.prog 34 #[.slice (some ⟨g0, 0, none⟩) 1 c0, .int .i64 n] w fun e w' => ∃ v0_ : Value, e = .returned v0_ ∧ Kd.R (Kd.int .i64) 3 w' w.heap.size (fun _ => True) v0_ (List.replicate n (-1)) ∧ Below w.heap.size w w' := by
  rcases Nat.eq_zero_or_pos n with rfl | h0
  · exact repeat_none g0 c0 w
  · exact repeat_some n h0 hn g0 c0 w hc
end Go.Proofs.Ytliocmjeglbpiaa.Ps
