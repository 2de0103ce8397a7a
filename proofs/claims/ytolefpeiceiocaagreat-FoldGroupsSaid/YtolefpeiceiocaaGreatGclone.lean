/- THE WALK OF slices.Clone at the three types of layer 20: nil comes back as nil, else a row of the call's own. Condition: fewer than 2^40 elements. -/
import Derived.Test.YtolefpeiceiocaaGreatGr
import Derived.Test.YtolefpeiceiocaaGreatGd
import Derived.Lib.SliceRun
import Derived.Lib.Hide
import Derived.Shelf.RegionOpenPlain
namespace Go.Proofs.YtolefpeiceiocaaGreat.Ps
open Go Go.RowKit Go.Proofs.YtolefpeiceiocaaGreatW.PrintWords Go.Lib
set_option linter.unusedVariables false

theorem Prog.infoV : (Tryz.prog.info? 25).map (fun i => (i.zero, i.size, i.bytes)) = some (some (.agg #[(.int .i64 0), (.int .i64 0), (.string ⟨#[]⟩)]), 3, 32) := by kernel_rfl
set_option maxHeartbeats 2000000 in
set_option maxRecDepth 100000 in
theorem cloneV (A : Option Addr) (n c : Nat) (news : List Value) (w : World) (hl : news.length = n * 3) (hn : n ≤ 1099511627776)
    (hc : ∀ j u, news[j]? = some u → ∃ ad, A = some ad ∧ w.cell? (ad.add j) = some u) (h1 : ∀ u ∈ news, u.oneCell' = true) (h0 : A = none → n = 0) :
    Calls Tryz.prog 25 #[.slice A n c] w fun e w' => ∃ v', e = .returned v' ∧ w'.ownsRow w.heap.size 25 3 v' n news ∧ (v' = .slice none 0 0 ↔ A = none) ∧ Grown w w' := by
  have q22 : ∀ (w : World) (a : Option Addr) (n c n' c' : Nat), (binOp .eql 22 (.slice a n c) (.slice none n' c')).run Tryz.prog w = .ok (.bool a.isNone) w := fun w a n c n' c' => Lib.run_eql_slice_nil w _ _ a n c n' c' Tryz.underlying22
  cases A with
  | none =>
    obtain rfl := h0 rfl
    obtain rfl : news = [] := List.eq_nil_of_length_eq_zero (by simpa using hl)
    clear hc hl h1 h0
    go_enter Tryz.func25, Tryz.ntmps25
    go_wp2
    go_ret
    exact ⟨_, rfl, World.ownsRow_nil _ _ _ _, by simp, Grown.refl _⟩
  | some ad =>
    have A : Aside0 (∀ j u, news[j]? = some u → w.cell? (ad.add j) = some u) := ⟨fun j u hj => by obtain ⟨ad', e, h⟩ := hc j u hj; cases e; exact h⟩
    clear hc h0
    obtain ⟨i0, hi, hz0, hz1, hz2⟩ := info_parts Prog.infoV
    go_enter Tryz.func25, Tryz.ntmps25
    go_wp2_with (at_builtin; refine wpList_append_own_d _ rfl _ _ 22 rfl w.heap.size 25 i0 _ 3 32 Tryz.underlying22 hi hz0 hz1 hz2 rfl (by decide) _ _ _ rfl (World.ownsRow_made w #[] 0 (Nat.le_refl _) (Nat.zero_le _) (by simp)) ad n c news rfl ?qc1 ?qc2 ?qc3 ?qc4 ?qc5 ?qc6 ?_)
    case qc1 => exact hl
    case qc2 => intro j u hj; exact Lib.cell?_alloc_some _ (A.out j u hj)
    case qc3 => exact h1
    case qc4 => rw [Nat.zero_add]; unfold maxLen; omega
    case qc5 => rw [Nat.zero_add]; omega
    case qc6 => simp
    intro v' w1 hown hgrow hnil hdr
    go_wp2
    go_ret
    refine ⟨v', rfl, by simpa using hown, by simpa using hnil, ?_⟩
    have h2 := (Grown.refl w).alloc (.cells #[] 25)
    exact ⟨h2.below.grown hgrow (by simp) (by intro k hk; simp [Value.ownBlock] at hk; omega), Nat.le_trans h2.drawn hdr⟩

theorem Prog.infoVS : (Tryz.prog.info? 22).map (fun i => (i.zero, i.size, i.bytes)) = some (some (.slice none 0 0), 1, 24) := by kernel_rfl
set_option maxHeartbeats 2000000 in
set_option maxRecDepth 100000 in
theorem cloneVS (A : Option Addr) (n c : Nat) (news : List Value) (w : World) (hl : news.length = n * 1) (hn : n ≤ 1099511627776)
    (hc : ∀ j u, news[j]? = some u → ∃ ad, A = some ad ∧ w.cell? (ad.add j) = some u) (h1 : ∀ u ∈ news, u.oneCell' = true) (h0 : A = none → n = 0) :
    Calls Tryz.prog 52 #[.slice A n c] w fun e w' => ∃ v', e = .returned v' ∧ w'.ownsRow w.heap.size 22 1 v' n news ∧ (v' = .slice none 0 0 ↔ A = none) ∧ Grown w w' := by
  have q22 : ∀ (w : World) (a : Option Addr) (n c n' c' : Nat), (binOp .eql 34 (.slice a n c) (.slice none n' c')).run Tryz.prog w = .ok (.bool a.isNone) w := fun w a n c n' c' => Lib.run_eql_slice_nil w _ _ a n c n' c' Tryz.underlying34
  cases A with
  | none =>
    obtain rfl := h0 rfl
    obtain rfl : news = [] := List.eq_nil_of_length_eq_zero (by simpa using hl)
    clear hc hl h1 h0
    go_enter Tryz.func52, Tryz.ntmps52
    go_wp2
    go_ret
    exact ⟨_, rfl, World.ownsRow_nil _ _ _ _, by simp, Grown.refl _⟩
  | some ad =>
    have A : Aside0 (∀ j u, news[j]? = some u → w.cell? (ad.add j) = some u) := ⟨fun j u hj => by obtain ⟨ad', e, h⟩ := hc j u hj; cases e; exact h⟩
    clear hc h0
    obtain ⟨i0, hi, hz0, hz1, hz2⟩ := info_parts Prog.infoVS
    go_enter Tryz.func52, Tryz.ntmps52
    go_wp2_with (at_builtin; refine wpList_append_own_d _ rfl _ _ 34 rfl w.heap.size 22 i0 _ 1 24 Tryz.underlying34 hi hz0 hz1 hz2 rfl (by decide) _ _ _ rfl (World.ownsRow_made w #[] 0 (Nat.le_refl _) (Nat.zero_le _) (by simp)) ad n c news rfl ?qc1 ?qc2 ?qc3 ?qc4 ?qc5 ?qc6 ?_)
    case qc1 => exact hl
    case qc2 => intro j u hj; exact Lib.cell?_alloc_some _ (A.out j u hj)
    case qc3 => exact h1
    case qc4 => rw [Nat.zero_add]; unfold maxLen; omega
    case qc5 => rw [Nat.zero_add]; omega
    case qc6 => simp
    intro v' w1 hown hgrow hnil hdr
    go_wp2
    go_ret
    refine ⟨v', rfl, by simpa using hown, by simpa using hnil, ?_⟩
    have h2 := (Grown.refl w).alloc (.cells #[] 22)
    exact ⟨h2.below.grown hgrow (by simp) (by intro k hk; simp [Value.ownBlock] at hk; omega), Nat.le_trans h2.drawn hdr⟩

theorem Prog.infoI : (Tryz.prog.info? 3).map (fun i => (i.zero, i.size, i.bytes)) = some (some (.int .i64 0), 1, 8) := by kernel_rfl
set_option maxHeartbeats 2000000 in
set_option maxRecDepth 100000 in
theorem cloneI (A : Option Addr) (n c : Nat) (news : List Value) (w : World) (hl : news.length = n * 1) (hn : n ≤ 1099511627776)
    (hc : ∀ j u, news[j]? = some u → ∃ ad, A = some ad ∧ w.cell? (ad.add j) = some u) (h1 : ∀ u ∈ news, u.oneCell' = true) (h0 : A = none → n = 0) :
    Calls Tryz.prog 99 #[.slice A n c] w fun e w' => ∃ v', e = .returned v' ∧ w'.ownsRow w.heap.size 3 1 v' n news ∧ (v' = .slice none 0 0 ↔ A = none) ∧ Grown w w' := by
  have q22 : ∀ (w : World) (a : Option Addr) (n c n' c' : Nat), (binOp .eql 80 (.slice a n c) (.slice none n' c')).run Tryz.prog w = .ok (.bool a.isNone) w := fun w a n c n' c' => Lib.run_eql_slice_nil w _ _ a n c n' c' Tryz.underlying80
  cases A with
  | none =>
    obtain rfl := h0 rfl
    obtain rfl : news = [] := List.eq_nil_of_length_eq_zero (by simpa using hl)
    clear hc hl h1 h0
    go_enter Tryz.func99, Tryz.ntmps99
    go_wp2
    go_ret
    exact ⟨_, rfl, World.ownsRow_nil _ _ _ _, by simp, Grown.refl _⟩
  | some ad =>
    have A : Aside0 (∀ j u, news[j]? = some u → w.cell? (ad.add j) = some u) := ⟨fun j u hj => by obtain ⟨ad', e, h⟩ := hc j u hj; cases e; exact h⟩
    clear hc h0
    obtain ⟨i0, hi, hz0, hz1, hz2⟩ := info_parts Prog.infoI
    go_enter Tryz.func99, Tryz.ntmps99
    go_wp2_with (at_builtin; refine wpList_append_own_d _ rfl _ _ 80 rfl w.heap.size 3 i0 _ 1 8 Tryz.underlying80 hi hz0 hz1 hz2 rfl (by decide) _ _ _ rfl (World.ownsRow_made w #[] 0 (Nat.le_refl _) (Nat.zero_le _) (by simp)) ad n c news rfl ?qc1 ?qc2 ?qc3 ?qc4 ?qc5 ?qc6 ?_)
    case qc1 => exact hl
    case qc2 => intro j u hj; exact Lib.cell?_alloc_some _ (A.out j u hj)
    case qc3 => exact h1
    case qc4 => rw [Nat.zero_add]; unfold maxLen; omega
    case qc5 => rw [Nat.zero_add]; omega
    case qc6 => simp
    intro v' w1 hown hgrow hnil hdr
    go_wp2
    go_ret
    refine ⟨v', rfl, by simpa using hown, by simpa using hnil, ?_⟩
    have h2 := (Grown.refl w).alloc (.cells #[] 3)
    exact ⟨h2.below.grown hgrow (by simp) (by intro k hk; simp [Value.ownBlock] at hk; omega), Nat.le_trans h2.drawn hdr⟩
end Go.Proofs.YtolefpeiceiocaaGreat.Ps
