/- slices.IndexFunc AND slices.ContainsFunc OVER TERMS, whatever the predicate, if its calls answer as p says and turn nothing that was there. No other condition. -/
import Derived.Test.YtmgbfgloegcloaaPs0
import Derived.Lib.Hide
import Derived.Shelf.Abstract
namespace Go.Proofs.Ytmgbfgloegcloaa.Ps
open Go.RowKit Go.Proofs.YtmgbfgloegcloaaW.PrintWords Go.Proofs.YtmgbfgloegcloaaW.PrintLast
def termV (x : S40) : Value := .agg #[.string x.f0, .int .i64 x.f1.f0, .int .i64 x.f1.f1, .string x.f1.f2]
theorem rd_at {l : List S40} {j : Nat} (h : j < l.length) : yf l (j : Int) = l[j] := by
  unfold yf
  simp [List.getD, List.getElem?_eq_getElem h]
theorem rd_mem {l : List S40} {j : Nat} (h : j < l.length) : yf l (j : Int) ∈ l := by rw [rd_at h]; exact List.getElem_mem h
set_option maxRecDepth 100000 in
theorem idx_any (p : S40 → Bool) (g : Nat) (lb : Array Value) (eg : ∀ args w, (callFunc g args).run Try.prog w = .ok (.enter g args) w) (A0 : Option Addr) (c0 : Nat) (l0 : List S40) (w : World) (hr0 : Kd.C k40 w A0 l0.length l0)
    (hp : ∀ (W : World) (x : S40), Below w.heap.size w W → Calls Try.prog g (#[termV x] ++ lb) W fun e w' => e = .returned (.bool (p x)) ∧ Below w.heap.size w w') :
    Calls Try.prog 45 #[.slice A0 l0.length c0, .func (.func g) #[] lb] w fun e w' => (∃ r : Int, e = .returned (.int .i64 r) ∧ decide (0 ≤ r) = l0.any p) ∧ Below w.heap.size w w' := by
  have HR := Lib.hid hr0
  have HN := hr0.2.1
  clear hr0
  go_enter Try.func45, Try.ntmps45
  go_wp2
  go_loopg [5, 8] l0.length (fun gg _ s8 wr => ∃ kk : Nat, kk ≤ l0.length ∧ l0.length - kk ≤ gg ∧ s8 = .int .i64 kk ∧ zb (Below w.heap.size w wr) ∧ zb (∀ j, j < kk → p (yf l0 j) = false))
  case atStart => exact ⟨0, Nat.zero_le _, by omega, rfl, ⟨Below.refl _ w⟩, ⟨fun j hj => absurd hj (Nat.not_lt_zero _)⟩⟩
  case round =>
    obtain ⟨kk, hkk, hg, rfl, BW, A⟩ := hrel
    by_cases hlt : kk < l0.length
    · have hltz : (kk : Int) < (l0.length : Int) := by omega
      obtain ⟨ad, rfl, hx0, hx1, hx2, hx3⟩ := at_T40 HR.out (kk : Int) (by omega) hltz
      have hcall := hp wr (yf l0 kk) BW.out
      unfold termV at hcall
      clear hp
      replace hx0 := (BW.out.cell (World.block_lt_of_cell? w _ hx0)).trans hx0
      replace hx1 := (BW.out.cell (World.block_lt_of_cell? w _ hx1)).trans hx1
      replace hx2 := (BW.out.cell (World.block_lt_of_cell? w _ hx2)).trans hx2
      replace hx3 := (BW.out.cell (World.block_lt_of_cell? w _ hx3)).trans hx3
      simp only [Int.toNat_natCast] at hx0 hx1 hx2 hx3
      by_cases hq : p (yf l0 kk) = true
      · rw [hq] at hcall
        go_wp2_with (go_at_fn g; refine hcall.mono ?_; rintro e w' ⟨rfl, hb'⟩)
        go_ret
        refine ⟨⟨kk, rfl, ?_⟩, hb'⟩
        rw [decide_eq_true (by omega)]
        symm
        rw [List.any_eq_true]
        exact ⟨yf l0 kk, rd_mem hlt, hq⟩
      · have hq' : p (yf l0 kk) = false := by simpa using hq
        clear hq
        rw [hq'] at hcall
        have HQ := Lib.hid hq'
        clear hq'
        go_wp2_with (go_at_fn g; refine hcall.mono ?_; rintro e w' ⟨rfl, hb'⟩)
        go_roundg (l0.length - (kk + 1))
        case measure => omega
        case rel =>
          refine ⟨kk + 1, by omega, by omega, by go_num, ⟨hb'⟩, ⟨fun j hj => ?_⟩⟩
          by_cases e : j = kk
          · subst e
            exact HQ.out
          · exact A.out j (by omega)
    · have hltz : ¬ (kk : Int) < (l0.length : Int) := by omega
      have : kk = l0.length := by omega
      subst this
      go_wp2
      go_ret
      refine ⟨⟨-1, rfl, ?_⟩, BW.out⟩
      rw [decide_eq_false (by omega)]
      symm
      rw [List.any_eq_false]
      intro x hx
      obtain ⟨j, hj, e⟩ := List.getElem_of_mem hx
      have := A.out j hj
      rw [rd_at hj, e] at this
      simp [this]
theorem qC (p : S40 → Bool) (g : Nat) (lb : Array Value) (eg : ∀ args w, (callFunc g args).run Try.prog w = .ok (.enter g args) w) (A0 : Option Addr) (c0 : Nat) (l0 : List S40) (w : World) (hr0 : Kd.C k40 w A0 l0.length l0)
    (hp : ∀ (W : World) (x : S40), Below w.heap.size w W → Calls Try.prog g (#[termV x] ++ lb) W fun e w' => e = .returned (.bool (p x)) ∧ Below w.heap.size w w') :
    Calls Try.prog 33 #[.slice A0 l0.length c0, .func (.func g) #[] lb] w fun e w' => e = .returned (.bool (l0.any p)) ∧ Below w.heap.size w w' := by
  have HR := Lib.hid hr0
  have HP := Lib.hid hp
  clear hr0 hp
  go_enter Try.func33, Try.ntmps33
  go_wp2_with (go_at_call 45; refine (idx_any p g lb eg A0 c0 l0 _ HR.out HP.out).mono ?_; rintro e w' ⟨⟨r, rfl, hr⟩, hb'⟩)
  go_ret
  rw [← hr]; exact ⟨rfl, hb'⟩
end Go.Proofs.Ytmgbfgloegcloaa.Ps
