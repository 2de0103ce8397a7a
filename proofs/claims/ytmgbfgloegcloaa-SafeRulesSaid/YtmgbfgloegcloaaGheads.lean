/- Whether any variable of a head is bound by nothing (safe.Rule's closure, and ContainsFunc over it). No condition. -/
import Derived.Test.YtmgbfgloegcloaaGready
namespace Go.Proofs.Ytmgbfgloegcloaa.Ps
open Go.RowKit Go.Proofs.YtmgbfgloegcloaaW.PrintWords Go.Proofs.YtmgbfgloegcloaaW.PrintLast
set_option maxRecDepth 100000 in
theorem free_calls (x : S40) (l1 : List ByteArray) (A1 : Option Addr) (c1 B : Nat) (w : World) (hc : w.cell? ⟨B, 0, none⟩ = some (.slice A1 l1.length c1)) (hr : Kd.C Kd.string w A1 l1.length l1) (hc1 : l1.length ≤ c1) :
    Calls Try.prog 34 #[termV x, .pointer (some ⟨B, 0, none⟩)] w fun e w' => e = .returned (.bool (!isB x.f0 l1)) ∧ Below w.heap.size w w' := by
  unfold termV isB
  have HR := Lib.hid hr
  have HC := Lib.hid hc1
  have hcc : ∀ o, (w.alloc o).cell? ⟨B, 0, none⟩ = some (.slice A1 l1.length c1) := fun o => zg (zd (Below.refl _ _) o) hc
  clear hr hc1
  cases he : (x.f0.toList == ([] : List UInt8)) with
  | true =>
    have he2 : (x.f0.toList != ([] : List UInt8)) = false := by simp only [bne, he]; rfl
    go_enter Try.func34, Try.ntmps34
    go_wp2_with fail
    go_ret
    exact ⟨rfl, (Below.refl _ _).alloc (Nat.le_refl _) _⟩
  | false =>
    have he2 : (x.f0.toList != ([] : List UInt8)) = true := by simp only [bne, he]; rfl
    go_enter Try.func34, Try.ntmps34
    go_wp2_with (go_at_call 35; refine (yz.calls A1 c1 l1 x.f0 _ _ (Kd.zL HR.out ((Below.refl _ _).alloc (Nat.le_refl _) _)) HC.out rfl).mono ?_; rintro e w' ⟨rfl, hd⟩)
    go_ret
    exact ⟨rfl, ((Below.refl _ _).alloc (Nat.le_refl _) _).trans (drawn_below hd |>.mono (by simp))⟩
theorem qj.calls (A0 : Option Addr) (c0 : Nat) (l0 : List S40) (A1 : Option Addr) (c1 : Nat) (l1 : List ByteArray) (r : Bool) (w : World) {B : Nat} (hc : w.cell? ⟨B, 0, none⟩ = some (.slice A1 l1.length c1)) (hr0 : Kd.C k40 w A0 l0.length l0) (_hc0 : l0.length ≤ c0)
    (hr1 : Kd.C Kd.string w A1 l1.length l1) (hc1 : l1.length ≤ c1) (h : qj.f l0 l1 = some r) :
    Calls Try.prog 33 #[.slice A0 l0.length c0, .func (.func 34) #[] #[.pointer (some ⟨B, 0, none⟩)]] w fun e w' => e = .returned (.bool r) ∧ Below w.heap.size w w' := by
  obtain rfl := Option.some.inj h
  exact qC (fun t => !isB t.f0 l1) 34 #[.pointer (some ⟨B, 0, none⟩)] (enters_of Try.func34 (by kernel_rfl) rfl) A0 c0 l0 w hr0
    (pred_one fun W2 x hW2 => free_calls x l1 A1 c1 B W2 (zg hW2 hc) (Kd.zL hr1 hW2) hc1)
end Go.Proofs.Ytmgbfgloegcloaa.Ps
