/- HOW THE ARGUMENTS OF THE LAWS ARE READ: numbers, lists of numbers, and lists of those. No condition. -/
import Derived.Test.YtliocmjeglbpiaaPs0
import Derived.Test.YtliocmjeglbpiaaOpens
namespace Go.Proofs.Ytliocmjeglbpiaa.Ps
open Go.RowKit Go.ChangeShapes Go.WideShapes Go.Proofs.YtliocmjeglbpiaaW.PrintWords Go.Proofs.YtliocmjeglbpiaaW.Opens

theorem opens31 : ∃ Wf, Opens Try.prog 31 (Kd.slice 3 (Kd.int .i64)) Wf := ⟨_, @Opens.slice _ _ _ _ _ _ Try.underlying31 (by kernel_rfl) (@Opens.int _ _ _ Try.underlying3)⟩
theorem opens22 : ∃ Wf, Opens Try.prog 22 (Kd.slice 31 (Kd.slice 3 (Kd.int .i64))) Wf := by
  obtain ⟨_, h⟩ := opens31
  exact ⟨_, @Opens.slice _ _ _ _ _ _ Try.underlying22 (by kernel_rfl) @h⟩
theorem open_slice_of {P : Program} {α : Type} {H : Type} {enc : TypeId × Value → H} {w : World} {r : Reach} {b base : Nat} {sp : Nat → Bool} {held : Bool} {t e : TypeId} {d : Kd α} {v : Value} {x : DataW H} {ps : List MemPlace}
    (ho : ∃ Wf, Opens P t (Kd.slice e d) Wf) (ht : P.underlying t = some (.slice e)) (hval : Value.okWide P w r b t v) (hd : DataW.Trod enc P w base sp held t v x ps) :
    ∃ (A : Option Addr) (c : Nat) (l : List α), v = .slice A l.length c ∧ l.length ≤ c ∧ Kd.C d w A l.length l := by
  obtain ⟨Wf, ho⟩ := ho
  obtain ⟨a0, len, cap, rfl⟩ := okWide_slice ht hval
  obtain ⟨fuel, hf⟩ := hd
  obtain ⟨l, ⟨A, c, e1, hl, hC⟩, _⟩ := ho enc w base sp held fuel _ _ hf
  simp [Value.cells] at e1
  obtain ⟨rfl, rfl, rfl⟩ := e1
  exact ⟨_, _, l, rfl, hl, hC⟩
theorem opens34 : Opens Try.prog 34 (Kd.slice 5 (Kd.int .u8)) (fun xs => xs.length ≤ maxLen ∧ ∀ x ∈ xs, (Lit.int .u8 x).wf = true) := @Opens.slice _ _ _ _ _ _ Try.underlying34 (by kernel_rfl) (@Opens.int _ _ _ Try.underlying5)
theorem u8_wf {x : Int} (h : (Lit.int .u8 x).wf = true) : 0 ≤ x ∧ x ≤ 255 := by
  simp only [Lit.wf, Bool.and_eq_true, IntKind.min, IntKind.max, IntKind.signed, IntKind.bits] at h
  have h1 : 0 ≤ x := by simpa using h.1
  have h2 : x ≤ 255 := by simpa using h.2
  exact ⟨h1, h2⟩
theorem open_slice_wf {P : Program} {α : Type} {H : Type} {enc : TypeId × Value → H} {w : World} {r : Reach} {b base : Nat} {sp : Nat → Bool} {held : Bool} {t e : TypeId} {d : Kd α} {Wf : List α → Prop} {v : Value} {x : DataW H} {ps : List MemPlace}
    (ho : Opens P t (Kd.slice e d) Wf) (ht : P.underlying t = some (.slice e)) (hval : Value.okWide P w r b t v) (hd : DataW.Trod enc P w base sp held t v x ps) :
    ∃ (A : Option Addr) (c : Nat) (l : List α), v = .slice A l.length c ∧ l.length ≤ c ∧ Kd.C d w A l.length l ∧ Wf l := by
  obtain ⟨a0, len, cap, rfl⟩ := okWide_slice ht hval
  obtain ⟨fuel, hf⟩ := hd
  obtain ⟨l, ⟨A, c, e1, hl, hC⟩, hw⟩ := ho enc w base sp held fuel _ _ hf
  simp [Value.cells] at e1
  obtain ⟨rfl, rfl, rfl⟩ := e1
  exact ⟨_, _, l, rfl, hl, hC, hw⟩
theorem open_u8 {P : Program} {H : Type} {enc : TypeId × Value → H} {w : World} {base : Nat} {sp : Nat → Bool} {held : Bool} {t : TypeId} {n : Int} {x : DataW H} {ps : List MemPlace}
    (ht : P.underlying t = some (.int .u8)) (hd : DataW.Trod enc P w base sp held t (.int .u8 n) x ps) : ∃ m : Nat, n = (m : Int) ∧ m ≤ 255 := by
  obtain ⟨fuel, hf⟩ := hd
  obtain ⟨n', e, _, hw⟩ := DataW.trod_int ht hf
  have e : n = n' := by simpa [Value.cells] using e
  subst e
  have := u8_wf hw
  exact ⟨n.toNat, by omega, by omega⟩
end Go.Proofs.Ytliocmjeglbpiaa.Ps
