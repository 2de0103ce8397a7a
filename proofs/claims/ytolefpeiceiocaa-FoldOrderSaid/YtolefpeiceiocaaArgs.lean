/- HOW THE ARGUMENTS OF THE LAWS ARE READ: numbers, lists of them, values, lists of those, and lists of those. No condition. -/
import Derived.Test.YtolefpeiceiocaaPof
import Derived.Test.YtolefpeiceiocaaOpens
namespace Go.Proofs.Ytolefpeiceiocaa.Ps
open Go.RowKit Go.ChangeShapes Go.WideShapes Go.Proofs.YtolefpeiceiocaaW.PrintWords Go.Proofs.YtolefpeiceiocaaW.Opens

theorem wf_i64 {n : Int} (h : (Lit.int .i64 n).wf = true) : inI n := by
  simp only [Lit.wf, Bool.and_eq_true, IntKind.min, IntKind.max, IntKind.signed, IntKind.bits] at h
  have h1 : -9223372036854775808 ≤ n := by simpa using h.1
  have h2 : n ≤ 9223372036854775807 := by simpa using h.2
  exact ⟨h1, h2⟩
def wfV (x : Sv) : Prop := (Lit.int .i64 x.f0).wf = true ∧ (Lit.int .i64 x.f1).wf = true ∧ x.f2.size ≤ maxLen
theorem wfV_ok {x : Sv} (h : wfV x) : okS x := ⟨wf_i64 h.1, wf_i64 h.2.1, h.2.2⟩
theorem opensV : Opens Try.prog 27 k27 wfV := by
  refine Opens.struct (g := fun x : Int × Int × ByteArray => (⟨x.1, x.2.1, x.2.2⟩ : Sv)) (Wf := fun x : Int × Int × ByteArray => (Lit.int .i64 x.1).wf = true ∧ (Lit.int .i64 x.2.1).wf = true ∧ x.2.2.size ≤ maxLen) Try.underlying27 (by kernel_rfl) (fun _ => rfl) ?_
  apply OpensAt.cons (Wf := fun n => (Lit.int .i64 n).wf = true) (Vf := fun x : Int × ByteArray => (Lit.int .i64 x.1).wf = true ∧ x.2.size ≤ maxLen)
  · rfl
  · kernel_rfl
  · exact @Opens.int _ _ _ Try.underlying3
  apply OpensAt.cons (Wf := fun n => (Lit.int .i64 n).wf = true) (Vf := fun s : ByteArray => s.size ≤ maxLen)
  · rfl
  · kernel_rfl
  · exact @Opens.int _ _ _ Try.underlying2
  apply OpensAt.last
  · rfl
  · kernel_rfl
  · exact @Opens.string _ _ Try.underlying9
theorem opens22 : Opens Try.prog 22 (Kd.slice 27 k27) (fun xs => xs.length ≤ maxLen ∧ ∀ x ∈ xs, wfV x) := @Opens.slice _ _ _ _ _ _ Try.underlying22 (by kernel_rfl) @opensV
theorem opens23 : Opens Try.prog 23 (Kd.slice 22 (Kd.slice 27 k27)) (fun xs => xs.length ≤ maxLen ∧ ∀ y ∈ xs, y.length ≤ maxLen ∧ ∀ x ∈ y, wfV x) := @Opens.slice _ _ _ _ _ _ Try.underlying23 (by kernel_rfl) @opens22
theorem open_slice_wf {P : Program} {α : Type} {H : Type} {enc : TypeId × Value → H} {w : World} {r : Reach} {b base : Nat} {sp : Nat → Bool} {held : Bool} {t e : TypeId} {d : Kd α} {Wf : List α → Prop} {v : Value} {x : DataW H} {ps : List MemPlace}
    (ho : Opens P t (Kd.slice e d) Wf) (ht : P.underlying t = some (.slice e)) (hval : Value.okWide P w r b t v) (hd : DataW.Trod enc P w base sp held t v x ps) :
    ∃ (A : Option Addr) (c : Nat) (l : List α), v = .slice A l.length c ∧ l.length ≤ c ∧ Kd.C d w A l.length l ∧ Wf l := by
  obtain ⟨a0, len, cap, rfl⟩ := okWide_slice ht hval
  obtain ⟨fuel, hf⟩ := hd
  obtain ⟨l, ⟨A, c, e1, hl, hC⟩, hw⟩ := ho enc w base sp held fuel _ _ hf
  simp [Value.cells] at e1
  obtain ⟨rfl, rfl, rfl⟩ := e1
  exact ⟨_, _, l, rfl, hl, hC, hw⟩
theorem open_i64 {P : Program} {H : Type} {enc : TypeId × Value → H} {w : World} {base : Nat} {sp : Nat → Bool} {held : Bool} {t : TypeId} {n : Int} {x : DataW H} {ps : List MemPlace}
    (ht : P.underlying t = some (.int .i64)) (hd : DataW.Trod enc P w base sp held t (.int .i64 n) x ps) : inI n := by
  obtain ⟨fuel, hf⟩ := hd
  obtain ⟨n', e, _, hw⟩ := DataW.trod_int ht hf
  have e : n = n' := by simpa [Value.cells] using e
  subst e
  exact wf_i64 hw
theorem open_u8 {P : Program} {H : Type} {enc : TypeId × Value → H} {w : World} {base : Nat} {sp : Nat → Bool} {held : Bool} {t : TypeId} {n : Int} {x : DataW H} {ps : List MemPlace}
    (ht : P.underlying t = some (.int .u8)) (hd : DataW.Trod enc P w base sp held t (.int .u8 n) x ps) : 0 ≤ n ∧ n ≤ 255 := by
  obtain ⟨fuel, hf⟩ := hd
  obtain ⟨n', e, _, h⟩ := DataW.trod_int ht hf
  have e : n = n' := by simpa [Value.cells] using e
  subst e
  simp only [Lit.wf, Bool.and_eq_true, IntKind.min, IntKind.max, IntKind.signed, IntKind.bits] at h
  have h1 : 0 ≤ n := by simpa using h.1
  have h2 : n ≤ 255 := by simpa using h.2
  exact ⟨h1, h2⟩
end Go.Proofs.Ytolefpeiceiocaa.Ps
