/- HOW ANY VALUE THAT READS AS DATA IS READ BY ITS KIND: whole numbers, bools, strings, slices, structs. No condition. -/
import Derived.Test.YtolefpeiceiocaaGreatWWords
import Derived.ProofKit
import Derived.OpenShut
import Derived.ChangeArms
import Derived.DataReads
import Derived.DataElems
import Derived.Test.YtolefpeiceiocaaGreatPof
namespace Go.Proofs.YtolefpeiceiocaaGreatW.Opens
open Go.RowKit Go.Proofs.YtolefpeiceiocaaGreatW.PrintWords

/-- Whatever reads as data at type t is of kind d, and meets Wf. -/
def Opens {α : Type} (P : Program) (t : TypeId) (d : Kd α) (Wf : α → Prop) : Prop :=
  ∀ {H : Type} (enc : TypeId × Value → H) (w : World) (base : Nat) (spare : Nat → Bool) (held : Bool) (fuel : Nat) (cs : List Value) (x : DataW H × List MemPlace),
    DataW.trod enc P w base spare held fuel t cs = some x → ∃ a, d.K w a cs ∧ Wf a

theorem Opens.int {P : Program} {t : TypeId} {k : IntKind} (ht : P.underlying t = some (.int k)) : Opens P t (Kd.int k) (fun n => (Lit.int k n).wf = true) := by
  intro H enc w base spare held fuel cs x h
  obtain ⟨n, rfl, _, hw⟩ := DataW.trod_int ht h
  exact ⟨n, rfl, hw⟩
theorem Opens.bool {P : Program} {t : TypeId} (ht : P.underlying t = some .bool) : Opens P t Kd.bool (fun _ => True) := by
  intro H enc w base spare held fuel cs x h
  obtain ⟨n, rfl, _⟩ := DataW.trod_bool ht h
  exact ⟨n, rfl, trivial⟩
theorem Opens.string {P : Program} {t : TypeId} (ht : P.underlying t = some .string) : Opens P t Kd.string (fun s => s.size ≤ maxLen) := by
  intro H enc w base spare held fuel cs x h
  obtain ⟨s, rfl, _, hw⟩ := DataW.trod_string ht h
  exact ⟨s, rfl, hw⟩
theorem Opens.slice {α : Type} {P : Program} {t e : TypeId} {d : Kd α} {Wf : α → Prop} (ht : P.underlying t = some (.slice e)) (hs : P.cellsOf e = d.sz) (h : Opens P e d Wf) :
    Opens P t (Kd.slice e d) (fun xs => xs.length ≤ maxLen ∧ ∀ x ∈ xs, Wf x) := by
  intro H enc w base spare held fuel cs x hx
  rcases DataW.trod_slice ht hx with ⟨rfl, _⟩ | ⟨a, len, cap, elems, rest, n, rfl, rfl, _, _, hlc, hcm, hel, hget, _, _⟩
  · exact ⟨[], ⟨none, 0, rfl, Nat.le_refl _, ⟨rfl, by simp, fun h => absurd h (by simp)⟩⟩, by simp, by simp⟩
  · have key : ∀ m, m ≤ len → ∃ xs : List α, xs.length = m ∧ (∀ x ∈ xs, Wf x) ∧ ∀ j p, xs[j]? = some p → ∃ c, c.length = d.sz ∧ d.K w p c ∧ ∀ i u, c[i]? = some u → w.cell? (a.add (j * d.sz + i)) = some u := by
      intro m
      induction m with
      | zero => exact fun _ => ⟨[], rfl, by simp, fun j p hp => by simp at hp⟩
      | succ m ih =>
        intro hm
        obtain ⟨xs, hl, hw, hc⟩ := ih (by omega)
        have hg := hget m (by omega)
        rw [List.getElem?_eq_getElem (show m < elems.length by omega)] at hg
        obtain ⟨c, hc1, hc2⟩ := Option.bind_eq_some_iff.1 hg
        obtain ⟨p, hK, hp⟩ := h enc w base spare held n c _ hc2
        obtain ⟨_, hcl, hcell⟩ := World.cells?_some hc1
        refine ⟨xs ++ [p], by simp [hl], fun x hx => ?_, fun j q hq => ?_⟩
        · rcases List.mem_append.1 hx with hx | hx
          · exact hw x hx
          · rw [List.mem_singleton.1 hx]; exact hp
        · rcases Nat.lt_or_ge j xs.length with hj | hj
          · rw [List.getElem?_append_left hj] at hq
            exact hc j q hq
          · have hj2 : j = m := by
              have := (List.getElem?_eq_some_iff.1 hq).1
              simp at this
              omega
            subst hj2
            rw [List.getElem?_append_right hj, hl] at hq
            simp at hq
            subst hq
            refine ⟨c, by rw [hcl, hs], hK, fun i u hu => ?_⟩
            have hi : i < P.cellsOf e := by
              have := (List.getElem?_eq_some_iff.1 hu).1
              omega
            rw [← hs, ← Addr.add_add, hcell i hi, hu]
    obtain ⟨xs, hl, hw, hc⟩ := key len (Nat.le_refl _)
    subst hl
    refine ⟨xs, ⟨some a, cap, rfl, hlc, ⟨rfl, ?_, fun _ => ⟨a, rfl, hc⟩⟩⟩, ?_, hw⟩
    · unfold maxLen at hcm; omega
    · exact Nat.le_trans hlc hcm

/-- A struct's fields, one behind the other, from a cell on. -/
def OpensAt {β : Type} (P : Program) (fs : List Field) (off : Nat) (d : Kd β) (Wf : β → Prop) : Prop :=
  ∀ {H : Type} (enc : TypeId × Value → H) (w : World) (base : Nat) (spare : Nat → Bool) (held : Bool) (n : Nat) (cs : List Value),
    cs.length = off + d.sz → (∀ (i : Nat) (f : Field), fs[i]? = some f → ∃ x, DataW.trod enc P w base spare held n f.type ((cs.drop f.offset).take (P.cellsOf f.type)) = some x) → ∃ a, d.K w a (cs.drop off) ∧ Wf a
theorem OpensAt.last {α : Type} {P : Program} {f : Field} {off : Nat} {d : Kd α} {Wf : α → Prop} (ho : f.offset = off) (hs : P.cellsOf f.type = d.sz) (h : Opens P f.type d Wf) : OpensAt P [f] off d Wf := by
  intro H enc w base spare held n cs hl hx
  obtain ⟨x, hx⟩ := hx 0 f rfl
  rw [ho, hs] at hx
  have : (cs.drop off).take d.sz = cs.drop off := List.take_of_length_le (by simp; omega)
  rw [this] at hx
  exact h enc w base spare held n _ _ hx
theorem OpensAt.cons {α β : Type} {P : Program} {f : Field} {fs : List Field} {off : Nat} {d : Kd α} {e : Kd β} {Wf : α → Prop} {Vf : β → Prop} (ho : f.offset = off) (hs : P.cellsOf f.type = d.sz) (h : Opens P f.type d Wf)
    (ht : OpensAt P fs (off + d.sz) e Vf) : OpensAt P (f :: fs) off (Kd.pair d e) (fun x => Wf x.1 ∧ Vf x.2) := by
  intro H enc w base spare held n cs hl hx
  have hl2 : cs.length = off + d.sz + e.sz := by rw [hl]; show off + (d.sz + e.sz) = _; omega
  obtain ⟨b, hb, hv⟩ := ht enc w base spare held n cs hl2 (fun i f hf => hx (i + 1) f (by simpa using hf))
  obtain ⟨x, hx⟩ := hx 0 f rfl
  rw [ho, hs] at hx
  obtain ⟨a, ha, hw⟩ := h enc w base spare held n _ _ hx
  refine ⟨(a, b), ⟨_, _, ?_, ha, hb⟩, hw, hv⟩
  rw [← List.drop_drop, List.take_append_drop]
theorem Opens.struct {α β : Type} {P : Program} {t : TypeId} {fs : Array Field} {d : Kd β} {f : α → β} {g : β → α} {Wf : β → Prop} (ht : P.underlying t = some (.struct fs)) (hs : P.cellsOf t = d.sz) (hfg : ∀ x, f (g x) = x)
    (h : OpensAt P fs.toList 0 d Wf) : Opens P t (Kd.iso d f) (fun x => Wf (f x)) := by
  intro H enc w base spare held fuel cs x hx
  obtain ⟨xs, n, rfl, _, hl, hxl, hg⟩ := DataW.trod_struct ht hx
  obtain ⟨a, ha, hw⟩ := h enc w base spare held n cs (by rw [hl, hs]; omega) (fun i q hq => by
    have hi : i < fs.size := by have := (List.getElem?_eq_some_iff.1 hq).1; simpa using this
    refine ⟨xs[i], ?_⟩
    rw [hg i q (by simpa using hq), List.getElem?_eq_getElem (by omega)])
  refine ⟨g a, ?_, ?_⟩
  · show d.K w (f (g a)) cs
    rw [hfg]; simpa using ha
  · show Wf (f (g a))
    rw [hfg]; exact hw
end Go.Proofs.YtolefpeiceiocaaGreatW.Opens
/- HOW THE ARGUMENTS OF THE LAWS ARE READ: numbers, lists of them, values, lists of those, and lists of those. No condition. -/
namespace Go.Proofs.YtolefpeiceiocaaGreat.Ps
open Go.RowKit Go.ChangeShapes Go.WideShapes Go.Proofs.YtolefpeiceiocaaGreatW.PrintWords Go.Proofs.YtolefpeiceiocaaGreatW.Opens

theorem wf_i64 {n : Int} (h : (Lit.int .i64 n).wf = true) : inI n := by
  simp only [Lit.wf, Bool.and_eq_true, IntKind.min, IntKind.max, IntKind.signed, IntKind.bits] at h
  have h1 : -9223372036854775808 ≤ n := by simpa using h.1
  have h2 : n ≤ 9223372036854775807 := by simpa using h.2
  exact ⟨h1, h2⟩
def wfV (x : Sv) : Prop := (Lit.int .i64 x.f0).wf = true ∧ (Lit.int .i64 x.f1).wf = true ∧ x.f2.size ≤ maxLen
theorem wfV_ok {x : Sv} (h : wfV x) : okS x := ⟨wf_i64 h.1, wf_i64 h.2.1, h.2.2⟩
theorem opensV : Opens Tryz.prog 25 k25 wfV := by
  refine Opens.struct (g := fun x : Int × Int × ByteArray => (⟨x.1, x.2.1, x.2.2⟩ : Sv)) (Wf := fun x : Int × Int × ByteArray => (Lit.int .i64 x.1).wf = true ∧ (Lit.int .i64 x.2.1).wf = true ∧ x.2.2.size ≤ maxLen) Tryz.underlying25 (by kernel_rfl) (fun _ => rfl) ?_
  apply OpensAt.cons (Wf := fun n => (Lit.int .i64 n).wf = true) (Vf := fun x : Int × ByteArray => (Lit.int .i64 x.1).wf = true ∧ x.2.size ≤ maxLen)
  · rfl
  · kernel_rfl
  · exact @Opens.int _ _ _ Tryz.underlying3
  apply OpensAt.cons (Wf := fun n => (Lit.int .i64 n).wf = true) (Vf := fun s : ByteArray => s.size ≤ maxLen)
  · rfl
  · kernel_rfl
  · exact @Opens.int _ _ _ Tryz.underlying2
  apply OpensAt.last
  · rfl
  · kernel_rfl
  · exact @Opens.string _ _ Tryz.underlying9
theorem opens22 : Opens Tryz.prog 22 (Kd.slice 25 k25) (fun xs => xs.length ≤ maxLen ∧ ∀ x ∈ xs, wfV x) := @Opens.slice _ _ _ _ _ _ Tryz.underlying22 (by kernel_rfl) @opensV
theorem opens34 : Opens Tryz.prog 34 (Kd.slice 22 (Kd.slice 25 k25)) (fun xs => xs.length ≤ maxLen ∧ ∀ y ∈ xs, y.length ≤ maxLen ∧ ∀ x ∈ y, wfV x) := @Opens.slice _ _ _ _ _ _ Tryz.underlying34 (by kernel_rfl) @opens22
theorem open_slice_wf {P : Program} {α : Type} {H : Type} {enc : TypeId × Value → H} {w : World} {r : Reach} {b base : Nat} {sp : Nat → Bool} {held : Bool} {t e : TypeId} {d : Kd α} {Wf : List α → Prop} {v : Value} {x : DataW H} {ps : List MemPlace}
    (ho : Opens P t (Kd.slice e d) Wf) (ht : P.underlying t = some (.slice e)) (hval : Value.okWide P w r b t v) (hd : DataW.Trod enc P w base sp held t v x ps) :
    ∃ (A : Option Addr) (c : Nat) (l : List α), v = .slice A l.length c ∧ l.length ≤ c ∧ Kd.C d w A l.length l ∧ Wf l := by
  obtain ⟨a0, len, cap, rfl⟩ := okWide_slice ht hval
  obtain ⟨fuel, hf⟩ := hd
  obtain ⟨l, ⟨A, c, e1, hl, hC⟩, hw⟩ := ho enc w base sp held fuel _ _ hf
  simp [Value.cells] at e1
  obtain ⟨rfl, rfl, rfl⟩ := e1
  exact ⟨_, _, l, rfl, hl, hC, hw⟩
theorem open_i64 {P : Program} {H : Type} {enc : TypeId × Value → H} {w : World} {base : Nat} {sp : Nat → Bool} {held : Bool} {t : TypeId} {n : Int} {x : DataW H} {ps : List MemPlace}
    (ht : P.underlying t = some (.int .i64)) (hd : DataW.Trod enc P w base sp held t (.int .i64 n) x ps) : inI n := by
  obtain ⟨fuel, hf⟩ := hd
  obtain ⟨n', e, _, hw⟩ := DataW.trod_int ht hf
  have e : n = n' := by simpa [Value.cells] using e
  subst e
  exact wf_i64 hw
end Go.Proofs.YtolefpeiceiocaaGreat.Ps
