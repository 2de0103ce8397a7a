/- flo's Add, Div, Of and math/bits' Add64, as the printed texts ask for them. Condition: int64s; a carry of 0 or 1. -/
import Derived.Test.YtolefpeiceiocaaGreatGd
import Derived.Test.YtolefpeiceiocaaGreatW4
import Derived.Laws.Externs
namespace Go.Proofs.YtolefpeiceiocaaGreat.Ps
open Go Go.RowKit Go.Proofs.YtolefpeiceiocaaGreatW.PrintWords Go.Proofs.YtolefpeiceiocaaGreatW.PrintLast AnteFlo
set_option linter.unusedVariables false

theorem flo_Add.calls (a0 a1 r : Int) (w : World) (h : flo_Add.f a0 a1 = some r) : Calls Tryz.prog 38 #[.int .i64 a0, .int .i64 a1] w fun e w' => e = .returned (.int .i64 r) ∧ Drawn0 w w' := by
  unfold flo_Add.f at h
  split at h
  · rename_i hh
    obtain rfl := Option.some.inj h
    exact (add_any a0 a1 hh.1 hh.2 w).mono fun e w' ⟨h1, h2⟩ => ⟨h1, ⟨by rw [h2]; exact fworld_drewN ..⟩⟩
  · cases h
theorem flo_Div.calls (a0 a1 r : Int) (w : World) (h : flo_Div.f a0 a1 = some r) : Calls Tryz.prog 16 #[.int .i64 a0, .int .i64 a1] w fun e w' => e = .returned (.int .i64 r) ∧ Drawn0 w w' := by
  unfold flo_Div.f at h
  split at h
  · rename_i hh
    obtain rfl := Option.some.inj h
    exact (div_any a0 a1 hh.1 hh.2 w).mono fun e w' ⟨h1, h2⟩ => ⟨h1, ⟨by rw [h2]; exact fworld_drewN ..⟩⟩
  · cases h
theorem flo_Of.calls (a0 r : Int) (w : World) (h : flo_Of.f a0 = some r) : Calls Tryz.prog 18 #[.int .i64 a0] w fun e w' => e = .returned (.int .i64 r) ∧ Drawn0 w w' := by
  unfold flo_Of.f at h
  split at h
  · obtain rfl := Option.some.inj h
    exact (of_any a0 w).mono fun e w' ⟨h1, h2⟩ => ⟨h1, by subst h2; exact Drawn0.refl _⟩
  · cases h

/-- A call that runs here and now. -/
structure CallsX (P : Program) (f : FuncId) (args : Array Value) (w : World) (R : Ending → World → Prop) : Prop where
  out : ∃ v, (callFunc f args).run P w = .ok (.value v) w ∧ R (.returned v) w
theorem CallsX.mono {P : Program} {f : FuncId} {args : Array Value} {w : World} {R R' : Ending → World → Prop} (h : CallsX P f args w R) (hR : ∀ e w', R e w' → R' e w') : CallsX P f args w R' := by
  obtain ⟨v, h1, h2⟩ := h.out
  exact ⟨v, h1, hR _ _ h2⟩
theorem goesX_ {P : Program} {ops : Array Oper} {Q : Exit → Act → World → Prop} {rest : List Oper} {oi : Oper} {a : Act} {w : World} (N : Option Tmp) (hd : oi.dst = N) (hg : oi.guard = none) {f : FuncId} {es : Array Operand} {ts : Array TypeId} (args : Array Value)
    (hop : oi.op = .call { callee := .value (.func f), args := es, argTypes := ts }) (hargs : es.map a.eval = args)
    (h : CallsX P f args w fun e w' => ∃ v, e = .returned v ∧ wpList P ops Q rest (a.put N v) w') : wpList P ops Q (oi :: rest) a w := by
  refine wpList_plain hg fun K hK => ?_
  obtain ⟨v, hr, v', e, hw⟩ := h.out
  cases e
  have hrun : (execOp a.eval oi).run P w = .ok (.value v) w := by
    unfold execOp
    simp [hop, resolve, Deferred.ofValue, invoke, Act.eval, hargs, hr]
  unfold Oper.wp
  rw [hrun]
  subst hd
  exact hK _ _ hw
theorem bits_Add64.calls (a0 a1 a2 r1 r2 : Int) (w : World) (h : bits_Add64.f a0 a1 a2 = some (r1, r2)) : CallsX Tryz.prog 39 #[.int .u64 a0, .int .u64 a1, .int .u64 a2] w fun e w' => e = .returned (.tuple #[.int .u64 r1, .int .u64 r2]) ∧ Drawn0 w w' := by
  unfold bits_Add64.f at h
  split at h
  · rename_i hh
    obtain ⟨rfl, rfl⟩ := Prod.mk.inj (Option.some.inj h)
    refine ⟨_, ?_, rfl, Drawn0.refl _⟩
    rw [run_callFunc_extern Tryz.func39 (by kernel_rfl) (by kernel_rfl) (by kernel_rfl) (e := add64Entry) (by kernel_rfl), run_add64 a0 a1 a2 hh.1 hh.2.1 hh.2.2.1 hh.2.2.2]
    rfl
  · cases h
end Go.Proofs.YtolefpeiceiocaaGreat.Ps
