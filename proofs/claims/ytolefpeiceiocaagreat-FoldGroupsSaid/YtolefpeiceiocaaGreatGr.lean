/- flo's Add, Div, Of and math/bits' Add64, as the printed texts ask for them. Condition: int64s; a carry of 0 or 1. -/
import Derived.Test.YtolefpeiceiocaaGreatGd
import Derived.Test.YtolefpeiceiocaaGreatW4
import Derived.Laws.Externs
import Derived.Sort.Grow
import Derived.Below
import Derived.Maps.AppendAt
import Derived.Laws.AppendOwn
import Derived.Deep.Draws
import Derived.WalkKit
namespace Go.Proofs.YtolefpeiceiocaaGreat.Ps
open Go Go.RowKit Go.Proofs.YtolefpeiceiocaaGreatW.PrintWords Go.Proofs.YtolefpeiceiocaaGreatW.PrintLast AnteFlo
set_option linter.unusedVariables false

theorem flo_Add.calls (a0 a1 r : Int) (w : World) (h : flo_Add.f a0 a1 = some r) : Calls Tryz.prog 38 #[.int .i64 a0, .int .i64 a1] w fun e w' => e = .returned (.int .i64 r) ∧ Drawn0 w w' := by
  unfold flo_Add.f at h
  split at h
  · rename_i hh
    obtain rfl := Option.some.inj h
    exact (add_any a0 a1 hh.1 hh.2 w).mono fun e w' ⟨h1, h2⟩ => ⟨h1, ⟨by rw [h2]; exact fworld_drewN ..⟩⟩
  · cases h
theorem flo_Div.calls (a0 a1 r : Int) (w : World) (h : flo_Div.f a0 a1 = some r) : Calls Tryz.prog 16 #[.int .i64 a0, .int .i64 a1] w fun e w' => e = .returned (.int .i64 r) ∧ Drawn0 w w' := by
  unfold flo_Div.f at h
  split at h
  · rename_i hh
    obtain rfl := Option.some.inj h
    exact (div_any a0 a1 hh.1 hh.2 w).mono fun e w' ⟨h1, h2⟩ => ⟨h1, ⟨by rw [h2]; exact fworld_drewN ..⟩⟩
  · cases h
theorem flo_Of.calls (a0 r : Int) (w : World) (h : flo_Of.f a0 = some r) : Calls Tryz.prog 18 #[.int .i64 a0] w fun e w' => e = .returned (.int .i64 r) ∧ Drawn0 w w' := by
  unfold flo_Of.f at h
  split at h
  · obtain rfl := Option.some.inj h
    exact (of_any a0 w).mono fun e w' ⟨h1, h2⟩ => ⟨h1, by subst h2; exact Drawn0.refl _⟩
  · cases h

/-- A call that runs here and now. -/
structure CallsX (P : Program) (f : FuncId) (args : Array Value) (w : World) (R : Ending → World → Prop) : Prop where
  out : ∃ v, (callFunc f args).run P w = .ok (.value v) w ∧ R (.returned v) w
theorem CallsX.mono {P : Program} {f : FuncId} {args : Array Value} {w : World} {R R' : Ending → World → Prop} (h : CallsX P f args w R) (hR : ∀ e w', R e w' → R' e w') : CallsX P f args w R' := by
  obtain ⟨v, h1, h2⟩ := h.out
  exact ⟨v, h1, hR _ _ h2⟩
theorem goesX_ {P : Program} {ops : Array Oper} {Q : Exit → Act → World → Prop} {rest : List Oper} {oi : Oper} {a : Act} {w : World} (N : Option Tmp) (hd : oi.dst = N) (hg : oi.guard = none) {f : FuncId} {es : Array Operand} {ts : Array TypeId} (args : Array Value)
    (hop : oi.op = .call { callee := .value (.func f), args := es, argTypes := ts }) (hargs : es.map a.eval = args)
    (h : CallsX P f args w fun e w' => ∃ v, e = .returned v ∧ wpList P ops Q rest (a.put N v) w') : wpList P ops Q (oi :: rest) a w := by
  refine wpList_plain hg fun K hK => ?_
  obtain ⟨v, hr, v', e, hw⟩ := h.out
  cases e
  have hrun : (execOp a.eval oi).run P w = .ok (.value v) w := by
    unfold execOp
    simp [hop, resolve, Deferred.ofValue, invoke, Act.eval, hargs, hr]
  unfold Oper.wp
  rw [hrun]
  subst hd
  exact hK _ _ hw
theorem bits_Add64.calls (a0 a1 a2 r1 r2 : Int) (w : World) (h : bits_Add64.f a0 a1 a2 = some (r1, r2)) : CallsX Tryz.prog 39 #[.int .u64 a0, .int .u64 a1, .int .u64 a2] w fun e w' => e = .returned (.tuple #[.int .u64 r1, .int .u64 r2]) ∧ Drawn0 w w' := by
  unfold bits_Add64.f at h
  split at h
  · rename_i hh
    obtain ⟨rfl, rfl⟩ := Prod.mk.inj (Option.some.inj h)
    refine ⟨_, ?_, rfl, Drawn0.refl _⟩
    rw [run_callFunc_extern Tryz.func39 (by kernel_rfl) (by kernel_rfl) (by kernel_rfl) (e := add64Entry) (by kernel_rfl), run_add64 a0 a1 a2 hh.1 hh.2.1 hh.2.2.1 hh.2.2.2]
    rfl
  · cases h
end Go.Proofs.YtolefpeiceiocaaGreat.Ps
/- A WORLD THAT ANOTHER ONE HAS BECOME BY DRAWS AND NEW BLOCKS ALONE; and append's law with the draws. No condition. -/
namespace Go.Proofs.YtolefpeiceiocaaGreat
open Go Go.Sort Go.RowKit

/-- w' is w, some draws on, with new blocks behind its own. -/
structure Grown (w w' : World) : Prop where
  below : Below w.heap.size w w'
  drawn : w.drawn ≤ w'.drawn

theorem Grown.refl (w : World) : Grown w w := ⟨Below.refl _ _, Nat.le_refl _⟩
theorem Grown.trans {a b c : World} (h : Grown a b) (k : Grown b c) : Grown a c := ⟨h.below.trans (k.below.mono h.below.size), Nat.le_trans h.drawn k.drawn⟩
theorem Grown.alloc {a b : World} (h : Grown a b) (o : Obj) : Grown a (b.alloc o) := ⟨h.below.alloc h.below.size o, h.drawn⟩
theorem Grown.drew {a b : World} (h : Grown a b) : Grown a b.drew := ⟨h.below.drew, Nat.le_succ_of_le h.drawn⟩
theorem Grown.drewN {a b : World} (h : Grown a b) (n : Nat) : Grown a (b.drewN n) := ⟨h.below.trans ⟨rfl, rfl, rfl, Nat.le_refl _, fun _ _ => rfl⟩, Nat.le_trans h.drawn (Nat.le_add_right _ _)⟩
theorem Grown.setCell {a b : World} (h : Grown a b) {p : Addr} (hp : a.heap.size ≤ p.block) (v : Value) : Grown a (b.setCell p v) := ⟨h.below.setCell hp v, h.drawn⟩
theorem Grown.size {a b : World} (h : Grown a b) : a.heap.size ≤ b.heap.size := h.below.size

theorem Grown.eq {w w' : World} (h : Grown w w') : ∃ q os, w' = grow (w.drewN q) os := by
  refine ⟨w'.drawn - w.drawn, w'.heap.extract w.heap.size w'.heap.size, ?_⟩
  obtain ⟨⟨h1, h2, h3, h4, h5⟩, h6⟩ := h
  cases w with | mk hp tp dr os ou =>
  cases w' with | mk hp' tp' dr' os' ou' =>
  simp only at h1 h2 h3 h4 h5 h6
  simp only [grow, World.drewN, World.mk.injEq]
  refine ⟨?_, h2, by omega, h1, h3⟩
  apply Array.ext_getElem?
  intro k
  simp only [Array.getElem?_append, Array.getElem?_extract]
  by_cases hk : k < hp.size
  · rw [if_pos hk, h5 k hk]
  · rw [if_neg hk]
    by_cases hk2 : k < hp'.size
    · rw [if_pos (by omega)]; congr 1; omega
    · rw [if_neg (by omega)]; simp; omega
theorem Grown.of_eq {w w' : World} (h : ∃ q os, w' = grow (w.drewN q) os) : Grown w w' := by
  obtain ⟨q, os, rfl⟩ := h
  exact ⟨⟨rfl, rfl, rfl, by simp [grow, World.drewN], fun k hk => by simp [grow, World.drewN, Array.getElem?_append, hk]⟩, by simp [grow, World.drewN]⟩

section
variable {P : Program} (w : World)
theorem run_append_own_d (base : Nat) (t ty e : TypeId) (i : TypeInfo) (z : Value) (size bytes : Nat) (ht : P.underlying t = some (.slice e)) (hi : P.info? e = some i) (hz : i.zero = some z)
    (hsize : i.size = size) (hby : i.bytes = bytes) (hzs : z.cells.size = size) (hsz : 0 < size)
    (v : Value) (n : Nat) (xs : List Value) (hown : w.ownsRow base e size v n xs)
    (a : Addr) (m c : Nat) (news : List Value) (hl : news.length = m * size) (hnews : ∀ j u, news[j]? = some u → w.cell? (a.add j) = some u) (h1 : ∀ u ∈ news, u.oneCell' = true)
    (h63 : n + m ≤ maxLen) (hbytes : (n + m) * bytes ≤ 140737488355328) (hbase : base ≤ w.heap.size) :
    ∃ v' w', (Builtin.append_ #[t, t] ty #[v, .slice (some a) m c]).run P w = .ok v' w' ∧ w'.ownsRow base e size v' (n + m) (xs ++ news) ∧ w.grownBy w' v.ownBlock ∧
      (v' = .slice none 0 0 ↔ v = .slice none 0 0 ∧ m = 0) ∧ w.drawn ≤ w'.drawn := by
  obtain ⟨v', w', hr, g1, g2, g3⟩ := run_append_own (P := P) w base t ty e i z size bytes ht hi hz hsize hby hzs hsz v n xs hown a m c news hl hnews h1 h63 hbytes hbase
  refine ⟨v', w', hr, g1, g2, g3, ?_⟩
  subst hsize
  subst hby
  have hsmall : n + m ≤ 9223372036854775807 := by simp only [maxLen] at h63; omega
  rcases hown.2 with ⟨rfl, rfl⟩ | ⟨g, cap, cur, rfl, hbg, hg, hnc, hcm, hcs, htake⟩
  · have hx : xs = [] := List.eq_nil_of_length_eq_zero (by simpa using hown.1)
    subst hx
    by_cases hm : m = 0
    · subst hm
      have hn : news = [] := List.eq_nil_of_length_eq_zero (by simpa using hl)
      subst hn
      have : (Builtin.append_ #[t, t] ty #[.slice none 0 0, .slice (some a) 0 c]).run P w = .ok (.slice none 0 0) w := by
        simp [Builtin.append_, run_underlying ht, sizeOf, typeInfo, hi, Builtin.lenOf, Builtin.firstCells, loadCells, loadCellsFrom]
      rw [this] at hr
      cases hr
      exact Nat.le_refl _
    · rw [run_append_nil (P := P) w t ty e i z ht hi hz a m c news hl hnews (by omega) (by omega) (by have hb := hbytes; simp only [Nat.zero_add] at hb; omega)] at hr
      cases hr
      exact Nat.le_succ _
  · by_cases hroom : n + m ≤ cap
    · have hfit : n * i.size + news.length ≤ cur.size := by rw [hl, hcs, ← Nat.add_mul]; exact Nat.mul_le_mul_right _ hroom
      rw [run_append_room (P := P) w t ty e i ht hi g n cap cur hg a m c news hl hnews h1 hroom hfit] at hr
      cases hr
      exact Nat.le_refl _
    · have holds : ∀ j u, xs[j]? = some u → w.cell? ((⟨g, 0, none⟩ : Addr).add j) = some u := hown.cells (g := g) rfl
      rw [run_append_grow (P := P) w t ty e i z ht hi hz ⟨g, 0, none⟩ n cap xs hown.1 holds a m c news hl hnews (by omega) (by omega) (growslice_fits (by omega) hbytes)] at hr
      cases hr
      exact Nat.le_succ _

theorem append_step_d {ops : Array Oper} {o : Oper} {a : Act} {K : Act → World → Prop} {Q : Exit → Act → World → Prop} (hw : Region.wanted o (yielded ops a.tmps) = true) (s x : Operand) (t : TypeId)
    (ho : o.op = .call { callee := .builtin .append, args := #[s, x], argTypes := #[t, t] })
    (base : Nat) (e : TypeId) (i : TypeInfo) (z : Value) (size bytes : Nat) (ht : P.underlying t = some (.slice e)) (hi : P.info? e = some i) (hz : i.zero = some z)
    (hsize : i.size = size) (hby : i.bytes = bytes) (hzs : z.cells.size = size) (hsz : 0 < size)
    (v : Value) (n : Nat) (xs : List Value) (hs : a.eval s = v) (hown : w.ownsRow base e size v n xs)
    (ad : Addr) (m c : Nat) (news : List Value) (hx : a.eval x = .slice (some ad) m c) (hl : news.length = m * size) (hnews : ∀ j u, news[j]? = some u → w.cell? (ad.add j) = some u) (h1 : ∀ u ∈ news, u.oneCell' = true)
    (h63 : n + m ≤ maxLen) (hbytes : (n + m) * bytes ≤ 140737488355328) (hbase : base ≤ w.heap.size)
    (h : ∀ v' w', w'.ownsRow base e size v' (n + m) (xs ++ news) → w.grownBy w' v.ownBlock → (v' = .slice none 0 0 ↔ v = .slice none 0 0 ∧ m = 0) → w.drawn ≤ w'.drawn → K (a.put o.dst v') w') :
    if Region.wanted o (yielded ops a.tmps) = true then o.wp P a w K Q else K (a.put o.dst undef) w := by
  rw [if_pos hw]
  obtain ⟨v', w', hr, h2, h3, h4, h5⟩ := run_append_own_d (P := P) w base t o.type e i z size bytes ht hi hz hsize hby hzs hsz v n xs hown ad m c news hl hnews h1 h63 hbytes hbase
  unfold Oper.wp execOp
  simp only [ho, resolve, invoke, builtin, Sem.run_bind, Sem.run_pure, Result.andThen_ok, List.map_toArray, List.map_cons, List.map_nil, hs, hx, hr]
  exact h v' w' h2 h3 h4 h5

theorem wpList_append_own_d {ops : Array Oper} {rest : List Oper} {o : Oper} {a : Act} {Q : Exit → Act → World → Prop} (hgd : o.guard = none) (s x : Operand) (t : TypeId)
    (ho : o.op = .call { callee := .builtin .append, args := #[s, x], argTypes := #[t, t] })
    (base : Nat) (e : TypeId) (i : TypeInfo) (z : Value) (size bytes : Nat) (ht : P.underlying t = some (.slice e)) (hi : P.info? e = some i) (hz : i.zero = some z)
    (hsize : i.size = size) (hby : i.bytes = bytes) (hzs : z.cells.size = size) (hsz : 0 < size)
    (v : Value) (n : Nat) (xs : List Value) (hs : a.eval s = v) (hown : w.ownsRow base e size v n xs)
    (ad : Addr) (m c : Nat) (news : List Value) (hx : a.eval x = .slice (some ad) m c) (hl : news.length = m * size) (hnews : ∀ j u, news[j]? = some u → w.cell? (ad.add j) = some u) (h1 : ∀ u ∈ news, u.oneCell' = true)
    (h63 : n + m ≤ maxLen) (hbytes : (n + m) * bytes ≤ 140737488355328) (hbase : base ≤ w.heap.size)
    (h : ∀ v' w', w'.ownsRow base e size v' (n + m) (xs ++ news) → w.grownBy w' v.ownBlock → (v' = .slice none 0 0 ↔ v = .slice none 0 0 ∧ m = 0) → w.drawn ≤ w'.drawn → wpList P ops Q rest (a.put o.dst v') w') :
    wpList P ops Q (o :: rest) a w := by
  refine wpList_plain hgd fun K hK => ?_
  obtain ⟨v', w', hr, h2, h3, h4, h5⟩ := run_append_own_d (P := P) w base t o.type e i z size bytes ht hi hz hsize hby hzs hsz v n xs hown ad m c news hl hnews h1 h63 hbytes hbase
  unfold Oper.wp execOp
  simp only [ho, resolve, invoke, builtin, Sem.run_bind, Sem.run_pure, Result.andThen_ok, List.map_toArray, List.map_cons, List.map_nil, hs, hx, hr]
  exact hK _ _ (h v' w' h2 h3 h4 h5)
end
end Go.Proofs.YtolefpeiceiocaaGreat
