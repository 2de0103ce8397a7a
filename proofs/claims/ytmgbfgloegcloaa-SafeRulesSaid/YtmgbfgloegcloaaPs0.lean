import Derived.Test.YtmgbfgloegcloaaZip
import Derived.Test.YtmgbfgloegcloaaProg
import Derived.Below
import Derived.Deep.Draws
import Derived.Deep.AppendLies
import Derived.Maps.AppendAt
import Derived.OwnWalk
import Derived.Laws.BytesArg
import Derived.Laws.MakeOwn
import Derived.Laws.OwnMore
import Derived.Deep.OwnRows
import Derived.Tactics
import Derived.Lib.ConvBytes
import Derived.Laws.Slices
import Derived.WalkKit
import Derived.KernelRfl
import Derived.RowKit3
import Derived.Deep.LoopGhost
import Derived.Deep.QuietTactic
import Derived.BigQuiet
import Derived.WideLaws
import Derived.Deep.DeepCutAuto
import Derived.Deep.CutBlock
import Derived.Deep.RegionHeld3
import Derived.Laws.Rows
import Derived.Lib.AppendStr
import Derived.ArgAppend
import Derived.Laws.IdiomCopy
import Derived.OrdersHeld
import Derived.Laws.BitsLemmas
import Derived.RowKit
import Derived.WalkLawsBesides
import Derived.Test.YtmgbfgloegcloaaWWords
import Derived.Test.YtmgbfgloegcloaaWLast
import Derived.Test.YtmgbfgloegcloaaWTab
import Derived.Test.YtmgbfgloegcloaaWApart
import Derived.Test.YtmgbfgloegcloaaWFoot
import Derived.Test.YtmgbfgloegcloaaWKept
import Derived.Test.YtmgbfgloegcloaaWShare
import Derived.Test.YtmgbfgloegcloaaWN
import Derived.Test.YtmgbfgloegcloaaWEqStruct
import Derived.Test.YtmgbfgloegcloaaWRepsOne
import Derived.Test.YtmgbfgloegcloaaWNEv
import Derived.Test.YtmgbfgloegcloaaWMore
namespace Go.Proofs.Ytmgbfgloegcloaa.Ps
open Go.RowKit Go.Proofs.YtmgbfgloegcloaaW.PrintWords Go.Proofs.YtmgbfgloegcloaaW.PrintLast Go.Proofs.YtmgbfgloegcloaaW.PrintMore
attribute [local go_sem] yD yB yR yQ ym yl yC yA
set_option linter.unusedVariables false
set_option linter.unusedSimpArgs false
def errW : Option Int → Value
 | none => .nilIface
 | some c => .iface 0 (.int .i64 c)
theorem zA : errW none = .nilIface := rfl
theorem zz (c : Int) : errW (some c) = .iface 0 (.int .i64 c) := rfl
theorem info3 : (Try.prog.info? 3).map (fun i => (i.zero, i.size, i.bytes)) = some (some (.int .i64 0), 1, 8) := by kernel_rfl
theorem info4 : (Try.prog.info? 4).map (fun i => (i.zero, i.size, i.bytes)) = some (some (.bool false), 1, 1) := by kernel_rfl
theorem info9 : (Try.prog.info? 9).map (fun i => (i.zero, i.size, i.bytes)) = some (some (.string ⟨#[]⟩), 1, 16) := by kernel_rfl
theorem info40 : (Try.prog.info? 40).map (fun i => (i.zero, i.size, i.bytes)) = some (some (.agg #[(.string ⟨#[]⟩), (.int .i64 0), (.int .i64 0), (.string ⟨#[]⟩)]), 4, 48) := by kernel_rfl
theorem info43 : (Try.prog.info? 43).map (fun i => (i.zero, i.size, i.bytes)) = some (some (.agg #[(.int .i64 0), (.string ⟨#[]⟩), (.slice none 0 0), (.string ⟨#[]⟩), (.string ⟨#[]⟩), (.int .i64 0), (.int .i64 0), (.string ⟨#[]⟩), (.string ⟨#[]⟩), (.int .i64 0), (.int .i64 0), (.string ⟨#[]⟩), (.string ⟨#[]⟩), (.int .i64 0), (.int .i64 0), (.string ⟨#[]⟩), (.slice none 0 0)]), 17, 232) := by kernel_rfl
theorem info51 : (Try.prog.info? 51).map (fun i => (i.zero, i.size, i.bytes)) = some (some (.agg #[(.string ⟨#[]⟩), (.slice none 0 0), (.int .i64 0), (.slice none 0 0)]), 4, 72) := by kernel_rfl
structure S38 where
 f0 : Int
 f1 : Int
 f2 : ByteArray
def z38 : S38 := ⟨(0 : Int), (0 : Int), (⟨#[]⟩ : ByteArray)⟩
def k38 : Kd S38 := Kd.iso (Kd.pair (Kd.int .i64) (Kd.pair (Kd.int .i64) Kd.string)) (fun x : S38 => (x.f0, x.f1, x.f2))
theorem k38_heap : Kd.Heap k38 := Kd.heap_iso _ (Kd.qi (Kd.heap_int .i64) (Kd.qi (Kd.heap_int .i64) Kd.heap_string))
theorem k38_open {w : World} {x : S38} {cs : List Value} (h : k38.K w x cs) : cs = [.int .i64 x.f0, .int .i64 x.f1, .string x.f2] := by
 obtain ⟨_, _, rfl, rfl, ⟨_, _, rfl, rfl, rfl⟩⟩ := h
 exact rfl
theorem k38_mk (w : World) (x : S38)  : k38.K w x [.int .i64 x.f0, .int .i64 x.f1, .string x.f2] := ⟨[.int .i64 x.f0], [.int .i64 x.f1, .string x.f2], rfl, rfl, ⟨[.int .i64 x.f1], [.string x.f2], rfl, rfl, rfl⟩⟩
theorem k38_mkM (w : World) (base : Nat) (ok : Nat → Prop) (x : S38)  : k38.M w base ok x [.int .i64 x.f0, .int .i64 x.f1, .string x.f2] := ⟨[.int .i64 x.f0], [.int .i64 x.f1, .string x.f2], rfl, rfl, ⟨[.int .i64 x.f1], [.string x.f2], rfl, rfl, rfl⟩⟩
structure S40 where
 f0 : ByteArray
 f1 : S38
def z40 : S40 := ⟨(⟨#[]⟩ : ByteArray), z38⟩
def k40 : Kd S40 := Kd.iso (Kd.pair Kd.string k38) (fun x : S40 => (x.f0, x.f1))
theorem k40_heap : Kd.Heap k40 := Kd.heap_iso _ (Kd.qi Kd.heap_string k38_heap)
theorem k40_open {w : World} {x : S40} {cs : List Value} (h : k40.K w x cs) : cs = [.string x.f0, .int .i64 x.f1.f0, .int .i64 x.f1.f1, .string x.f1.f2] := by
 obtain ⟨_, _, rfl, rfl, s1⟩ := h
 obtain rfl := k38_open s1
 exact rfl
theorem k40_mk (w : World) (x : S40)  : k40.K w x [.string x.f0, .int .i64 x.f1.f0, .int .i64 x.f1.f1, .string x.f1.f2] := ⟨[.string x.f0], [.int .i64 x.f1.f0, .int .i64 x.f1.f1, .string x.f1.f2], rfl, rfl, (k38_mk w x.f1 )⟩
theorem qF (w : World) (base : Nat) (ok : Nat → Prop) (x : S40)  : k40.M w base ok x [.string x.f0, .int .i64 x.f1.f0, .int .i64 x.f1.f1, .string x.f1.f2] := ⟨[.string x.f0], [.int .i64 x.f1.f0, .int .i64 x.f1.f1, .string x.f1.f2], rfl, rfl, (k38_mkM w base ok x.f1 )⟩
def yf (xs : List S40) (i : Int) : S40 := xs.getD i.toNat z40
theorem at_T40 {w : World} {A : Option Addr} {n : Nat} {xs : List S40} (h : Kd.C k40 w A n xs) (i : Int) (h0 : 0 ≤ i) (h1 : i < n) : ∃ ad , A = some ad ∧ w.cell? (ad.add (i.toNat * 4)) = some (.string (yf xs i).f0) ∧ w.cell? ⟨(ad.add (i.toNat * 4)).block, (ad.add (i.toNat * 4)).off + 1, none⟩ = some (.int .i64 (yf xs i).f1.f0) ∧ w.cell? ⟨(ad.add (i.toNat * 4)).block, (ad.add (i.toNat * 4)).off + 2, none⟩ = some (.int .i64 (yf xs i).f1.f1) ∧ w.cell? ⟨(ad.add (i.toNat * 4)).block, (ad.add (i.toNat * 4)).off + 3, none⟩ = some (.string (yf xs i).f1.f2) := by
 obtain ⟨ad, c, e, _, hK, hc0⟩ := Kd.C_get h z40 i h0 h1
 have hc : ∀ j u, c[j]? = some u → w.cell? (ad.add (i.toNat * 4 + j)) = some u := hc0
 obtain rfl := k40_open hK
 exact ⟨ad, e, hc 0 _ rfl, by rw [← yd _ _ 1 (by omega)]; exact hc 1 _ rfl, by rw [← yd _ _ 2 (by omega)]; exact hc 2 _ rfl, by rw [← yd _ _ 3 (by omega)]; exact hc 3 _ rfl⟩
def rd_L5 (xs : List (List S40)) (i : Int) : (List S40) := xs.getD i.toNat ([] : List S40)
theorem at_L5 {w : World} {A : Option Addr} {n : Nat} {xs : List (List S40)} (h : Kd.C (Kd.slice 40 k40) w A n xs) (i : Int) (h0 : 0 ≤ i) (h1 : i < n) : ∃ ad A0 c0, A = some ad ∧ w.cell? (ad.add i.toNat) = some (.slice A0 (rd_L5 xs i).length c0) ∧ (rd_L5 xs i).length ≤ c0 ∧ k40.C w A0 (rd_L5 xs i).length (rd_L5 xs i) := by
 obtain ⟨ad, c, e, _, hK, hc0⟩ := Kd.C_get h ([] : List S40) i h0 h1
 have hc : ∀ j u, c[j]? = some u → w.cell? (ad.add (i.toNat * 1 + j)) = some u := hc0
 obtain ⟨A0, c0, rfl, l0, g0⟩ := hK
 exact ⟨ad, A0, c0, e, by have hq := hc 0 _ rfl; rwa [Nat.mul_one, Nat.add_zero] at hq, l0, g0⟩
structure S82 where
 f0 : Int
 f1 : ByteArray
def z82 : S82 := ⟨(0 : Int), (⟨#[]⟩ : ByteArray)⟩
def k82 : Kd S82 := Kd.iso (Kd.pair (Kd.int .i64) Kd.string) (fun x : S82 => (x.f0, x.f1))
theorem k82_heap : Kd.Heap k82 := Kd.heap_iso _ (Kd.qi (Kd.heap_int .i64) Kd.heap_string)
theorem k82_open {w : World} {x : S82} {cs : List Value} (h : k82.K w x cs) : cs = [.int .i64 x.f0, .string x.f1] := by
 obtain ⟨_, _, rfl, rfl, rfl⟩ := h
 exact rfl
def rd_T82 (xs : List S82) (i : Int) : S82 := xs.getD i.toNat z82
theorem at_T82 {w : World} {A : Option Addr} {n : Nat} {xs : List S82} (h : Kd.C k82 w A n xs) (i : Int) (h0 : 0 ≤ i) (h1 : i < n) : ∃ ad , A = some ad ∧ w.cell? (ad.add (i.toNat * 2)) = some (.int .i64 (rd_T82 xs i).f0) ∧ w.cell? ⟨(ad.add (i.toNat * 2)).block, (ad.add (i.toNat * 2)).off + 1, none⟩ = some (.string (rd_T82 xs i).f1) := by
 obtain ⟨ad, c, e, _, hK, hc0⟩ := Kd.C_get h z82 i h0 h1
 have hc : ∀ j u, c[j]? = some u → w.cell? (ad.add (i.toNat * 2 + j)) = some u := hc0
 obtain rfl := k82_open hK
 exact ⟨ad, e, hc 0 _ rfl, by rw [← yd _ _ 1 (by omega)]; exact hc 1 _ rfl⟩
structure S36 where
 f0 : ByteArray
 f1 : (List S40)
def z36 : S36 := ⟨(⟨#[]⟩ : ByteArray), ([] : List S40)⟩
def k36 : Kd S36 := Kd.iso (Kd.pair Kd.string (Kd.slice 40 k40)) (fun x : S36 => (x.f0, x.f1))
theorem k36_heap : Kd.Heap k36 := Kd.heap_iso _ (Kd.qi Kd.heap_string (Kd.heap_slice 40 k40_heap))
theorem k36_open {w : World} {x : S36} {cs : List Value} (h : k36.K w x cs) : ∃ A1 c1, cs = [.string x.f0, .slice A1 x.f1.length c1] ∧ x.f1.length ≤ c1 ∧ k40.C w A1 x.f1.length x.f1 := by
 obtain ⟨_, _, rfl, rfl, ⟨A1, c1, rfl, l1, g1⟩⟩ := h
 exact ⟨A1, c1, rfl, l1, g1⟩
theorem k36_mk (w : World) (x : S36) {A1 : Option Addr} {c1 : Nat} (l1 : x.f1.length ≤ c1) (g1 : k40.C w A1 x.f1.length x.f1) : k36.K w x [.string x.f0, .slice A1 x.f1.length c1] := ⟨[.string x.f0], [.slice A1 x.f1.length c1], rfl, rfl, ⟨A1, c1, rfl, l1, g1⟩⟩
structure S43 where
 f0 : Int
 f1 : S36
 f2 : ByteArray
 f3 : S40
 f4 : S40
 f5 : S40
 f6 : (List S82)
def z43 : S43 := ⟨(0 : Int), z36, (⟨#[]⟩ : ByteArray), z40, z40, z40, ([] : List S82)⟩
def k43 : Kd S43 := Kd.iso (Kd.pair (Kd.int .i64) (Kd.pair k36 (Kd.pair Kd.string (Kd.pair k40 (Kd.pair k40 (Kd.pair k40 (Kd.slice 82 k82))))))) (fun x : S43 => (x.f0, x.f1, x.f2, x.f3, x.f4, x.f5, x.f6))
theorem k43_heap : Kd.Heap k43 := Kd.heap_iso _ (Kd.qi (Kd.heap_int .i64) (Kd.qi k36_heap (Kd.qi Kd.heap_string (Kd.qi k40_heap (Kd.qi k40_heap (Kd.qi k40_heap (Kd.heap_slice 82 k82_heap)))))))
theorem k43_open {w : World} {x : S43} {cs : List Value} (h : k43.K w x cs) : ∃ A2 c2 A16 c16, cs = [.int .i64 x.f0, .string x.f1.f0, .slice A2 x.f1.f1.length c2, .string x.f2, .string x.f3.f0, .int .i64 x.f3.f1.f0, .int .i64 x.f3.f1.f1, .string x.f3.f1.f2, .string x.f4.f0, .int .i64 x.f4.f1.f0, .int .i64 x.f4.f1.f1, .string x.f4.f1.f2, .string x.f5.f0, .int .i64 x.f5.f1.f0, .int .i64 x.f5.f1.f1, .string x.f5.f1.f2, .slice A16 x.f6.length c16] ∧ x.f1.f1.length ≤ c2 ∧ k40.C w A2 x.f1.f1.length x.f1.f1 ∧ x.f6.length ≤ c16 ∧ k82.C w A16 x.f6.length x.f6 := by
 obtain ⟨_, _, rfl, rfl, ⟨_, _, rfl, s1, ⟨_, _, rfl, rfl, ⟨_, _, rfl, s4, ⟨_, _, rfl, s8, ⟨_, _, rfl, s12, ⟨A16, c16, rfl, l16, g16⟩⟩⟩⟩⟩⟩⟩ := h
 obtain ⟨A2, c2, rfl, l2, g2⟩ := k36_open s1
 obtain rfl := k40_open s4
 obtain rfl := k40_open s8
 obtain rfl := k40_open s12
 exact ⟨A2, c2, A16, c16, rfl, l2, g2, l16, g16⟩
theorem k43_mk (w : World) (x : S43) {A2 : Option Addr} {c2 : Nat} (l2 : x.f1.f1.length ≤ c2) (g2 : k40.C w A2 x.f1.f1.length x.f1.f1) {A16 : Option Addr} {c16 : Nat} (l16 : x.f6.length ≤ c16) (g16 : k82.C w A16 x.f6.length x.f6) : k43.K w x [.int .i64 x.f0, .string x.f1.f0, .slice A2 x.f1.f1.length c2, .string x.f2, .string x.f3.f0, .int .i64 x.f3.f1.f0, .int .i64 x.f3.f1.f1, .string x.f3.f1.f2, .string x.f4.f0, .int .i64 x.f4.f1.f0, .int .i64 x.f4.f1.f1, .string x.f4.f1.f2, .string x.f5.f0, .int .i64 x.f5.f1.f0, .int .i64 x.f5.f1.f1, .string x.f5.f1.f2, .slice A16 x.f6.length c16] := ⟨[.int .i64 x.f0], [.string x.f1.f0, .slice A2 x.f1.f1.length c2, .string x.f2, .string x.f3.f0, .int .i64 x.f3.f1.f0, .int .i64 x.f3.f1.f1, .string x.f3.f1.f2, .string x.f4.f0, .int .i64 x.f4.f1.f0, .int .i64 x.f4.f1.f1, .string x.f4.f1.f2, .string x.f5.f0, .int .i64 x.f5.f1.f0, .int .i64 x.f5.f1.f1, .string x.f5.f1.f2, .slice A16 x.f6.length c16], rfl, rfl, ⟨[.string x.f1.f0, .slice A2 x.f1.f1.length c2], [.string x.f2, .string x.f3.f0, .int .i64 x.f3.f1.f0, .int .i64 x.f3.f1.f1, .string x.f3.f1.f2, .string x.f4.f0, .int .i64 x.f4.f1.f0, .int .i64 x.f4.f1.f1, .string x.f4.f1.f2, .string x.f5.f0, .int .i64 x.f5.f1.f0, .int .i64 x.f5.f1.f1, .string x.f5.f1.f2, .slice A16 x.f6.length c16], rfl, (k36_mk w x.f1 l2 g2), ⟨[.string x.f2], [.string x.f3.f0, .int .i64 x.f3.f1.f0, .int .i64 x.f3.f1.f1, .string x.f3.f1.f2, .string x.f4.f0, .int .i64 x.f4.f1.f0, .int .i64 x.f4.f1.f1, .string x.f4.f1.f2, .string x.f5.f0, .int .i64 x.f5.f1.f0, .int .i64 x.f5.f1.f1, .string x.f5.f1.f2, .slice A16 x.f6.length c16], rfl, rfl, ⟨[.string x.f3.f0, .int .i64 x.f3.f1.f0, .int .i64 x.f3.f1.f1, .string x.f3.f1.f2], [.string x.f4.f0, .int .i64 x.f4.f1.f0, .int .i64 x.f4.f1.f1, .string x.f4.f1.f2, .string x.f5.f0, .int .i64 x.f5.f1.f0, .int .i64 x.f5.f1.f1, .string x.f5.f1.f2, .slice A16 x.f6.length c16], rfl, (k40_mk w x.f3 ), ⟨[.string x.f4.f0, .int .i64 x.f4.f1.f0, .int .i64 x.f4.f1.f1, .string x.f4.f1.f2], [.string x.f5.f0, .int .i64 x.f5.f1.f0, .int .i64 x.f5.f1.f1, .string x.f5.f1.f2, .slice A16 x.f6.length c16], rfl, (k40_mk w x.f4 ), ⟨[.string x.f5.f0, .int .i64 x.f5.f1.f0, .int .i64 x.f5.f1.f1, .string x.f5.f1.f2], [.slice A16 x.f6.length c16], rfl, (k40_mk w x.f5 ), ⟨A16, c16, rfl, l16, g16⟩⟩⟩⟩⟩⟩⟩
theorem k43_openF {W : World} {ok : Nat → Prop} {x : S43} {cs : List Value} (h : Kd.FK k43 W ok x cs) : ∃ A2 c2 A16 c16, cs = [.int .i64 x.f0, .string x.f1.f0, .slice A2 x.f1.f1.length c2, .string x.f2, .string x.f3.f0, .int .i64 x.f3.f1.f0, .int .i64 x.f3.f1.f1, .string x.f3.f1.f2, .string x.f4.f0, .int .i64 x.f4.f1.f0, .int .i64 x.f4.f1.f1, .string x.f4.f1.f2, .string x.f5.f0, .int .i64 x.f5.f1.f0, .int .i64 x.f5.f1.f1, .string x.f5.f1.f2, .slice A16 x.f6.length c16] ∧ x.f1.f1.length ≤ c2 ∧ Kd.F k40 W ok A2 x.f1.f1.length x.f1.f1 ∧ x.f6.length ≤ c16 ∧ Kd.F k82 W ok A16 x.f6.length x.f6 := by
 obtain ⟨A2, c2, A16, c16, rfl, l2, _, l16, _⟩ := k43_open (Kd.FK_now h)
 exact ⟨A2, c2, A16, c16, rfl, l2, (fun W' hW => by obtain ⟨A2_, c2_, A16_, c16_, he, l2_, g2_, l16_, g16_⟩ := k43_open (h W' hW); injection (Option.some.inj (show some (Value.slice A2 x.f1.f1.length c2) = some (Value.slice A2_ x.f1.f1.length c2_) from congrArg (fun l => l[2]?) he)) with ha_ _ _; rw [ha_]; exact g2_), l16, (fun W' hW => by obtain ⟨A2_, c2_, A16_, c16_, he, l2_, g2_, l16_, g16_⟩ := k43_open (h W' hW); injection (Option.some.inj (show some (Value.slice A16 x.f6.length c16) = some (Value.slice A16_ x.f6.length c16_) from congrArg (fun l => l[16]?) he)) with ha_ _ _; rw [ha_]; exact g16_)⟩
theorem k43_mkF (W : World) (ok : Nat → Prop) (x : S43) {A2 : Option Addr} {c2 : Nat} (l2 : x.f1.f1.length ≤ c2) (g2 : Kd.F k40 W ok A2 x.f1.f1.length x.f1.f1) {A16 : Option Addr} {c16 : Nat} (l16 : x.f6.length ≤ c16) (g16 : Kd.F k82 W ok A16 x.f6.length x.f6) : Kd.FK k43 W ok x [.int .i64 x.f0, .string x.f1.f0, .slice A2 x.f1.f1.length c2, .string x.f2, .string x.f3.f0, .int .i64 x.f3.f1.f0, .int .i64 x.f3.f1.f1, .string x.f3.f1.f2, .string x.f4.f0, .int .i64 x.f4.f1.f0, .int .i64 x.f4.f1.f1, .string x.f4.f1.f2, .string x.f5.f0, .int .i64 x.f5.f1.f0, .int .i64 x.f5.f1.f1, .string x.f5.f1.f2, .slice A16 x.f6.length c16] := fun W2 hW => k43_mk W2 x l2 (g2 W2 hW) l16 (g16 W2 hW)
def za (xs : List S43) (i : Int) : S43 := xs.getD i.toNat z43
theorem qv {w : World} {A : Option Addr} {n : Nat} {xs : List S43} (h : Kd.C k43 w A n xs) (i : Int) (h0 : 0 ≤ i) (h1 : i < n) : ∃ ad A2 c2 A16 c16, A = some ad ∧ w.cell? (ad.add (i.toNat * 17)) = some (.int .i64 (za xs i).f0) ∧ w.cell? ⟨(ad.add (i.toNat * 17)).block, (ad.add (i.toNat * 17)).off + 1, none⟩ = some (.string (za xs i).f1.f0) ∧ w.cell? ⟨(ad.add (i.toNat * 17)).block, (ad.add (i.toNat * 17)).off + 2, none⟩ = some (.slice A2 (za xs i).f1.f1.length c2) ∧ w.cell? ⟨(ad.add (i.toNat * 17)).block, (ad.add (i.toNat * 17)).off + 3, none⟩ = some (.string (za xs i).f2) ∧ w.cell? ⟨(ad.add (i.toNat * 17)).block, (ad.add (i.toNat * 17)).off + 4, none⟩ = some (.string (za xs i).f3.f0) ∧ w.cell? ⟨(ad.add (i.toNat * 17)).block, (ad.add (i.toNat * 17)).off + 5, none⟩ = some (.int .i64 (za xs i).f3.f1.f0) ∧ w.cell? ⟨(ad.add (i.toNat * 17)).block, (ad.add (i.toNat * 17)).off + 6, none⟩ = some (.int .i64 (za xs i).f3.f1.f1) ∧ w.cell? ⟨(ad.add (i.toNat * 17)).block, (ad.add (i.toNat * 17)).off + 7, none⟩ = some (.string (za xs i).f3.f1.f2) ∧ w.cell? ⟨(ad.add (i.toNat * 17)).block, (ad.add (i.toNat * 17)).off + 8, none⟩ = some (.string (za xs i).f4.f0) ∧ w.cell? ⟨(ad.add (i.toNat * 17)).block, (ad.add (i.toNat * 17)).off + 9, none⟩ = some (.int .i64 (za xs i).f4.f1.f0) ∧ w.cell? ⟨(ad.add (i.toNat * 17)).block, (ad.add (i.toNat * 17)).off + 10, none⟩ = some (.int .i64 (za xs i).f4.f1.f1) ∧ w.cell? ⟨(ad.add (i.toNat * 17)).block, (ad.add (i.toNat * 17)).off + 11, none⟩ = some (.string (za xs i).f4.f1.f2) ∧ w.cell? ⟨(ad.add (i.toNat * 17)).block, (ad.add (i.toNat * 17)).off + 12, none⟩ = some (.string (za xs i).f5.f0) ∧ w.cell? ⟨(ad.add (i.toNat * 17)).block, (ad.add (i.toNat * 17)).off + 13, none⟩ = some (.int .i64 (za xs i).f5.f1.f0) ∧ w.cell? ⟨(ad.add (i.toNat * 17)).block, (ad.add (i.toNat * 17)).off + 14, none⟩ = some (.int .i64 (za xs i).f5.f1.f1) ∧ w.cell? ⟨(ad.add (i.toNat * 17)).block, (ad.add (i.toNat * 17)).off + 15, none⟩ = some (.string (za xs i).f5.f1.f2) ∧ w.cell? ⟨(ad.add (i.toNat * 17)).block, (ad.add (i.toNat * 17)).off + 16, none⟩ = some (.slice A16 (za xs i).f6.length c16) ∧ (za xs i).f1.f1.length ≤ c2 ∧ k40.C w A2 (za xs i).f1.f1.length (za xs i).f1.f1 ∧ (za xs i).f6.length ≤ c16 ∧ k82.C w A16 (za xs i).f6.length (za xs i).f6 := by
 obtain ⟨ad, c, e, _, hK, hc0⟩ := Kd.C_get h z43 i h0 h1
 have hc : ∀ j u, c[j]? = some u → w.cell? (ad.add (i.toNat * 17 + j)) = some u := hc0
 obtain ⟨A2, c2, A16, c16, rfl, l2, g2, l16, g16⟩ := k43_open hK
 exact ⟨ad, A2, c2, A16, c16, e, hc 0 _ rfl, by rw [← yd _ _ 1 (by omega)]; exact hc 1 _ rfl, by rw [← yd _ _ 2 (by omega)]; exact hc 2 _ rfl, by rw [← yd _ _ 3 (by omega)]; exact hc 3 _ rfl, by rw [← yd _ _ 4 (by omega)]; exact hc 4 _ rfl, by rw [← yd _ _ 5 (by omega)]; exact hc 5 _ rfl, by rw [← yd _ _ 6 (by omega)]; exact hc 6 _ rfl, by rw [← yd _ _ 7 (by omega)]; exact hc 7 _ rfl, by rw [← yd _ _ 8 (by omega)]; exact hc 8 _ rfl, by rw [← yd _ _ 9 (by omega)]; exact hc 9 _ rfl, by rw [← yd _ _ 10 (by omega)]; exact hc 10 _ rfl, by rw [← yd _ _ 11 (by omega)]; exact hc 11 _ rfl, by rw [← yd _ _ 12 (by omega)]; exact hc 12 _ rfl, by rw [← yd _ _ 13 (by omega)]; exact hc 13 _ rfl, by rw [← yd _ _ 14 (by omega)]; exact hc 14 _ rfl, by rw [← yd _ _ 15 (by omega)]; exact hc 15 _ rfl, by rw [← yd _ _ 16 (by omega)]; exact hc 16 _ rfl, l2, g2, l16, g16⟩
structure S51 where
 f0 : S36
 f1 : Int
 f2 : (List S43)
def z51 : S51 := ⟨z36, (0 : Int), ([] : List S43)⟩
def k51 : Kd S51 := Kd.iso (Kd.pair k36 (Kd.pair (Kd.int .i64) (Kd.slice 43 k43))) (fun x : S51 => (x.f0, x.f1, x.f2))
theorem k51_heap : Kd.Heap k51 := Kd.heap_iso _ (Kd.qi k36_heap (Kd.qi (Kd.heap_int .i64) (Kd.heap_slice 43 k43_heap)))
theorem k51_open {w : World} {x : S51} {cs : List Value} (h : k51.K w x cs) : ∃ A1 c1 A3 c3, cs = [.string x.f0.f0, .slice A1 x.f0.f1.length c1, .int .i64 x.f1, .slice A3 x.f2.length c3] ∧ x.f0.f1.length ≤ c1 ∧ k40.C w A1 x.f0.f1.length x.f0.f1 ∧ x.f2.length ≤ c3 ∧ k43.C w A3 x.f2.length x.f2 := by
 obtain ⟨_, _, rfl, s0, ⟨_, _, rfl, rfl, ⟨A3, c3, rfl, l3, g3⟩⟩⟩ := h
 obtain ⟨A1, c1, rfl, l1, g1⟩ := k36_open s0
 exact ⟨A1, c1, A3, c3, rfl, l1, g1, l3, g3⟩
theorem k51_mk (w : World) (x : S51) {A1 : Option Addr} {c1 : Nat} (l1 : x.f0.f1.length ≤ c1) (g1 : k40.C w A1 x.f0.f1.length x.f0.f1) {A3 : Option Addr} {c3 : Nat} (l3 : x.f2.length ≤ c3) (g3 : k43.C w A3 x.f2.length x.f2) : k51.K w x [.string x.f0.f0, .slice A1 x.f0.f1.length c1, .int .i64 x.f1, .slice A3 x.f2.length c3] := ⟨[.string x.f0.f0, .slice A1 x.f0.f1.length c1], [.int .i64 x.f1, .slice A3 x.f2.length c3], rfl, (k36_mk w x.f0 l1 g1), ⟨[.int .i64 x.f1], [.slice A3 x.f2.length c3], rfl, rfl, ⟨A3, c3, rfl, l3, g3⟩⟩⟩
theorem k51_openF {W : World} {ok : Nat → Prop} {x : S51} {cs : List Value} (h : Kd.FK k51 W ok x cs) : ∃ A1 c1 A3 c3, cs = [.string x.f0.f0, .slice A1 x.f0.f1.length c1, .int .i64 x.f1, .slice A3 x.f2.length c3] ∧ x.f0.f1.length ≤ c1 ∧ Kd.F k40 W ok A1 x.f0.f1.length x.f0.f1 ∧ x.f2.length ≤ c3 ∧ Kd.F k43 W ok A3 x.f2.length x.f2 := by
 obtain ⟨A1, c1, A3, c3, rfl, l1, _, l3, _⟩ := k51_open (Kd.FK_now h)
 exact ⟨A1, c1, A3, c3, rfl, l1, (fun W' hW => by obtain ⟨A1_, c1_, A3_, c3_, he, l1_, g1_, l3_, g3_⟩ := k51_open (h W' hW); injection (Option.some.inj (show some (Value.slice A1 x.f0.f1.length c1) = some (Value.slice A1_ x.f0.f1.length c1_) from congrArg (fun l => l[1]?) he)) with ha_ _ _; rw [ha_]; exact g1_), l3, (fun W' hW => by obtain ⟨A1_, c1_, A3_, c3_, he, l1_, g1_, l3_, g3_⟩ := k51_open (h W' hW); injection (Option.some.inj (show some (Value.slice A3 x.f2.length c3) = some (Value.slice A3_ x.f2.length c3_) from congrArg (fun l => l[3]?) he)) with ha_ _ _; rw [ha_]; exact g3_)⟩
theorem k51_mkF (W : World) (ok : Nat → Prop) (x : S51) {A1 : Option Addr} {c1 : Nat} (l1 : x.f0.f1.length ≤ c1) (g1 : Kd.F k40 W ok A1 x.f0.f1.length x.f0.f1) {A3 : Option Addr} {c3 : Nat} (l3 : x.f2.length ≤ c3) (g3 : Kd.F k43 W ok A3 x.f2.length x.f2) : Kd.FK k51 W ok x [.string x.f0.f0, .slice A1 x.f0.f1.length c1, .int .i64 x.f1, .slice A3 x.f2.length c3] := fun W2 hW => k51_mk W2 x l1 (g1 W2 hW) l3 (g3 W2 hW)
def zq (xs : List S51) (i : Int) : S51 := xs.getD i.toNat z51
theorem at_T51 {w : World} {A : Option Addr} {n : Nat} {xs : List S51} (h : Kd.C k51 w A n xs) (i : Int) (h0 : 0 ≤ i) (h1 : i < n) : ∃ ad A1 c1 A3 c3, A = some ad ∧ w.cell? (ad.add (i.toNat * 4)) = some (.string (zq xs i).f0.f0) ∧ w.cell? ⟨(ad.add (i.toNat * 4)).block, (ad.add (i.toNat * 4)).off + 1, none⟩ = some (.slice A1 (zq xs i).f0.f1.length c1) ∧ w.cell? ⟨(ad.add (i.toNat * 4)).block, (ad.add (i.toNat * 4)).off + 2, none⟩ = some (.int .i64 (zq xs i).f1) ∧ w.cell? ⟨(ad.add (i.toNat * 4)).block, (ad.add (i.toNat * 4)).off + 3, none⟩ = some (.slice A3 (zq xs i).f2.length c3) ∧ (zq xs i).f0.f1.length ≤ c1 ∧ k40.C w A1 (zq xs i).f0.f1.length (zq xs i).f0.f1 ∧ (zq xs i).f2.length ≤ c3 ∧ k43.C w A3 (zq xs i).f2.length (zq xs i).f2 := by
 obtain ⟨ad, c, e, _, hK, hc0⟩ := Kd.C_get h z51 i h0 h1
 have hc : ∀ j u, c[j]? = some u → w.cell? (ad.add (i.toNat * 4 + j)) = some u := hc0
 obtain ⟨A1, c1, A3, c3, rfl, l1, g1, l3, g3⟩ := k51_open hK
 exact ⟨ad, A1, c1, A3, c3, e, hc 0 _ rfl, by rw [← yd _ _ 1 (by omega)]; exact hc 1 _ rfl, by rw [← yd _ _ 2 (by omega)]; exact hc 2 _ rfl, by rw [← yd _ _ 3 (by omega)]; exact hc 3 _ rfl, l1, g1, l3, g3⟩
end Go.Proofs.Ytmgbfgloegcloaa.Ps
