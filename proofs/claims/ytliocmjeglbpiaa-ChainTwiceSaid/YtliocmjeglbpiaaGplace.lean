/- chain.match's OWN FUNCTION 'place': it answers as 'placeF' says, and turns 'seen' and 'ahead' so. No condition. -/
import Derived.Test.YtliocmjeglbpiaaGd
import Derived.Lib.Hide
import Derived.Outline
import Derived.Deep.RegionHeld3
import Derived.Deep.DrawnRows
import Derived.Deep.QuietTactic
import Derived.BigQuiet
import Derived.StillTailTactics
import Derived.Deep.LoopGhost
import Derived.Deep.DeepCutAuto
import Derived.Deep.CutBlock
import Derived.Shelf.Abstract
import Derived.Laws.EntriesVeiled
namespace Go.Proofs.Ytliocmjeglbpiaa.Ps
open Go.RowKit Go.Proofs.YtliocmjeglbpiaaW.PrintWords Go.Proofs.YtliocmjeglbpiaaW.PrintLast
set_option linter.unusedVariables false

/-- What a function value holds that place is. -/
def placeV (bl bs ba bp : Nat) : Array Value := #[.pointer (some ⟨bl, 0, none⟩), .pointer (some ⟨bs, 0, none⟩), .pointer (some ⟨ba, 0, none⟩), .pointer (some ⟨bp, 0, none⟩)]
/-- Where all lies that place reads and writes. -/
structure Lies where
  bl : Nat
  bs : Nat
  ba : Nat
  bp : Nat
  gs : Nat
  ga : Nat
  ad : Addr
  cl : Nat
  cs : Nat
  ca : Nat
  rs : List Value
  ra : List Value
structure Pl (y : Lies) (l : List Int) (seen : List Bool) (ahead : List Int) (w : World) : Prop where
  hl : w.cell? ⟨y.bl, 0, none⟩ = some (.slice (some y.ad) l.length y.cl)
  hs : w.cell? ⟨y.bs, 0, none⟩ = some (.slice (some ⟨y.gs, 0, none⟩) l.length y.cs)
  ha : w.cell? ⟨y.ba, 0, none⟩ = some (.slice (some ⟨y.ga, 0, none⟩) l.length y.ca)
  hp : w.cell? ⟨y.bp, 0, none⟩ = some (.func (.func 35) #[] (placeV y.bl y.bs y.ba y.bp))
  fs : w.frozen? ⟨y.bs, 0, none⟩ = false
  dl : ∀ j, j < l.length → w.cell? (y.ad.add j) = some (.int .u64 (rd l j))
  ds : w.heap[y.gs]? = some (.cells (seen.map Value.bool ++ y.rs).toArray 4 (0, 0))
  da : w.heap[y.ga]? = some (.cells (ahead.map (Value.int .i64) ++ y.ra).toArray 3 (0, 0))
  ns : seen.length = l.length
  na : ahead.length = l.length
  s1 : y.gs ≠ y.bl
  s2 : y.gs ≠ y.bs
  s3 : y.gs ≠ y.ba
  s4 : y.gs ≠ y.bp
  s5 : y.gs ≠ y.ad.block
  a1 : y.ga ≠ y.bl
  a2 : y.ga ≠ y.bs
  a3 : y.ga ≠ y.ba
  a4 : y.ga ≠ y.bp
  a5 : y.ga ≠ y.ad.block
  sa : y.gs ≠ y.ga

theorem pre_at {a rest : List Value} {k : Nat} {v : Value} (h : a[k]? = some v) : (a ++ rest).toArray[k]? = some v := by
  rw [List.getElem?_toArray, List.getElem?_append_left (List.getElem?_eq_some_iff.1 h).1]
  exact h
theorem pre_set {a rest : List Value} {k : Nat} {v : Value} (h : k < a.length) : (a ++ rest).toArray.setIfInBounds k v = (a.set k v ++ rest).toArray := by
  simp [List.set_append_left _ _ h]

variable {y : Lies} {l : List Int} {seen : List Bool} {ahead : List Int} {w : World}
theorem Pl.seenAt (h : Pl y l seen ahead w) {k : Nat} (hk : k < l.length) : w.cell? ⟨y.gs, k, none⟩ = some (.bool (seen.getD k false)) ∧ w.frozen? ⟨y.gs, k, none⟩ = false := by
  refine ⟨(blk_cell h.ds k).trans (pre_at ?_), blk_frozen h.ds k⟩
  have : k < seen.length := by rw [h.ns]; exact hk
  simp [this]
theorem Pl.aheadAt (h : Pl y l seen ahead w) {k : Nat} (hk : k < l.length) : w.cell? ⟨y.ga, k, none⟩ = some (.int .i64 (rd ahead k)) ∧ w.frozen? ⟨y.ga, k, none⟩ = false := by
  refine ⟨(blk_cell h.da k).trans (pre_at ?_), blk_frozen h.da k⟩
  have : k < ahead.length := by rw [h.na]; exact hk
  simp [this, rd]
theorem Pl.drewN (h : Pl y l seen ahead w) (n : Nat) : Pl y l seen ahead (w.drewN n) := ⟨h.hl, h.hs, h.ha, h.hp, h.fs, h.dl, h.ds, h.da, h.ns, h.na, h.s1, h.s2, h.s3, h.s4, h.s5, h.a1, h.a2, h.a3, h.a4, h.a5, h.sa⟩
theorem Pl.drew (h : Pl y l seen ahead w) : Pl y l seen ahead w.drew := ⟨h.hl, h.hs, h.ha, h.hp, h.fs, h.dl, h.ds, h.da, h.ns, h.na, h.s1, h.s2, h.s3, h.s4, h.s5, h.a1, h.a2, h.a3, h.a4, h.a5, h.sa⟩
theorem add_block (a : Addr) (j : Nat) : (a.add j).block = a.block := by unfold Addr.add; split <;> rfl
theorem Pl.seenSet (h : Pl y l seen ahead w) {k : Nat} (hk : k < l.length) : Pl y l (seen.set k true) ahead (w.setCell ⟨y.gs, k, none⟩ (.bool true)) := by
  refine ⟨(cell_far h.s1.symm _).trans h.hl, (cell_far h.s2.symm _).trans h.hs, (cell_far h.s3.symm _).trans h.ha, (cell_far h.s4.symm _).trans h.hp, by rw [World.frozen?_setCell]; exact h.fs, fun j hj => (cell_far (by rw [add_block]; exact h.s5.symm) _).trans (h.dl j hj), ?_, blk_far h.da h.sa.symm _, by rw [List.length_set]; exact h.ns, h.na, h.s1, h.s2, h.s3, h.s4, h.s5, h.a1, h.a2, h.a3, h.a4, h.a5, h.sa⟩
  refine blk_put h.ds k _ ?_
  rw [pre_set (by rw [List.length_map, h.ns]; exact hk), List.map_set]
theorem Pl.aheadSet (h : Pl y l seen ahead w) {k : Nat} (hk : k < l.length) (x : Int) : Pl y l seen (ahead.set k x) (w.setCell ⟨y.ga, k, none⟩ (.int .i64 x)) := by
  refine ⟨(cell_far h.a1.symm _).trans h.hl, (cell_far h.a2.symm _).trans h.hs, (cell_far h.a3.symm _).trans h.ha, (cell_far h.a4.symm _).trans h.hp, by rw [World.frozen?_setCell]; exact h.fs, fun j hj => (cell_far (by rw [add_block]; exact h.a5.symm) _).trans (h.dl j hj), blk_far h.ds h.sa _, ?_, h.ns, by rw [List.length_set]; exact h.na, h.s1, h.s2, h.s3, h.s4, h.s5, h.a1, h.a2, h.a3, h.a4, h.a5, h.sa⟩
  refine blk_put h.da k _ ?_
  rw [pre_set (by rw [List.length_map, h.na]; exact hk), List.map_set]
theorem seen_get (h : Pl y l seen ahead w) {k : Nat} (hk : k < l.length) : (seen[k]? = some true) ↔ seen.getD k false = true := by
  have : k < seen.length := by rw [h.ns]; exact hk
  simp [this]
theorem below_setB {B g k : Nat} {w0 w : World} {v : Value} (hB : Below B w0 w) (hg : B ≤ g) : Below B w0 (w.setCell ⟨g, k, none⟩ v) := hB.trans ((Below.refl B w).setCell hg v)

set_option maxHeartbeats 2000000 in
set_option maxRecDepth 100000 in
theorem place_any (y : Lies) (l : List Int) (hlen : l.length < 1000000) (B : Nat) (w0 : World) (hBs : B ≤ y.gs) (hBa : B ≤ y.ga) : ∀ (n at_ : Nat) (seen : List Bool) (ahead : List Int) (r : Bool × List Bool × List Int) (w : World),
    placeF l n at_ seen ahead 0 = some r → at_ < l.length → Pl y l seen ahead w → Below B w0 w →
    Calls Try.prog 35 (#[.int .i64 at_] ++ placeV y.bl y.bs y.ba y.bp) w fun e w' => e = .returned (.bool r.1) ∧ Pl y l r.2.1 r.2.2 w' ∧ Below B w0 w' := by
  intro n
  induction n using Nat.strongRecOn with
  | _ n ih =>
  intro at_ seen ahead r w hf hat hP hB
  have IH := Lib.hid ih
  have HF := Aside0.mk hf
  have HP := Lib.hid hP
  have HB := Lib.hid hB
  have hcl := hP.hl
  clear ih hf hP hB
  unfold placeV
  go_enter Try.func35, Try.ntmps35
  go_wp2_with fail
  go_loopg [10] n (fun kq v10 w' => ∃ (k : Nat) (s : List Bool) (a : List Int), v10 = .int .i64 k ∧ k ≤ l.length ∧ Aside0 (placeF l kq at_ s a k = some r) ∧ kq ≤ n ∧ Hid (Pl y l s a w') ∧ Hid (Below B w0 w'))
  case atStart => exact ⟨0, seen, ahead, rfl, Nat.zero_le _, HF, Nat.le_refl _, HP, HB⟩
  case round =>
    clear HF HP HB hcl
    obtain ⟨k, s, a, rfl, hk, HF, hkq, HP, HB⟩ := hrel
    cases gk with
    | zero => exact absurd HF.out (by simp [placeF])
    | succ g =>
      have hf := HF.out
      clear HF
      unfold placeF at hf
      by_cases hlt : k < l.length
      · rw [if_pos hlt] at hf
        have hl1 : decide ((k : Int) < (l.length : Int)) = true := by simp; omega
        have hl2 : decide (k < l.length) = true := by simp; omega
        have hcl := HP.out.hl
        have hcs := HP.out.hs
        have hsk := (HP.out.seenAt hlt).1
        have hla := HP.out.dl at_ hat
        have hlk := HP.out.dl k hlt
        have b0 : (0 : Int) ≤ (k : Int) := by omega
        have b1 : (k : Int) < (l.length : Int) := by omega
        have b2 : (0 : Int) ≤ (at_ : Int) := by omega
        have b3 : (at_ : Int) < (l.length : Int) := by omega
        by_cases c1 : k = at_
        · have HF2 : Aside0 (placeF l g at_ s a (k + 1) = some r) := ⟨by rw [if_pos (.inl c1)] at hf; exact hf⟩
          clear hf
          have e1 : ((k : Int) == (at_ : Int)) = true := by rw [c1]; simp
          clear c1
          go_wp2_with fail
          go_quiet (fail)
          go_wp2_with fail
          go_roundg g
          case measure => omega
          case rel => exact ⟨k + 1, s, a, by go_num, by omega, HF2, by omega, Lib.hid (HP.out.drewN _), Lib.hid (pw_below_drewN HB.out _)⟩
        · have e1 : ((k : Int) == (at_ : Int)) = false := by simp; omega
          by_cases c2 : s.getD k false = true
          · have HF2 : Aside0 (placeF l g at_ s a (k + 1) = some r) := ⟨by rw [if_pos (.inr (.inl ((seen_get HP.out hlt).2 c2)))] at hf; exact hf⟩
            clear hf
            rw [c2] at hsk
            clear c2 c1
            go_wp2_with fail
            go_quiet (fail)
            go_wp2_with fail
            go_roundg g
            case measure => omega
            case rel => exact ⟨k + 1, s, a, by go_num, by omega, HF2, by omega, Lib.hid (HP.out.drewN _), Lib.hid (pw_below_drewN HB.out _)⟩
          · have c2 : s.getD k false = false := Bool.eq_false_iff.2 c2
            have HS2 := Lib.hid c2
            rw [c2] at hsk
            by_cases c3 : apart l at_ k = true
            · have HF2 : Aside0 (placeF l g at_ s a (k + 1) = some r) := ⟨by rw [if_pos (.inr (.inr c3))] at hf; exact hf⟩
              clear hf
              unfold apart at c3
              clear c2 c1
              go_wp2_with fail
              go_quiet (fail)
              go_wp2_with fail
              go_roundg g
              case measure => omega
              case rel => exact ⟨k + 1, s, a, by go_num, by omega, HF2, by omega, Lib.hid (HP.out.drewN _), Lib.hid (pw_below_drewN HB.out _)⟩
            · rw [if_neg (by rw [seen_get HP.out hlt, HS2.out]; simp [c1, c3])] at hf
              have HF := Aside0.mk hf
              clear hf
              have c3 : (Go.bits .andNot .u64 (rd l at_) (rd l k) != 0) = false := Bool.eq_false_iff.2 c3
              have hfz := (HP.out.seenAt hlt).2
              clear c2 c1
              go_wp2_with fail
              go_quiet (fail)
              go_upto_region 5 with (fail)
              go_cut [7, 10] (fun v7 v10 wc => v7 = .int .i64 k ∧ v10 = .int .i64 k ∧ Hid (Pl y l (s.set k true) a wc) ∧ Hid (Below B w0 wc))
              case first =>
                go_wp2
                go_meet
                case rel => exact ⟨rfl, rfl, Lib.hid ((HP.out.drewN _).seenSet hlt), Lib.hid (below_setB (pw_below_drewN HB.out _) hBs)⟩
              case rest =>
                clear HP HB hcl hcs hsk hla hlk hfz e1 c3 HS2
                obtain ⟨rfl, rfl, HP, HB⟩ := hcut
                have hca := HP.out.ha
                have hak := (HP.out.aheadAt hlt).1
                have haf := (HP.out.aheadAt hlt).2
                have hcp := HP.out.hp
                unfold placeV at hcp
                have hf := HF.out
                clear HF
                by_cases c4 : rd a k = -1
                · rw [if_pos c4] at hf
                  obtain rfl := Option.some.inj hf
                  clear hf
                  rw [c4] at hak
                  go_wp2_with fail
                  go_quiet (fail)
                  go_wp2_with fail
                  go_ret
                  exact ⟨rfl, (HP.out.drewN _).aheadSet hlt _, below_setB (pw_below_drewN HB.out _) hBa⟩
                · rw [if_neg c4] at hf
                  have e4 : (rd a (k : Int) == -1) = false := by simpa using c4
                  by_cases c5 : 0 ≤ rd a k ∧ rd a k < (l.length : Int)
                  · rw [if_pos c5] at hf
                    obtain ⟨c6, c7⟩ := c5
                    obtain ⟨⟨b, s2, a2⟩, hf1, hf2⟩ := Option.bind_eq_some_iff.1 hf
                    clear hf
                    have HC := Lib.hid (fun W hP hB => IH.out g (by omega) (rd a k).toNat (s.set k true) a (b, s2, a2) W hf1 (by omega) hP hB)
                    rw [Int.toNat_of_nonneg c6] at HC
                    unfold placeV at HC
                    clear hf1 c4
                    cases b with
                    | true =>
                      obtain rfl := Option.some.inj (show some (true, s2, a2.set k (at_ : Int)) = some r from hf2)
                      clear hf2
                      go_wp2_with fail
                      go_still_tail 11, (by kernel_rfl)
                      go_wp2_with fail
                      refine (HC.out _ (HP.out.drewN _) (pw_below_drewN HB.out _)).mono ?_
                      rintro e w3 ⟨rfl, hP3, hB3⟩
                      have HP3 := Lib.hid hP3
                      have HB3 := Lib.hid hB3
                      clear hP3 hB3 HP HB HC hca hak haf hcp
                      have hca := HP3.out.ha
                      have hak := (HP3.out.aheadAt hlt).1
                      have haf := (HP3.out.aheadAt hlt).2
                      go_wp2_with fail
                      go_ret
                      exact ⟨rfl, HP3.out.aheadSet hlt _, below_setB HB3.out hBa⟩
                    | false =>
                      have HF2 : Aside0 (placeF l g at_ s2 a2 (k + 1) = some r) := ⟨hf2⟩
                      clear hf2
                      go_wp2_with fail
                      go_still_tail 11, (by kernel_rfl)
                      go_wp2_with fail
                      refine (HC.out _ (HP.out.drewN _) (pw_below_drewN HB.out _)).mono ?_
                      rintro e w3 ⟨rfl, hP3, hB3⟩
                      have HP3 := Lib.hid hP3
                      have HB3 := Lib.hid hB3
                      clear hP3 hB3 HP HB HC hca hak haf hcp
                      go_wp2_with fail
                      go_roundg g
                      case measure => omega
                      case rel => exact ⟨k + 1, s2, a2, by go_num, by omega, HF2, by omega, HP3, HB3⟩
                  · rw [if_neg c5] at hf
                    cases hf
      · rw [if_neg hlt] at hf
        obtain rfl := Option.some.inj hf
        have hl1 : decide ((k : Int) < (l.length : Int)) = false := by simp; omega
        have hl2 : decide (k < l.length) = false := by simp; omega
        go_wp2_with fail
        go_ret
        exact ⟨rfl, HP.out, HB.out⟩
end Go.Proofs.Ytliocmjeglbpiaa.Ps
