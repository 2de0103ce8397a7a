/- THE LIBRARY'S Clone, Sort, Compact AND Contains OF STRINGS, as the printed texts ask for them. Condition: fewer than 2^43 elements. -/
import Derived.Test.YtmgbfgloegcloaaGd
import Derived.Test.YtmgbfgloegcloaaShelf
import Derived.Lib.OwnBridge
import Derived.Sort.OwnSorted
namespace Go.Proofs.Ytmgbfgloegcloaa.Ps
open Go.RowKit Go.Proofs.YtmgbfgloegcloaaW.PrintWords Go.Proofs.YtmgbfgloegcloaaW.PrintLast
open Go.Proofs Go.Sort
theorem up_map (l : List (List UInt8)) : (l.map bytesUp).map Value.string = l.map encStr := by
  rw [List.map_map]; rfl
theorem down_map (l : List ByteArray) : (l.map (·.data.toList)).map encStr = l.map Value.string := Lib.map_encStr l
theorem spot_none {w : World} {b off : Nat} {ix : Option Nat} {v : Value} (h : w.cell? ⟨b, off, ix⟩ = some v) : ix = none := by
  cases ix with
  | none => rfl
  | some i =>
    simp only [World.cell?] at h
    split at h <;> simp at h
theorem add_at (b off j : Nat) : (⟨b, off, none⟩ : Addr).add j = ⟨b, off + j, none⟩ := by unfold Addr.add; split <;> simp_all
theorem add_zero_at (b off : Nat) (ix : Option Nat) : (⟨b, off, ix⟩ : Addr).add 0 = ⟨b, off, ix⟩ := by unfold Addr.add; simp
theorem yz.calls (A0 : Option Addr) (c0 : Nat) (l0 : List ByteArray) (a1 : ByteArray) (r : Bool) (w : World) (hr0 : Kd.C Kd.string w A0 l0.length l0) (_hc0 : l0.length ≤ c0) (h : yz.f l0 a1 = some r) :
    Calls Try.prog 35 #[.slice A0 l0.length c0, .string a1] w fun e w' => e = .returned (.bool r) ∧ yO w w' := by
  have hr : r = Lib.containsS l0 a1 := by unfold yz.f at h; exact (Option.some.inj h).symm
  subst hr
  have hrd := Kd.reads_of_C (d := ByteArray.empty) hr0
  rcases Nat.eq_zero_or_pos l0.length with h0 | h0
  · obtain rfl : l0 = [] := List.eq_nil_of_length_eq_zero h0
    exact (Try.slices_Contains_string_empty A0 c0 a1 w).mono fun e w' ⟨h1, h2⟩ => ⟨h1, by subst h2; exact yO.refl _⟩
  · obtain ⟨ad, rfl, hc⟩ := hrd.2.2 h0
    obtain ⟨b, off, ix⟩ := ad
    have hix : ix = none := spot_none (by have := hc 0 h0; rwa [add_zero_at] at this)
    subst hix
    refine (Try.slices_Contains_string b off l0.length c0 l0 a1 w (Nat.le_refl _) hrd.2.1 (fun j hj => ?_)).mono fun e w' ⟨h1, h2⟩ => ⟨?_, by subst h2; exact yO.refl _⟩
    · have := hc j hj
      rwa [add_at] at this
    · rw [h1, List.take_length]
theorem yo.calls (A0 : Option Addr) (c0 : Nat) (l0 : List ByteArray) (r : List ByteArray) (w : World) (hr0 : Kd.C Kd.string w A0 l0.length l0) (_hc0 : l0.length ≤ c0) (h : yo.f l0 = some r) :
    Calls Try.prog 38 #[.slice A0 l0.length c0] w fun e w' => ∃ v0_ : Value, e = .returned (v0_) ∧ Kd.R Kd.string 9 w' w.heap.size (fun _ => True) v0_ r ∧ Below w.heap.size w w' := by
  unfold yo.f at h
  split at h
  · rename_i hlt
    obtain rfl := Option.some.inj h
    have hrd := Kd.reads_of_C (d := ByteArray.empty) hr0
    rcases Nat.eq_zero_or_pos l0.length with h0 | h0
    · obtain rfl : l0 = [] := List.eq_nil_of_length_eq_zero h0
      cases A0 with
      | none => exact (Try.slices_Clone_string_nil _ c0 w).mono fun e w' ⟨h1, h2⟩ => ⟨_, h1, Kd.R_nil _ _ _ _ _, by subst h2; exact Below.refl _ _⟩
      | some a => exact (Try.slices_Clone_string_zero a c0 w).mono fun e w' ⟨v, h1, h2, _, h3⟩ => ⟨v, h1, Kd.R_of_own h2 (fun _ _ => trivial), h3⟩
    · obtain ⟨ad, rfl, hc⟩ := hrd.2.2 h0
      obtain ⟨b, off, ix⟩ := ad
      have hix : ix = none := spot_none (by have := hc 0 h0; rwa [add_zero_at] at this)
      subst hix
      refine (Try.slices_Clone_string b off l0.length c0 l0 w (Nat.le_refl _) (by omega) (fun j hj => ?_)).mono fun e w' ⟨v, h1, h2, _, h3⟩ => ⟨v, h1, Kd.R_of_own ?_ (fun _ _ => trivial), h3⟩
      · have := hc j hj
        rwa [add_at] at this
      · rw [List.take_length] at h2
        exact h2
  · cases h
theorem yE.calls (P0_ : Nat → Prop) (u9000_ : Value) (l0 : List ByteArray) (r : List ByteArray) (w0 w : World) (hB : Below w0.heap.size w0 w) (ho0 : Kd.R Kd.string 9 w w0.heap.size P0_ u9000_ l0) (h : yE.f l0 = some r) :
    Calls Try.prog 39 #[u9000_] w fun e w' => e = .returned (.tuple #[]) ∧ Kd.R Kd.string 9 w' w0.heap.size (fun k_ => (P0_ k_ ∨ w.heap.size ≤ k_)) u9000_ r ∧ Below w0.heap.size w0 w' ∧ Kept w w' (fun k_ => P0_ k_) := by
  unfold yE.f at h
  split at h
  · rename_i hlt
    obtain rfl := Option.some.inj h
    have ho := Kd.own_of_R ho0
    rcases ho.2 with ⟨rfl, hnil⟩ | ⟨g, cap, cur, rfl, hbase, hb, h1, h2, h3, h4⟩
    · obtain rfl : l0 = [] := by cases l0 <;> simp at hnil ⊢
      refine (Try.slices_Sort_string_none none 0 w).mono fun e w' ⟨he, hw⟩ => ?_
      subst hw
      refine ⟨he, ?_, hB, Kept.refl _ _⟩
      have : sortStr [] = [] := by simp [sortStr]
      rw [this]
      exact Kd.R_nil _ _ _ _ _
    · have hl : (l0.map (·.data.toList)).length = l0.length := by simp
      have hH : Holds encStr w g 0 (l0.map (·.data.toList)).toArray := holds_of_block hb (by rw [hl, down_map]; simpa [encs] using h4)
      have hg : g < w.heap.size := (Array.getElem?_eq_some_iff.1 hb).1
      have hP : P0_ g := ho0.1 g (by simp [Value.ownBlock])
      have key := Try.slices_Sort_string g 0 cap (l0.map (·.data.toList)) w hH hg (by rw [hl]; omega)
      rw [hl] at key
      refine key.mono fun e w' ⟨he, n, os, hw⟩ => ?_
      subst hw
      have hs : ((l0.map (·.data.toList)).mergeSort fun x y => decide (x ≤ y)).length = (l0.map (·.data.toList)).length := by simp
      have hgr := grownBy_sorted (w := w) (g := g) (n := n) (os := os) (((l0.map (·.data.toList)).mergeSort fun x y => decide (x ≤ y)).toArray)
      refine ⟨he, Kd.R_of_own ?_ (fun k hk => ?_), hB.grown hgr hB.size (fun k e1 => by cases e1; exact hbase), (Kept.of_grown hgr (Kept.refl _ _) (fun k e1 => by cases e1; exact .inl hP))⟩
      · have := ownsRow_sorted (n := n) (os := os) hs hbase hb (by rw [hl]; exact h1) h2 h3
        rw [hl] at this
        have hl2 : (sortStr l0).length = l0.length := by simp [sortStr]
        rw [hl2]
        have he2 : encs Value.string (sortStr l0) = ((l0.map (·.data.toList)).mergeSort fun x y => decide (x ≤ y)).map encStr := by unfold encs sortStr; exact up_map _
        rw [he2]
        exact this
      · have : g = k := by simpa [Value.ownBlock] using hk
        subst this
        exact .inl hP
  · cases h
theorem yi.calls (P0_ : Nat → Prop) (u9000_ : Value) (l0 : List ByteArray) (r : List ByteArray) (w0 w : World) (hB : Below w0.heap.size w0 w) (ho0 : Kd.R Kd.string 9 w w0.heap.size P0_ u9000_ l0) (h : yi.f l0 = some r) :
    Calls Try.prog 40 #[u9000_] w fun e w' => ∃ v0_ : Value, e = .returned (v0_) ∧ Kd.R Kd.string 9 w' w0.heap.size (fun k_ => (P0_ k_ ∨ w.heap.size ≤ k_)) v0_ r ∧ Below w0.heap.size w0 w' ∧ Kept w w' (fun k_ => P0_ k_) := by
  unfold yi.f at h
  split at h
  · rename_i hlt
    obtain rfl := Option.some.inj h
    have ho := Kd.own_of_R ho0
    rcases ho.2 with ⟨rfl, hnil⟩ | ⟨g, cap, cur, rfl, hbase, hb, h1, h2, h3, h4⟩
    · obtain rfl : l0 = [] := by cases l0 <;> simp at hnil ⊢
      refine (Try.slices_Compact_string_empty none 0 w).mono fun e w' ⟨he, hw⟩ => ?_
      subst hw
      refine ⟨_, he, ?_, hB, Kept.refl _ _⟩
      have : compStr [] = [] := by unfold compStr; rw [List.map_nil, Lib.compact_all [] (fun j hj => absurd hj (by simp)), List.map_nil]
      rw [this]
      exact Kd.R_nil _ _ _ _ _
    · have hl : (l0.map (·.data.toList)).length = l0.length := by simp
      have hH : Holds encStr w g 0 (l0.map (·.data.toList)).toArray := holds_of_block hb (by rw [hl, down_map]; simpa [encs] using h4)
      have hP : P0_ g := ho0.1 g (by simp [Value.ownBlock])
      have key := Try.slices_Compact_string g 0 cap (l0.map (·.data.toList)) w hH (by rw [hl]; omega) (by rw [hl]; exact h1)
      rw [hl] at key
      refine key.mono fun e w' ⟨he, q, hw⟩ => ?_
      subst hw
      have hle : (Lib.compact (l0.map (·.data.toList))).length ≤ l0.length := by have := Lib.compact_length_le (l0.map (·.data.toList)); rw [hl] at this; exact this
      have hgr := Lib.below_putRow (enc := encStr) (q := q) (d := (Lib.compact (l0.map (fun (x : ByteArray) => x.data.toList)) ++ List.replicate (l0.length - (Lib.compact (l0.map (fun (x : ByteArray) => x.data.toList))).length) []).toArray) hB hbase
      have ho' : w.ownsRow w0.heap.size 9 1 (.slice (some ⟨g, 0, none⟩) l0.length cap) l0.length ((l0.map (·.data.toList)).map encStr) := by rw [down_map]; exact ho
      have hown := Lib.ownsRow_putRow (q := q) (k := (Lib.compact (l0.map (fun (x : ByteArray) => x.data.toList))).length) (ys := Lib.compact (l0.map (fun (x : ByteArray) => x.data.toList)) ++ List.replicate (l0.length - (Lib.compact (l0.map (fun (x : ByteArray) => x.data.toList))).length) []) ho' (by simp; omega) hle
      rw [List.take_left] at hown
      refine ⟨_, he, Kd.R_of_own ?_ (fun k hk => ?_), hgr, ⟨by simp [Sort.putRow, Sort.mapBlock, Sort.ahead], fun i hi hn => ?_⟩⟩
      · have he2 : encs Value.string (compStr l0) = (Lib.compact (l0.map (·.data.toList))).map encStr := by unfold encs compStr; exact up_map _
        have hl2 : (compStr l0).length = (Lib.compact (l0.map (·.data.toList))).length := by simp [compStr]
        rw [he2, hl2]
        exact hown
      · have : g = k := by simpa [Value.ownBlock] using hk
        subst this
        exact .inl hP
      · have hne : g ≠ i := fun e1 => hn (e1 ▸ hP)
        simp [Sort.putRow, Sort.mapBlock, Sort.ahead, Array.getElem?_modify, hne]
  · cases h
end Go.Proofs.Ytmgbfgloegcloaa.Ps
