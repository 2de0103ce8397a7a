/- DERIVED: THE SHELF's CONTRACTS AT THIS DUMP, IN PLAIN WORDS (tools/lay-plain.mjs out of 'YtmgbfgloegcloaaShelfRawB.lean', which tools/lay-shelf.mjs wrote): THE SAME DECLARATIONS UNDER THE SAME -/
import Derived.Shelf.Spec.SlicesGrow
import Derived.Ground.Names8Prog
import Derived.Test.YtmgbfgloegcloaaProg
import Derived.Test.YtmgbfgloegcloaaGd
namespace Go.Proofs
open Go.Shelf
def Try.growT_ren : Go.Shelf.Ren := ⟨fun | 4 => 49 | n => n, fun | 22 => 34 | 25 => 40 | 3 => 3 | 4 => 4 | 9 => 9 | 20 => 20 | 0 => 0 | n => n, fun | n => n⟩
theorem Try.growT : Go.Proofs.Lays8.n4 Try.prog Try.growT_ren := {
  mixed := by kernel_rfl
  f4 := ⟨Try.f49.name, by decide, Try.func49.trans (congrArg some (by kernel_rfl))⟩
  t0 := Try.underlying0
  a0 := Try.isAgg0
  z0 := Try.sizeOf0
  v0 := Try.zeroValue0
  t3 := Try.underlying3
  a3 := Try.isAgg3
  z3 := Try.sizeOf3
  v3 := Try.zeroValue3
  t4 := Try.underlying4
  a4 := Try.isAgg4
  z4 := Try.sizeOf4
  v4 := Try.zeroValue4
  t9 := Try.underlying9
  a9 := Try.isAgg9
  z9 := Try.sizeOf9
  v9 := Try.zeroValue9
  t20 := Try.underlying20
  a20 := Try.isAgg20
  z20 := Try.sizeOf20
  v20 := Try.zeroValue20
  t22 := Try.underlying34
  a22 := Try.isAgg34
  z22 := Try.sizeOf34
  v22 := Try.zeroValue34 }
theorem Try.grow_room (base : Option Addr) (l c n : Nat) (w : World) (hlc : l ≤ c) (hc63 : c ≤ 9223372036854775807) (hn63 : n ≤ 9223372036854775807) (hroom : l + n ≤ c) :
    Calls Try.prog 49 #[.slice base l c, .int .i64 n] w fun e w' => e = .returned (.slice base l c) ∧ w' = w := Any8.slices_Grow_room Try.growT base l c n w hlc hc63 hn63 hroom
end Go.Proofs
/- slices.Grow OF NO TERMS: room for as many as are asked for, as the printed texts ask for it. Condition: they fit into memory. -/
namespace Go.Proofs.Ytmgbfgloegcloaa.Ps
open Go.RowKit Go.Proofs.YtmgbfgloegcloaaW.PrintWords Go.Proofs.YtmgbfgloegcloaaW.PrintLast
theorem own_empty {W : World} {base g cap : Nat} {cur : Array Value} {ok : Nat → Prop} (hb : base ≤ g) (hg : W.heap[g]? = some (.cells cur 40 (0, 0))) (hc : cap ≤ maxLen) (hs : cur.size = cap * 4) (hok : ok g) :
    Kd.R k40 40 W base ok (.slice (some ⟨g, 0, none⟩) 0 cap) [] :=
  ⟨fun k hk => by
    have : g = k := by simpa [Value.ownBlock] using hk
    exact this ▸ hok, [], ⟨rfl, .inr ⟨g, cap, cur, rfl, hb, hg, Nat.zero_le _, hc, hs, by simp⟩⟩, Reps.none _ _⟩
theorem api_Term_49.calls (P0_ : Nat → Prop) (u9000_ : Value) (l0 : List S40) (a1 : Int) (r : List S40) (w0 w : World) (hB : Below w0.heap.size w0 w) (ho0 : Kd.R k40 40 w w0.heap.size P0_ u9000_ l0) (h : api_Term_49.f l0 a1 = some r) :
    Calls Try.prog 49 #[u9000_, .int .i64 a1] w fun e w' => ∃ v0_ : Value, e = .returned (v0_) ∧ Kd.R k40 40 w' w0.heap.size (fun k_ => (P0_ k_ ∨ w.heap.size ≤ k_)) v0_ r ∧ Below w0.heap.size w0 w' ∧ Kept w w' (fun k_ => P0_ k_) := by
  unfold api_Term_49.f at h
  split at h
  · rename_i hh
    obtain ⟨rfl, h1, h2⟩ := hh
    obtain rfl := Option.some.inj h
    obtain ⟨n, rfl⟩ := Int.eq_ofNat_of_zero_le h1
    have hnb : (n : Int) < 2932031007402 := h2
    have hn2 : n < 2932031007402 := by omega
    obtain ⟨hok, inner, hown, hreps⟩ := ho0
    have hkeep : Kd.R k40 40 w w0.heap.size (fun k_ => (P0_ k_ ∨ w.heap.size ≤ k_)) u9000_ [] := Kd.yt ⟨hok, inner, hown, hreps⟩ (fun k hk => .inl hk)
    have grown : ∀ (base : Option Addr) (c : Nat) (cs : List Value), c < n → cs.length = c * 4 → (base = none → c = 0) → (∀ a, base = some a → ∀ j v, cs[j]? = some v → w.cell? (a.add j) = some v) →
        Calls Try.prog 49 #[.slice base 0 c, .int .i64 n] w fun e w' => ∃ v0_ : Value, e = .returned (v0_) ∧ Kd.R k40 40 w' w0.heap.size (fun k_ => (P0_ k_ ∨ w.heap.size ≤ k_)) v0_ [] ∧ Below w0.heap.size w0 w' ∧ Kept w w' (fun k_ => P0_ k_) := by
      intro base c cs hc hcl hnil hcs
      obtain ⟨i0, hi, hzz⟩ := Option.map_eq_some_iff.1 info40
      simp only [Prod.mk.injEq] at hzz
      obtain ⟨hz0, hz1, hz2⟩ := hzz
      refine (Any8.slices_Grow_grow Try.growT i0 _ hi hz0 (by omega) base 0 c n cs w (Nat.zero_le _) (by omega) (by rw [hz2]; omega) (by omega) (by rw [hz1]; exact hcl) hnil hcs).mono fun e w' ⟨he, hw⟩ => ?_
      subst hw
      rw [Nat.zero_add] at he
      have hge := grownCap_ge w n c 40
      have hle := grownCap_le_maxLen w n c 40 (by unfold maxLen; omega)
      have hbel : Below w.heap.size w (w.drew.alloc (.cells (cs.toArray ++ Builtin.zeroCells (Value.agg #[(.string ⟨#[]⟩), (.int .i64 0), (.int .i64 0), (.string ⟨#[]⟩)]).cells (0 + n - c) ++ Builtin.zeroCells (Value.agg #[(.string ⟨#[]⟩), (.int .i64 0), (.int .i64 0), (.string ⟨#[]⟩)]).cells (grownCap w (0 + n) c 40 - (0 + n))) 40)) := (below_drew (Below.refl _ _)).alloc (Nat.le_refl _) _
      refine ⟨_, he, own_empty hB.size (cur := cs.toArray ++ Builtin.zeroCells (Value.agg #[(.string ⟨#[]⟩), (.int .i64 0), (.int .i64 0), (.string ⟨#[]⟩)]).cells (0 + n - c) ++ Builtin.zeroCells (Value.agg #[(.string ⟨#[]⟩), (.int .i64 0), (.int .i64 0), (.string ⟨#[]⟩)]).cells (grownCap w (0 + n) c 40 - (0 + n))) ?_ hle ?_ (.inr (Nat.le_refl _)), yg hB hB.size hbel, Kept.of_below hbel _⟩
      · exact heap_alloc_new w.drew _
      · rw [Nat.zero_add]
        simp only [Array.size_append, List.size_toArray, size_zeroCells]
        have : (Value.agg #[(.string ⟨#[]⟩), (.int .i64 0), (.int .i64 0), (.string ⟨#[]⟩)]).cells.size = 4 := rfl
        rw [this, hcl]
        change _ = grownCap w n c 40 * 4
        omega
    rcases hown.2 with ⟨rfl, _⟩ | ⟨g, cap, cur, rfl, hbase, hb, h3, h4, h5, h6⟩
    · rcases Nat.eq_zero_or_pos n with rfl | hp
      · exact (Try.grow_room none 0 0 0 w (Nat.le_refl _) (by omega) (by omega) (Nat.le_refl _)).mono fun e w' ⟨he, hw⟩ => ⟨_, he, by subst hw; exact hkeep, by subst hw; exact hB, by subst hw; exact Kept.refl _ _⟩
      · exact grown none 0 [] hp rfl (fun _ => rfl) (fun a e => by cases e)
    · rcases Nat.lt_or_ge cap n with hp | hp
      · refine grown (some ⟨g, 0, none⟩) cap cur.toList hp (by rw [Array.length_toList]; exact h5) (fun e => by cases e) (fun a e j v hj => ?_)
        cases e
        rw [show (⟨g, 0, none⟩ : Addr).add j = ⟨g, j, none⟩ from by unfold Addr.add; split <;> simp_all]
        have := zf hb j
        rw [this]
        simpa using hj
      · unfold maxLen at h4
        exact (Try.grow_room (some ⟨g, 0, none⟩) 0 cap n w (Nat.zero_le _) (by omega) (by omega) (by omega)).mono fun e w' ⟨he, hw⟩ => ⟨_, he, by subst hw; exact hkeep, by subst hw; exact hB, by subst hw; exact Kept.refl _ _⟩
  · cases h
end Go.Proofs.Ytmgbfgloegcloaa.Ps
