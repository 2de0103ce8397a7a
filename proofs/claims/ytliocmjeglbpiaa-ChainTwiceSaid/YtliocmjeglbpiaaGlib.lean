/- THE LIBRARY'S Len, Clone, Compact AND SortStableFunc OF NUMBERS, as the printed texts ask for them. Condition: fewer than 2^43 elements; fewer than 20 to be sorted by a function. -/
import Derived.Test.YtliocmjeglbpiaaGones
import Derived.Test.YtliocmjeglbpiaaShelf
import Derived.Lib.OwnBridge
import Derived.Lib.RowBridge
import Derived.Test.YtliocmjeglbpiaaPperm
namespace Go.Proofs.Ytliocmjeglbpiaa.Ps
open Go.RowKit Go.Proofs.YtliocmjeglbpiaaW.PrintWords Go.Proofs.YtliocmjeglbpiaaW.PrintLast
open Go.Proofs Go.Sort
set_option linter.unusedVariables false

theorem spot_none {w : World} {b off : Nat} {ix : Option Nat} {v : Value} (h : w.cell? ⟨b, off, ix⟩ = some v) : ix = none := by
  cases ix with
  | none => rfl
  | some i =>
    simp only [World.cell?] at h
    split at h <;> simp at h
theorem add_at (b off j : Nat) : (⟨b, off, none⟩ : Addr).add j = ⟨b, off + j, none⟩ := by unfold Addr.add; split <;> simp_all
theorem add_zero_at (b off : Nat) (ix : Option Nat) : (⟨b, off, ix⟩ : Addr).add 0 = ⟨b, off, ix⟩ := by unfold Addr.add; simp

theorem holds_of_cells {w : World} {g : Nat} {cur : Array Value} {e : TypeId} {k : IntKind} {ss : List Int} (hb : w.heap[g]? = some (.cells cur e (0, 0))) (ht : cur.toList.take ss.length = ss.map (Value.int k)) : Holds (Value.int k) w g 0 ss.toArray := by
  intro j hj
  have hj' : j < ss.length := by simpa using hj
  refine ⟨?_, by simp [World.frozen?, hb]⟩
  have h1 : (cur.toList.take ss.length)[j]? = (ss.map (Value.int k))[j]? := by rw [ht]
  rw [List.getElem?_take_of_lt hj'] at h1
  simp only [World.cell?, hb, Nat.zero_add]
  simp [List.getElem?_map, List.getElem?_eq_getElem hj'] at h1
  simp [h1, hj']

theorem bits_Len.calls (a0 : Int) (r : Int) (w : World) (h : bits_Len.f a0 = some r) :
    Calls Try.prog 39 #[.int .u64 a0] w fun e w' => e = .returned (.int .i64 r) ∧ Drawn0 w w' := by
  unfold bits_Len.f at h
  split at h
  · rename_i hh
    obtain rfl := Option.some.inj h
    exact (Try.bits_Len a0 w hh.1 (by omega)).mono fun e w' ⟨h1, h2⟩ => ⟨h1, by subst h2; exact Drawn0.refl _⟩
  · cases h

theorem news_get {w : World} {b off n : Nat} {zs : List Int} (hz : zs.length = n) (hc : ∀ j, j < n → w.cell? ⟨b, off + j, none⟩ = some (.int .u64 (zs.getD j 0))) : ∀ j u, (zs.map (Value.int .u64))[j]? = some u → w.cell? ⟨b, off + j, none⟩ = some u := by
  intro j u hu
  rw [List.getElem?_map] at hu
  cases hj : zs[j]? with
  | none => rw [hj] at hu; cases hu
  | some x =>
    rw [hj] at hu
    have hlt : j < zs.length := (List.getElem?_eq_some_iff.1 hj).1
    rw [hc j (by omega), List.getD_eq_getElem?_getD, hj]
    simpa using hu

theorem Prog.info42 : (Try.prog.info? 42).map (fun i => (i.zero, i.size, i.bytes)) = some (some (.int .u64 0), 1, 8) := by kernel_rfl

theorem slices_Clone_uint_uint.calls (A0 : Option Addr) (c0 : Nat) (l0 : List Int) (r : List Int) (w : World) (hr0 : Kd.C (Kd.int .u64) w A0 l0.length l0) (_hc0 : l0.length ≤ c0) (h : slices_Clone_uint_uint.f l0 = some r) :
    Calls Try.prog 37 #[.slice A0 l0.length c0] w fun e w' => ∃ v0_ : Value, e = .returned (v0_) ∧ Kd.R (Kd.int .u64) 42 w' w.heap.size (fun _ => True) v0_ r ∧ Below w.heap.size w w' := by
  unfold slices_Clone_uint_uint.f at h
  split at h
  · rename_i hlt
    obtain rfl := Option.some.inj h
    have hrd := Kd.reads_of_C (d := (0 : Int)) hr0
    obtain ⟨ad, rfl, hc⟩ := hrd.2.2 hlt.1
    obtain ⟨b, off, ix⟩ := ad
    have hix : ix = none := spot_none (by have := hc 0 hlt.1; rwa [add_zero_at] at this)
    subst hix
    obtain ⟨i0, hi, hz0, hz1, hz2⟩ := info_parts Prog.info42
    refine (Try.slices_Clone i0 _ 1 8 hi hz0 hz1 hz2 rfl (by decide) (fun w => by kernel_rfl) b off l0.length c0 (l0.map (Value.int .u64)) w (by simp) (by unfold maxLen; omega) (by omega) (news_get rfl (fun j hj => by have := hc j hj; rwa [add_at] at this)) (by intro u hu; obtain ⟨x, _, rfl⟩ := List.mem_map.1 hu; rfl)).mono fun e w' ⟨v, h1, h2, _, h3⟩ => ⟨v, h1, Kd.R_of_own h2 (fun _ _ => trivial), h3⟩
  · cases h

theorem below_own {w0 w w' : World} {g : Nat} {P : Nat → Prop} (hB : Below w0.heap.size w0 w) (hbase : w0.heap.size ≤ g) (hP : P g) {d : Array Int} {q : Nat} (hw : w' = putRow (Value.int .u64) (Sort.ahead w q) g 0 d) : Below w0.heap.size w0 w' ∧ Kept w w' P := by
  subst hw
  refine ⟨Lib.below_putRow hB hbase, ⟨by simp [Sort.putRow, Sort.mapBlock, Sort.ahead], fun i hi hn => ?_⟩⟩
  have hne : g ≠ i := fun e1 => hn (e1 ▸ hP)
  simp [Sort.putRow, Sort.mapBlock, Sort.ahead, Array.getElem?_modify, hne]

set_option maxRecDepth 100000 in
theorem compact_none (w : World) : Calls Try.prog 30 #[.slice none 0 0] w fun e w' => e = .returned (.slice none 0 0) ∧ w' = w := by
  go_enter Try.func30, Try.ntmps30
  go_wp2
  go_ret
  exact ⟨rfl, rfl⟩

theorem slices_Compact_uint_uint.calls (P0_ : Nat → Prop) (u9000_ : Value) (l0 : List Int) (r : List Int) (w0 w : World) (hB : Below w0.heap.size w0 w) (ho0 : Kd.R (Kd.int .u64) 42 w w0.heap.size P0_ u9000_ l0) (h : slices_Compact_uint_uint.f l0 = some r) :
    Calls Try.prog 30 #[u9000_] w fun e w' => ∃ v0_ : Value, e = .returned (v0_) ∧ Kd.R (Kd.int .u64) 42 w' w0.heap.size (fun k_ => (P0_ k_ ∨ w.heap.size ≤ k_)) v0_ r ∧ Below w0.heap.size w0 w' ∧ Kept w w' (fun k_ => P0_ k_) := by
  unfold slices_Compact_uint_uint.f at h
  split at h
  · rename_i hlt
    obtain rfl := Option.some.inj h
    have ho := Kd.own_of_R ho0
    rcases ho.2 with ⟨rfl, hnil⟩ | ⟨g, cap, cur, rfl, hbase, hb, h1, h2, h3, h4⟩
    · obtain rfl : l0 = [] := by cases l0 <;> simp at hnil ⊢
      refine (compact_none w).mono fun e w' ⟨he, hw⟩ => ?_
      subst hw
      refine ⟨_, he, ?_, hB, Kept.refl _ _⟩
      rw [Lib.compact_all [] (fun j hj => absurd hj (by simp))]
      exact Kd.R_nil _ _ _ _ _
    · have hH : Holds (Value.int .u64) w g 0 l0.toArray := holds_of_cells hb (by simpa [encs] using h4)
      have hP : P0_ g := ho0.1 g (by simp [Value.ownBlock])
      have key := Try.slices_Compact (α := Int) (Value.int .u64) (fun _ => rfl) (EqlAt.intD _ _ _) (NeqAt.intD _ _ _) 0 (fun w => by kernel_rfl) g 0 cap l0.toArray w hH (by simp; omega) (by simpa using h1)
      simp only [List.size_toArray] at key
      refine key.mono fun e w' ⟨he, q, hw⟩ => ?_
      have hle : (Lib.compact l0).length ≤ l0.length := Lib.compact_length_le l0
      have hown := Lib.ownsRow_putRow (enc := Value.int .u64) (q := q) (k := (Lib.compact l0).length) (ys := Lib.compact l0 ++ List.replicate (l0.length - (Lib.compact l0).length) 0) ho (by simp; omega) hle
      rw [List.take_left] at hown
      have hw2 : w' = putRow (Value.int .u64) (Sort.ahead w q) g 0 (Lib.compact l0 ++ List.replicate (l0.length - (Lib.compact l0).length) 0).toArray := hw
      obtain ⟨hb1, hb2⟩ := below_own hB hbase hP hw2
      rw [hw2] at *
      refine ⟨_, he, Kd.R_of_own ?_ (fun k hk => ?_), hb1, hb2⟩
      · exact hown
      · have : g = k := by simpa [Value.ownBlock] using hk
        subst this
        exact .inl hP
  · cases h

set_option maxRecDepth 100000 in
theorem insertion_none (w : World) (F : Value) : Calls Try.prog 55 #[.slice none 0 0, .int .i64 0, .int .i64 0, F] w fun e w' => e = .returned (.tuple #[]) ∧ w' = w := by
  go_enter Try.func55, Try.ntmps55
  go_wp2
  refine wp_loop_rounds 1 ?_
  rw [rounds_succ]
  go_wp2
  go_end0
  exact ⟨rfl, rfl⟩

set_option maxRecDepth 100000 in
theorem stable_calls (v : Value) (n : Nat) (hn : n < 20) (w : World) (X : World → Prop) (hins : Calls Try.prog 55 #[v, .int .i64 0, .int .i64 n, .func (.func 32) #[] #[]] w fun e w' => e = .returned (.tuple #[]) ∧ X w') :
    Calls Try.prog 40 #[v, .int .i64 n, .func (.func 32) #[] #[]] w fun e w' => e = .returned (.tuple #[]) ∧ X w' := by
  have t1 : decide ((20 : Int) ≤ (n : Int)) = false := by simp; omega
  have t2 : decide ((20 : Int) < (n : Int)) = false := by simp; omega
  have HI := Lib.hid hins
  clear hins
  go_enter Try.func40, Try.ntmps40
  go_wp2
  refine wp_loop_rounds 1 ?_
  rw [rounds_succ]
  go_wp2_with fail
  refine HI.out.mono ?_
  rintro e w' ⟨rfl, hX⟩
  have HX := Lib.hid hX
  clear hX
  go_wp2
  refine wp_loop_rounds 1 ?_
  rw [rounds_succ]
  go_wp2
  go_end0
  exact ⟨rfl, HX.out⟩

set_option maxRecDepth 100000 in
theorem sortStable_calls (A : Option Addr) (n c : Nat) (hn : n < 20) (w : World) (X : World → Prop) (hins : Calls Try.prog 55 #[.slice A n c, .int .i64 0, .int .i64 n, .func (.func 32) #[] #[]] w fun e w' => e = .returned (.tuple #[]) ∧ X w') :
    Calls Try.prog 31 #[.slice A n c, .func (.func 32) #[] #[]] w fun e w' => e = .returned (.tuple #[]) ∧ X w' := by
  have HI := Lib.hid (stable_calls _ n hn w X hins)
  clear hins
  go_enter Try.func31, Try.ntmps31
  go_wp2_with fail
  refine HI.out.mono ?_
  rintro e w' ⟨rfl, hX⟩
  have HX := Lib.hid hX
  clear hX
  go_wp2
  go_end0
  exact ⟨rfl, HX.out⟩

theorem slices_SortStableFunc_uint_uint.calls (P0_ : Nat → Prop) (u9000_ : Value) (l0 : List Int) (r : List Int) (w0 w : World) (hB : Below w0.heap.size w0 w) (ho0 : Kd.R (Kd.int .u64) 42 w w0.heap.size P0_ u9000_ l0) (h : slices_SortStableFunc_uint_uint.f l0 = some r) :
    Calls Try.prog 31 #[u9000_, .func (.func 32) #[] #[]] w fun e w' => e = .returned (.tuple #[]) ∧ Kd.R (Kd.int .u64) 42 w' w0.heap.size (fun k_ => (P0_ k_ ∨ w.heap.size ≤ k_)) u9000_ r ∧ Below w0.heap.size w0 w' ∧ Kept w w' (fun k_ => P0_ k_) := by
  unfold slices_SortStableFunc_uint_uint.f at h
  split at h
  · rename_i hlt
    obtain rfl := Option.some.inj h
    have ho := Kd.own_of_R ho0
    rcases ho.2 with ⟨rfl, hnil⟩ | ⟨g, cap, cur, rfl, hbase, hb, h1, h2, h3, h4⟩
    · obtain rfl : l0 = [] := by cases l0 <;> simp at hnil ⊢
      refine (sortStable_calls none 0 0 (by omega) w (fun w' => w' = w) (insertion_none w _)).mono fun e w' ⟨he, hw⟩ => ?_
      subst hw
      refine ⟨he, ?_, hB, Kept.refl _ _⟩
      have : (Sort.insertionSort onesLt ([] : List Int).toArray 0 0).toList = [] := by
        have := insertionSort_size onesLt ([] : List Int)
        simpa using this
      rw [show ([] : List Int).length = 0 from rfl, this]
      exact Kd.R_nil _ _ _ _ _
    · have hH : Holds (Value.int .u64) w g 0 l0.toArray := holds_of_cells hb (by simpa [encs] using h4)
      have hP : P0_ g := ho0.1 g (by simp [Value.ownBlock])
      have key := Try.insertionSortCmpFunc_one (α := Int) (Value.int .u64) (fun _ => rfl) onesCmp 32 #[] g 0 cap 0 l0.length l0.toArray w (fun args w => by kernel_rfl) (fun m os dk _ x y => by simpa using masks_fn x y _) hH (by omega) (by simp) (by simp; omega)
      simp only [List.size_toArray] at key
      refine (sortStable_calls _ _ _ hlt w _ key).mono fun e w' ⟨he, n, hw⟩ => ?_
      have hsz := insertionSort_size onesLt l0
      have hown := Lib.ownsRow_putRow (enc := Value.int .u64) (q := n) (k := l0.length) (ys := (Sort.insertionSort onesLt l0.toArray 0 l0.length).toList) ho (by simpa using hsz) (Nat.le_refl _)
      rw [List.take_of_length_le (by simpa using Nat.le_of_eq hsz)] at hown
      have hw2 : w' = putRow (Value.int .u64) (Sort.ahead w n) g 0 (Sort.insertionSort onesLt l0.toArray 0 l0.length).toList.toArray := hw
      obtain ⟨hb1, hb2⟩ := below_own hB hbase hP hw2
      rw [hw2] at *
      refine ⟨he, Kd.R_of_own ?_ (fun k hk => ?_), hb1, hb2⟩
      · rw [show (Sort.insertionSort onesLt l0.toArray 0 l0.length).toList.length = l0.length by simpa using hsz]
        exact hown
      · have : g = k := by simpa [Value.ownBlock] using hk
        subst this
        exact .inl hP
  · cases h
end Go.Proofs.Ytliocmjeglbpiaa.Ps
