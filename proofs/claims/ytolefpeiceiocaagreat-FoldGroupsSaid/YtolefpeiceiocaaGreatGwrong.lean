/- fold.wrong: WHAT IS WRONG WITH A SET OF VALUES. Condition: values as Go may have them, fewer than a million. -/
import Derived.Test.YtolefpeiceiocaaGreatGset
namespace Go.Proofs.YtolefpeiceiocaaGreat.Ps
open Go Go.RowKit Go.Proofs.YtolefpeiceiocaaGreatW.PrintWords Go.Proofs.YtolefpeiceiocaaGreatW.PrintLast Go.Lib Go.Sort Go.Proofs Go.Shelf
set_option linter.unusedVariables false

/-- Values as Go may have them. -/
abbrev OkS := { x : Sv // okS x }
instance : Inhabited OkS := ⟨⟨z25, by decide⟩⟩
def subL (l : List Sv) (h : ∀ x ∈ l, okS x) : List OkS := l.pmap (fun x hx => ⟨x, hx⟩) h
theorem subL_len (l : List Sv) (h : ∀ x ∈ l, okS x) : (subL l h).length = l.length := by simp [subL]
theorem subL_get (l : List Sv) (h : ∀ x ∈ l, okS x) (j : Nat) (hj : j < l.length) : (subL l h)[j]!.1 = l[j] := by
  rw [getElem!_pos _ j (by rw [subL_len]; exact hj)]
  simp [subL]
theorem subL_any (l : List Sv) (h : ∀ x ∈ l, okS x) (p : Sv → Bool) : ((subL l h).take l.length).any (fun x => p x.1) = l.any p := by
  rw [List.take_of_length_le (by rw [subL_len]; exact Nat.le_refl _)]
  unfold subL
  rw [Bool.eq_iff_iff, List.any_eq_true, List.any_eq_true]
  constructor
  · rintro ⟨x, hx, hp⟩
    obtain ⟨a, ha, rfl⟩ := List.mem_pmap.1 hx
    exact ⟨a, ha, hp⟩
  · rintro ⟨a, ha, hp⟩
    exact ⟨⟨a, h a ha⟩, List.mem_pmap.2 ⟨a, ha, rfl⟩, hp⟩

theorem spot_none {w : World} {b off : Nat} {ix : Option Nat} {v : Value} (h : w.cell? ⟨b, off, ix⟩ = some v) : ix = none := by
  cases ix with
  | none => rfl
  | some i =>
    simp only [World.cell?] at h
    split at h <;> simp at h
theorem add_at (b off j : Nat) : (⟨b, off, none⟩ : Addr).add j = ⟨b, off + j, none⟩ := Addr.add_lit b off j
theorem lt_of_cell {w : World} {a : Addr} {v : Value} (h : w.cell? a = some v) : a.block < w.heap.size := by
  rcases Nat.lt_or_ge a.block w.heap.size with h' | h'
  · exact h'
  · simp [World.cell?, Array.getElem?_eq_none h'] at h
/-- A row that is read, not empty: where it lies. -/
theorem C_at {w : World} {A : Option Addr} {l : List Sv} (h : Kd.C k25 w A l.length l) (h0 : 0 < l.length) : ∃ b off, A = some ⟨b, off, none⟩ ∧ b < w.heap.size ∧ ∀ j (hj : j < l.length) i v, (encS l[j])[i]? = some v → w.cell? ⟨b, off + j * 3 + i, none⟩ = some v := by
  obtain ⟨ad, rfl, hc⟩ := h.2.2 h0
  obtain ⟨b, off, ix⟩ := ad
  have key : ∀ j (hj : j < l.length) i v, (encS l[j])[i]? = some v → w.cell? ((⟨b, off, ix⟩ : Addr).add (j * 3 + i)) = some v := by
    intro j hj i v hv
    obtain ⟨c, _, hK, hcell⟩ := hc j _ (List.getElem?_eq_getElem hj)
    have hK' : c = encS l[j] := k25_open hK
    subst hK'
    exact hcell i v hv
  have h1 := key 0 h0 0 _ rfl
  have hix : ix = none := by
    have : (⟨b, off, ix⟩ : Addr).add (0 * 3 + 0) = ⟨b, off, ix⟩ := by unfold Addr.add; simp
    rw [this] at h1
    exact spot_none h1
  subst hix
  refine ⟨b, off, rfl, ?_, fun j hj i v hv => ?_⟩
  · rw [add_at] at h1; exact lt_of_cell h1
  · have := key j hj i v hv
    rwa [add_at, ← Nat.add_assoc] at this

set_option maxHeartbeats 4000000 in
set_option maxRecDepth 100000 in
theorem index_empty (A : Option Addr) (c : Nat) (F : Value) (w : World) : Calls Tryz.prog 58 #[.slice A 0 c, F] w fun e w' => e = .returned (.int .i64 (-1)) ∧ w' = w := by
  go_enter Tryz.func58, Tryz.ntmps58
  go_wp2
  refine wp_loop_rounds 1 ?_
  rw [rounds_succ]
  go_wp2
  go_ret
  exact ⟨rfl, rfl⟩
set_option maxRecDepth 100000 in
theorem contains_empty (A : Option Addr) (c : Nat) (F : Value) (w : World) : Calls Tryz.prog 33 #[.slice A 0 c, F] w fun e w' => e = .returned (.bool false) ∧ w' = w := by
  have HE := Aside0.mk (index_empty A c F w)
  go_enter Tryz.func33, Tryz.ntmps33
  go_wp2_with fail
  refine HE.out.mono ?_
  rintro e w' ⟨rfl, rfl⟩
  go_wp2
  go_ret
  exact ⟨rfl, rfl⟩

theorem contains_any (A : Option Addr) (c : Nat) (l : List Sv) (w : World) (hr : Kd.C k25 w A l.length l) (hok : ∀ x ∈ l, okS x) (hl : l.length < 1000000) (p : Sv → Bool) (g : Nat) (lb : Array Value)
    (eg : ∀ args w, (callFunc g args).run Tryz.prog w = .ok (.enter g args) w) (hp : PredBelow Tryz.prog g lb (fun x : OkS => .agg (encS x.1).toArray) (fun x => p x.1) w) :
    Calls Tryz.prog 33 #[.slice A l.length c, .func (.func g) #[] lb] w fun e w' => e = .returned (.bool (l.any p)) ∧ Below w.heap.size w w' := by
  rcases Nat.eq_zero_or_pos l.length with h0 | h0
  · obtain rfl := List.eq_nil_of_length_eq_zero h0
    exact (contains_empty A c _ w).mono fun e w' ⟨h1, h2⟩ => ⟨h1, by rw [h2]; exact Below.refl _ _⟩
  · obtain ⟨b, off, rfl, hb, hc⟩ := C_at hr h0
    have := AnyQ.slices_ContainsFunc Tryz.containsV 3 Tryz.isAgg25 Tryz.sizeOf25 (fun x : OkS => encS x.1) (fun _ => rfl) (fun x => p x.1) g lb eg b off l.length c (subL l hok) w hp (by rw [subL_len]; exact Nat.le_refl _) (by omega) hb
      (fun j hj i v hv => hc j (by rwa [subL_len] at hj) i v (by rw [subL_len] at hj; rwa [subL_get l hok j hj] at hv))
    rw [subL_any l hok p] at this
    exact this

set_option maxHeartbeats 4000000 in
set_option maxRecDepth 100000 in
theorem wrong2 (w : World) : PredBelow Tryz.prog 34 #[] (fun x : OkS => .agg (encS x.1).toArray) (fun x => !rightS x.1) w := fun W x hb => by
  show Calls Tryz.prog 34 #[.agg #[.int .i64 x.1.f0, .int .i64 x.1.f1, .string x.1.f2]] W _
  have HB := Aside0.mk hb
  have HV := Aside0.mk (vright_any (toV x.1) x.2.2.2)
  clear hb
  obtain ⟨x, hx⟩ := x
  simp only at HV ⊢
  clear hx
  go_enter Tryz.func34, Tryz.ntmps34
  go_wp2_with fail
  refine (HV.out _).mono ?_
  rintro e w' ⟨rfl, hb'⟩
  have HB' := Aside0.mk hb'
  clear hb'
  go_wp2_with fail
  go_ret
  exact ⟨rfl, (HB.out.alloc HB.out.size _).trans (HB'.out.mono (by simp; have := HB.out.size; omega))⟩

set_option maxHeartbeats 4000000 in
set_option maxRecDepth 100000 in
theorem wrong1 (kind : Int) (A : Addr) (n c : Nat) (l : List Sv) (b off bl bk : Nat) (w : World) (h0 : 0 < n) (hA : A = ⟨b, off, none⟩) (hbl : w.cell? ⟨bl, 0, none⟩ = some (.slice (some A) n c)) (hbk : w.cell? ⟨bk, 0, none⟩ = some (.int .i64 kind))
    (k0 : Int) (hc : w.cell? ⟨b, off, none⟩ = some (.int .i64 k0)) :
    PredBelow Tryz.prog 32 #[.pointer (some ⟨bl, 0, none⟩), .pointer (some ⟨bk, 0, none⟩)] (fun x : OkS => .agg (encS x.1).toArray) (fun x => decide (x.1.f0 ≠ k0 ∨ (x.1.f0 = 3 ∧ (kind = 2 ∨ kind = 5)))) w := fun W x hb => by
  show Calls Tryz.prog 32 #[.agg #[.int .i64 x.1.f0, .int .i64 x.1.f1, .string x.1.f2], .pointer (some ⟨bl, 0, none⟩), .pointer (some ⟨bk, 0, none⟩)] W _
  have mixed : Tryz.prog.follows Departure.mixedOrders = true := by kernel_rfl
  subst hA
  have c1 := (hb.cell (p := ⟨bl, 0, none⟩) (lt_of_cell hbl)).trans hbl
  have c2 := (hb.cell (p := ⟨bk, 0, none⟩) (lt_of_cell hbk)).trans hbk
  have c3 := (hb.cell (p := ⟨b, off, none⟩) (lt_of_cell hc)).trans hc
  have n1 : bl ≠ W.heap.size := by have := lt_of_cell c1; simp at this; omega
  have n2 : bk ≠ W.heap.size := by have := lt_of_cell c2; simp at this; omega
  have n3 : b ≠ W.heap.size := by have := lt_of_cell c3; simp at this; omega
  have hn : (0 : Int) < (n : Int) := by omega
  have HB := Aside0.mk hb
  clear hb hbl hbk hc
  obtain ⟨x, hx⟩ := x
  dsimp only
  have HX := Aside0.mk hx
  have d1 := cell?_alloc_some (.cells #[.int .i64 x.f0, .int .i64 x.f1, .string x.f2] 25) c1
  have d2 := cell?_alloc_some (.cells #[.int .i64 x.f0, .int .i64 x.f1, .string x.f2] 25) c2
  have d3 := cell?_alloc_some (.cells #[.int .i64 x.f0, .int .i64 x.f1, .string x.f2] 25) c3
  have d4 : (W.alloc (.cells #[.int .i64 x.f0, .int .i64 x.f1, .string x.f2] 25)).cell? ⟨W.heap.size, 0, none⟩ = some (.int .i64 x.f0) := by simp
  have HB2 := Aside0.mk (HB.out.alloc HB.out.size (.cells #[.int .i64 x.f0, .int .i64 x.f1, .string x.f2] 25))
  clear c1 c2 c3 n1 n2 n3
  go_enter Tryz.func32, Tryz.ntmps32
  go_wp2_with fail
  generalize (W.alloc (.cells #[.int .i64 x.f0, .int .i64 x.f1, .string x.f2] 25)) = W2 at d1 d2 d3 d4 HB2 ⊢
  generalize W.heap.size = bx at d4 ⊢
  by_cases e1 : x.f0 = k0
  · have g1 : (x.f0 != k0) = false := by simp [e1]
    by_cases e2 : x.f0 = 3
    · have g2 : (x.f0 == 3) = true := by simp [e2]
      by_cases e3 : kind = 2
      · have g3 : (kind == 2) = true := by simp [e3]
        have e := Aside0.mk (And.intro e1 (And.intro e2 e3))
        clear e1 e2 e3
        go_big_region_o
        all_goals go_wp2
        go_ret
        exact ⟨ret_bool (by obtain ⟨e1, e2, e3⟩ := e.out; simp [e2, e3]), HB2.out.drew⟩
      · have g3 : (kind == 2) = false := by simp [e3]
        have e := Aside0.mk (And.intro e1 (And.intro e2 e3))
        clear e1 e2 e3
        go_big_region_o
        all_goals go_wp2
        go_ret
        exact ⟨ret_bool (by obtain ⟨e1, e2, e3⟩ := e.out; rw [← e1] at *; by_cases e5 : kind = 5 <;> simp [e2, e3, e5]), HB2.out.drew⟩
    · have g2 : (x.f0 == 3) = false := by simp [e2]
      have e := Aside0.mk (And.intro e1 e2)
      clear e1 e2
      go_big_region_o
      all_goals go_wp2
      go_ret
      exact ⟨ret_bool (by obtain ⟨e1, e2⟩ := e.out; rw [← e1] at *; simp [e2]), HB2.out.drew⟩
  · have g1 : (x.f0 != k0) = true := bne_iff_ne.2 e1
    have e := Aside0.mk e1
    clear e1
    go_big_region_o
    all_goals go_wp2
    go_ret
    exact ⟨ret_bool (by have e1 := e.out; simp [e1]), HB2.out.drew⟩

theorem box2 (w : World) (v1 v2 : Value) (t1 t2 : TypeId) : ((w.alloc (.cells #[v1] t1)).alloc (.cells #[v2] t2)).cell? ⟨w.heap.size, 0, none⟩ = some v1 ∧ ((w.alloc (.cells #[v1] t1)).alloc (.cells #[v2] t2)).cell? ⟨w.heap.size + 1, 0, none⟩ = some v2 := by
  refine ⟨cell?_alloc_some _ (by simp), ?_⟩
  have h : ∀ W : World, (W.alloc (.cells #[v2] t2)).cell? ⟨W.heap.size, 0, none⟩ = some v2 := fun W => by simp
  have := h (w.alloc (.cells #[v1] t1))
  rwa [World.size_alloc] at this
theorem odd_eq (kind : Int) (l : List Sv) (x0 : Sv) (r : List Sv) (h : l = x0 :: r) : oddS kind l = fun x => decide (x.f0 ≠ x0.f0 ∨ (x.f0 = 3 ∧ (kind = 2 ∨ kind = 5))) := by
  subst h; rfl

set_option maxHeartbeats 4000000 in
set_option maxRecDepth 100000 in
theorem wrong_walk (kind : Int) (A : Option Addr) (c : Nat) (l : List Sv) (w : World) (hr : Kd.C k25 w A l.length l) (hok : okL l) :
    Calls Tryz.prog 15 #[.int .i64 kind, .slice A l.length c] w fun e w' => e = .returned (.int .i64 (wrongP kind l)) ∧ RowKit.Below w.heap.size w w' := by
  have H2 : Aside0 (∀ W, RowKit.Below w.heap.size w W → Calls Tryz.prog 33 #[.slice A l.length c, .func (.func 34) #[] #[]] W fun e w' => e = .returned (.bool (l.any fun x => !rightS x)) ∧ RowKit.Below W.heap.size W w') :=
    ⟨fun W hW => contains_any A c l W (Kd.C_below hr hW) hok.2 hok.1 (fun x => !rightS x) 34 #[] (enters_of Tryz.func34 (by kernel_rfl) rfl) (wrong2 W)⟩
  have H1 : Aside0 (∀ W bl bk, RowKit.Below w.heap.size w W → 0 < l.length → W.cell? ⟨bl, 0, none⟩ = some (.slice A l.length c) → W.cell? ⟨bk, 0, none⟩ = some (.int .i64 kind) → Calls Tryz.prog 33 #[.slice A l.length c, .func (.func 32) #[] #[.pointer (some ⟨bl, 0, none⟩), .pointer (some ⟨bk, 0, none⟩)]] W fun e w' => e = .returned (.bool (l.any (oddS kind l))) ∧ RowKit.Below W.heap.size W w') := by
    refine ⟨fun W bl bk hW h0 hbl hbk => ?_⟩
    obtain ⟨b, off, rfl, hb, hc⟩ := C_at (Kd.C_below hr hW) h0
    have hc0 := hc 0 h0 0 _ rfl
    cases l with
    | nil => simp at h0
    | cons x0 r =>
      rw [odd_eq kind (x0 :: r) x0 r rfl]
      exact contains_any _ c (x0 :: r) W (Kd.C_below hr hW) hok.2 hok.1 _ 32 _ (enters_of Tryz.func32 (by kernel_rfl) rfl) (wrong1 kind _ _ c (x0 :: r) b off bl bk W h0 rfl hbl hbk x0.f0 (by simpa using hc0))
  clear hr hok
  have hB : Aside0 (RowKit.Below w.heap.size w ((w.alloc (.cells #[.int .i64 kind] 3)).alloc (.cells #[.slice A l.length c] 22))) := ⟨((Grown.refl w).alloc _ |>.alloc _).below⟩
  by_cases hk : kind < 1 ∨ 5 < kind
  · have e : wrongP kind l = 1 := by unfold wrongP; rw [if_pos]; rcases hk with h | h <;> simp [h]
    rw [e]
    by_cases hk1 : kind < 1
    · have g1 : decide (kind < 1) = true := by simp [hk1]
      clear hk hk1
      go_enter Tryz.func15, Tryz.ntmps15
      go_wp2_with fail
      go_ret
      exact ⟨rfl, hB.out⟩
    · have g1 : decide (kind < 1) = false := by simp [hk1]
      have g2 : decide (5 < kind) = true := by simp; omega
      clear hk hk1
      go_enter Tryz.func15, Tryz.ntmps15
      go_wp2_with fail
      go_ret
      exact ⟨rfl, hB.out⟩
  · have g1 : decide (kind < 1) = false := by simp; omega
    have g2 : decide (5 < kind) = false := by simp; omega
    have HK := Aside0.mk hk
    clear hk
    go_enter Tryz.func15, Tryz.ntmps15
    go_wp2_with fail
    refine (H2.out _ hB.out).mono ?_
    rintro e w1 ⟨rfl, hb1⟩
    have c1 : w1.cell? ⟨w.heap.size + 1, 0, none⟩ = some (.slice A l.length c) := (hb1.cell (p := ⟨w.heap.size + 1, 0, none⟩) (by simp)).trans (box2 w _ _ _ _).2
    have c2 : w1.cell? ⟨w.heap.size, 0, none⟩ = some (.int .i64 kind) := (hb1.cell (p := ⟨w.heap.size, 0, none⟩) (by simp; omega)).trans (box2 w _ _ _ _).1
    have HB1 := Aside0.mk (hB.out.trans (hb1.mono (by simp; omega)))
    clear hb1
    by_cases ha : (l.any fun x => !rightS x) = true
    · have e : Aside0 (wrongP kind l = 1) := ⟨by unfold wrongP; rw [if_pos (.inr (.inr ha))]⟩
      rw [ha]
      clear ha
      go_wp2_with fail
      go_ret
      exact ⟨by rw [e.out]; rfl, HB1.out⟩
    · have ha' : (l.any fun x => !rightS x) = false := by simpa using ha
      have hn : ¬ (kind < 1 ∨ 5 < kind ∨ (l.any fun x => !rightS x) = true) := fun h => by have := HK.out; rcases h with h | h | h <;> first | omega | exact ha h
      have HN := Aside0.mk hn
      rw [ha']
      clear ha ha' hn
      by_cases h0 : l = []
      · subst h0
        have e : Aside0 (wrongP kind [] = 12) := ⟨by unfold wrongP; rw [if_neg HN.out, if_pos rfl]⟩
        go_wp2_with fail
        go_ret
        exact ⟨by rw [e.out]; rfl, HB1.out⟩
      · have hl : 0 < l.length := by cases l with | nil => exact absurd rfl h0 | cons _ _ => simp
        have g3 : ((l.length : Int) == 0) = false := by simp; omega
        have H3 := Aside0.mk (H1.out w1 _ _ HB1.out hl c1 c2)
        have HL := Aside0.mk h0
        clear h0 hl
        go_wp2_with fail
        refine H3.out.mono ?_
        rintro e w2 ⟨rfl, hb2⟩
        have HB2 := Aside0.mk (HB1.out.trans (hb2.mono HB1.out.size))
        clear hb2 c1 c2
        by_cases hd : l.any (oddS kind l) = true
        · have e : Aside0 (wrongP kind l = 6) := ⟨by unfold wrongP; rw [if_neg HN.out, if_neg HL.out, if_pos hd]⟩
          rw [hd]
          clear hd
          go_wp2_with fail
          go_ret
          exact ⟨by rw [e.out]; rfl, HB2.out⟩
        · have e : Aside0 (wrongP kind l = 0) := ⟨by unfold wrongP; rw [if_neg HN.out, if_neg HL.out, if_neg hd]⟩
          have hd' : l.any (oddS kind l) = false := by simpa using hd
          rw [hd']
          clear hd hd'
          go_wp2_with fail
          go_ret
          exact ⟨by rw [e.out]; rfl, HB2.out⟩

theorem fold_wrong.calls (a0 : Int) (A1 : Option Addr) (c1 : Nat) (l1 : List Sv) (r : Int) (w : World) (hr1 : Kd.C k25 w A1 l1.length l1) (_hc1 : l1.length ≤ c1) (h : fold_wrong.f a0 l1 = some r) :
    Calls Tryz.prog 15 #[.int .i64 a0, .slice A1 l1.length c1] w fun e w' => e = .returned (.int .i64 r) ∧ RowKit.Below w.heap.size w w' := by
  unfold fold_wrong.f at h
  split at h
  · rename_i hh
    obtain rfl := Option.some.inj h
    exact wrong_walk a0 A1 c1 l1 w hr1 hh.1
  · cases h
end Go.Proofs.YtolefpeiceiocaaGreat.Ps
