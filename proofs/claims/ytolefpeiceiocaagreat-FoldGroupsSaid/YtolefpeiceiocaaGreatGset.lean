/- fold.Set: VALUES IN ORDER, EACH ONCE. Condition: fewer than a million values. -/
import Derived.Test.YtolefpeiceiocaaGreatGrow
import Derived.Test.YtolefpeiceiocaaGreatShelf
import Derived.Test.YtolefpeiceiocaaGreatGr
namespace Go.Proofs.YtolefpeiceiocaaGreat.Ps
open Go Go.RowKit Go.Proofs.YtolefpeiceiocaaGreatW.PrintWords Go.Proofs.YtolefpeiceiocaaGreatW.PrintLast Go.Lib Go.Sort Go.Proofs
set_option linter.unusedVariables false

theorem value_Compare (x y : Sv) (w : World) : Calls Tryz.prog 27 #[.agg #[.int .i64 x.f0, .int .i64 x.f1, .string x.f2], .agg #[.int .i64 y.f0, .int .i64 y.f1, .string y.f2]] w fun e w' => e = .returned (.int .i64 (cmpS x y)) ∧ Grown w w' :=
  compare_any (toV x) (toV y) w
theorem cmpLaysV (blk off size : Nat) (w : World) : CmpLays Tryz.prog 27 #[] encS 3 cmpS blk off size w :=
  fun _ _ _ _ x y => (value_Compare x y _).mono fun _ _ ⟨h1, h2⟩ => ⟨h1, h2.eq⟩

set_option maxRecDepth 100000 in
theorem compact_nil (w : World) : Calls Tryz.prog 28 #[.slice none 0 0] w fun e w' => e = .returned (.slice none 0 0) ∧ w' = w := by
  go_enter Tryz.func28, Tryz.ntmps28
  go_wp2
  go_ret
  exact ⟨rfl, rfl⟩

set_option maxHeartbeats 4000000 in
set_option maxRecDepth 1000000 in
theorem set_walk (A : Option Addr) (c : Nat) (l : List Sv) (w : World) (hl : l.length < 1000000)
    (hcl : Calls Tryz.prog 25 #[.slice A l.length c] w fun e w' => ∃ v', e = .returned v' ∧ w'.ownsRow w.heap.size 25 3 v' l.length (flatS l) ∧ (v' = .slice none 0 0 ↔ A = none) ∧ Grown w w') :
    Calls Tryz.prog 9 #[.slice A l.length c] w fun e w' => ∃ v, e = .returned v ∧ Kd.R k25 25 w' w.heap.size (fun _ => True) v (setL l) ∧ Below w.heap.size w w' := by
  have HC := Aside0.mk hcl
  clear hcl
  go_enter Tryz.func9, Tryz.ntmps9
  go_wp2_with fail
  refine HC.out.mono ?_
  rintro e w1 ⟨v, rfl, hown, hnil, hgr⟩
  have HO := Aside0.mk hown
  have HG := Aside0.mk hgr
  have HN := Aside0.mk hnil
  clear hown hgr hnil
  by_cases hv : v = .slice none 0 0
  · subst hv
    have h0 : l = [] := by
      rcases HO.out.2 with ⟨_, e⟩ | ⟨_, _, _, e, _⟩
      · exact List.eq_nil_of_length_eq_zero e
      · cases e
    subst h0
    have hs := Aside0.mk (AnyF.slices_SortFunc_none { Tryz.sortV with } none 0 (.func (.func 27) #[] #[]))
    go_wp2_with fail
    refine (hs.out _).mono ?_
    rintro e w' ⟨rfl, rfl⟩
    clear hs
    go_wp2_with fail
    refine (compact_nil _).mono ?_
    rintro e w' ⟨rfl, rfl⟩
    go_wp2_with fail
    go_ret
    exact ⟨_, rfl, Kd.R_nil _ _ _ _ _, HG.out.below⟩
  · obtain ⟨g, cap, rfl, hb, _, hrow⟩ := RowAt.of_own HO.out hv
    have hlt := hrow.lt
    have hs := AnyQ.slices_SortFunc Tryz.sortV 3 Tryz.isAgg25 Tryz.sizeOf25 encS encS_len encS_one cmpS cmpS_ord.swo 27 #[] g 0 cap l.toArray w1 (enters_of Tryz.func27 (by kernel_rfl) rfl) (cmpLaysV _ _ _ _) hrow.holds hlt (by simp; omega)
    change Calls Tryz.prog 26 _ _ _ at hs
    simp only [List.size_toArray] at hs
    have HS := Aside0.mk hs
    have HR := Aside0.mk hrow
    have HB := Aside0.mk hb
    have HLT := Aside0.mk hlt
    have HL := Aside0.mk hl
    clear hs hrow HO HN hv hb hlt HC
    go_wp2_with fail
    refine HS.out.mono ?_
    rintro e w2 ⟨rfl, d', n, os, hp, hsrt, hw2⟩
    have hsz : d'.size = l.length := by have := hp.1; simpa using this
    have hrow2 : RowAt w2 g cap d'.toList := by rw [hw2]; exact (HR.out.putK hsz).grow os
    have hH2 : HoldsK encS 3 w2 g 0 d' := by have := hrow2.holds; simpa using this
    have hcap : d'.size ≤ cap := by obtain ⟨cur, _, h1, _⟩ := hrow2.out; simpa using h1
    have hc := compactS g 0 cap d' w2 hH2 (by have := HL.out; omega) hcap
    have hset : compactUpTo d' d'.size = setL l := by have := compact_set cmpS_ord l.toArray d' hp hsrt; simpa [setL] using this
    rw [hset, hsz] at hc
    have HC := Aside0.mk hc
    have HR2 := Aside0.mk hrow2
    have HSZ := Aside0.mk hsz
    have HST := Aside0.mk hset
    have HW2 := Aside0.mk hw2
    clear hc hrow2 hH2 hcap hset hsz hw2 hp hsrt HS
    go_wp2_with fail
    refine HC.out.mono ?_
    rintro e w3 ⟨rfl, q, F, hw3, hF, hf⟩
    have hrow3 : RowAt w3 g cap (setL l) := by
      rw [hw3]
      exact HR2.out.put (by rw [hF]; simp [HSZ.out]) (by have := setC_length (c := cmpS) l; simpa [HSZ.out, setL] using this) hf
    have hbel : Below w.heap.size w w3 := by
      have h1 : Below w.heap.size w (putRow id (Sort.ahead w1 n) g 0 (flatK encS 3 d')) := below_putRow HG.out.below HB.out
      have h2 : Below w.heap.size w w2 := by
        rw [HW2.out]
        exact h1.trans (((Grown.of_eq ⟨0, os, rfl⟩).below).mono (by simp [putRow, mapBlock, Sort.ahead]; exact HG.out.size))
      rw [hw3]
      exact below_putRow h2 HB.out
    have HR3 := Aside0.mk hrow3
    have HBEL := Aside0.mk hbel
    clear hrow3 hbel hw3 hF hf HC HR2
    go_wp2_with fail
    go_ret
    exact ⟨_, rfl, R_of_own3 (HR3.out.own HB.out) (fun _ _ => trivial), HBEL.out⟩

theorem fold_Set.calls (A0 : Option Addr) (c0 : Nat) (l0 r : List Sv) (w : World) (hr0 : Kd.C k25 w A0 l0.length l0) (_hc0 : l0.length ≤ c0) (h : fold_Set.f l0 = some r) :
    Calls Tryz.prog 9 #[.slice A0 l0.length c0] w fun e w' => ∃ v0_ : Value, e = .returned (v0_) ∧ Kd.R k25 25 w' w.heap.size (fun _ => True) v0_ r ∧ Below w.heap.size w w' := by
  unfold fold_Set.f at h
  split at h
  · rename_i hh
    obtain rfl := Option.some.inj h
    refine set_walk A0 c0 l0 w hh.1 (cloneV A0 l0.length c0 (flatS l0) w (flatS_len l0) (by have := hh.1; omega) (cells_C hr0) (flatS_one l0) (fun e => ?_))
    subst e
    rcases Nat.eq_zero_or_pos l0.length with h0 | h0
    · exact h0
    · obtain ⟨ad, e, _⟩ := hr0.2.2 h0; cases e
  · cases h
end Go.Proofs.YtolefpeiceiocaaGreat.Ps
