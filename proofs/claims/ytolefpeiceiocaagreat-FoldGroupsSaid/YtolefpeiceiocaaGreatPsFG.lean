-- printed by a program of this session out of the translation
import Derived.Test.YtolefpeiceiocaaGreatPs0
import Derived.Test.YtolefpeiceiocaaGreatPsOf
import Derived.Test.YtolefpeiceiocaaGreatPsAw
import Derived.Test.YtolefpeiceiocaaGreatPs5
import Derived.Test.YtolefpeiceiocaaGreatPsG
import Derived.Test.YtolefpeiceiocaaGreatGgroups
namespace Go.Proofs.YtolefpeiceiocaaGreat.Ps
open Go.RowKit Go.Proofs.YtolefpeiceiocaaGreatW.PrintWords Go.Proofs.YtolefpeiceiocaaGreatW.PrintLast Go.Proofs.YtolefpeiceiocaaGreatW.PrintMore
attribute [local go_sem] max2_int min2_int max_two min_two max_three min_three max_four min_four   -- for this text's walks alone
set_option linter.unusedVariables false
set_option linter.unusedSimpArgs false

def antecedentlaw20_FoldGroups.f (k : Nat) (a0 : Int) (l1 : List (List (S25))) : Option (Bool) := (antecedentlaw20_awake.f k).bind fun t338 => (if t338 = true then ((antecedentlaw20_few.f k l1).bind fun t339 => (if t339 = true then ((fold_Groups.f a0 l1).bind fun bt340 => ((antecedentref20_Groups.f k a0 l1).bind fun bt344 => ((antecedentref04_Same.f k bt340.1 bt344.1).bind fun t348 => (if t348 = true then (some (bt340.2 == bt344.2)) else (none))))) else ((antecedentlaw20_awake.f k).bind fun t349 => (if t349 = true then (some t349) else (none))))) else (none))
theorem antecedentlaw20_FoldGroups.mono : ∀ a0 a1 k, LeO (antecedentlaw20_FoldGroups.f k a0 a1) (antecedentlaw20_FoldGroups.f (k + 1) a0 a1) := by
  intro a0 a1 k
  unfold antecedentlaw20_FoldGroups.f
  repeat' first
      | (with_reducible exact antecedentlaw20_awake.mono _)
      | (with_reducible exact antecedentlaw20_few.mono _ _)
      | (with_reducible exact antecedentref04_Same.mono _ _ _)
      | (with_reducible exact antecedentref20_Groups.mono _ _ _)
      | (with_reducible exact LeO.refl _)
      | (with_reducible exact LeO.none _)
      | (with_reducible refine LeO.ite ?_ ?_)
      | (with_reducible refine LeO.bind ?_ (fun _ => ?_))
      | exact antecedentlaw20_awake.mono _
      | exact antecedentlaw20_few.mono _ _
      | exact antecedentref04_Same.mono _ _ _
      | exact antecedentref20_Groups.mono _ _ _
      | exact LeO.none _
      | refine LeO.ite ?_ ?_
      | refine LeO.bind ?_ (fun _ => ?_)
set_option maxHeartbeats 8000000 in
set_option maxRecDepth 100000 in
theorem antecedentlaw20_FoldGroups.calls (k : Nat) (a0 : Int) (A1 : Option Addr) (c1 : Nat) (l1 : List (List (S25))) (r : Bool) (w : World) (hr1 : Kd.C (Kd.slice 25 k25) w A1 l1.length l1) (hc1 : l1.length ≤ c1) (h : antecedentlaw20_FoldGroups.f k a0 l1 = some r) :
    Calls Tryz.prog 4 #[.int .i64 a0, .slice A1 l1.length c1] w fun e w' => e = .returned (.bool r) ∧ Below w.heap.size w w' := by
  have HR1 := Aside0.mk hr1
  have HC1 := Aside0.mk hc1
  clear hr1 hc1
  have HB := Aside0.mk (Below.refl w.heap.size w)
  have H : ((antecedentlaw20_awake.f k).bind fun t338 => (if t338 = true then ((antecedentlaw20_few.f k l1).bind fun t339 => (if t339 = true then ((fold_Groups.f a0 l1).bind fun bt340 => ((antecedentref20_Groups.f k a0 l1).bind fun bt344 => ((antecedentref04_Same.f k bt340.1 bt344.1).bind fun t348 => (if t348 = true then (some (bt340.2 == bt344.2)) else (none))))) else ((antecedentlaw20_awake.f k).bind fun t349 => (if t349 = true then (some t349) else (none))))) else (none))) = some r := h
  clear h
  replace H := Option.bind_eq_some_iff.mp H
  obtain ⟨t338, A30, H⟩ := H
  replace H : (if t338 = true then ((antecedentlaw20_few.f k l1).bind fun t339 => (if t339 = true then ((fold_Groups.f a0 l1).bind fun bt340 => ((antecedentref20_Groups.f k a0 l1).bind fun bt344 => ((antecedentref04_Same.f k bt340.1 bt344.1).bind fun t348 => (if t348 = true then (some (bt340.2 == bt344.2)) else (none))))) else ((antecedentlaw20_awake.f k).bind fun t349 => (if t349 = true then (some t349) else (none))))) else (none)) = some r := H
  have A3 := Aside0.mk A30
  clear A30
  by_cases c4 : t338 = true
  · subst c4
    have H1 : ((antecedentlaw20_few.f k l1).bind fun t339 => (if t339 = true then ((fold_Groups.f a0 l1).bind fun bt340 => ((antecedentref20_Groups.f k a0 l1).bind fun bt344 => ((antecedentref04_Same.f k bt340.1 bt344.1).bind fun t348 => (if t348 = true then (some (bt340.2 == bt344.2)) else (none))))) else ((antecedentlaw20_awake.f k).bind fun t349 => (if t349 = true then (some t349) else (none))))) = some r := by rw [if_pos rfl] at H; exact H
    clear H
    have H := H1
    clear H1
    replace H := Option.bind_eq_some_iff.mp H
    obtain ⟨t339, A50, H⟩ := H
    replace H : (if t339 = true then ((fold_Groups.f a0 l1).bind fun bt340 => ((antecedentref20_Groups.f k a0 l1).bind fun bt344 => ((antecedentref04_Same.f k bt340.1 bt344.1).bind fun t348 => (if t348 = true then (some (bt340.2 == bt344.2)) else (none))))) else ((antecedentlaw20_awake.f k).bind fun t349 => (if t349 = true then (some t349) else (none)))) = some r := H
    have A5 := Aside0.mk A50
    clear A50
    by_cases c6 : t339 = true
    · subst c6
      have H1 : ((fold_Groups.f a0 l1).bind fun bt340 => ((antecedentref20_Groups.f k a0 l1).bind fun bt344 => ((antecedentref04_Same.f k bt340.1 bt344.1).bind fun t348 => (if t348 = true then (some (bt340.2 == bt344.2)) else (none))))) = some r := by rw [if_pos rfl] at H; exact H
      clear H
      have H := H1
      clear H1
      replace H := Option.bind_eq_some_iff.mp H
      obtain ⟨⟨t340, t341⟩, A70, H⟩ := H
      replace H : ((antecedentref20_Groups.f k a0 l1).bind fun bt344 => ((antecedentref04_Same.f k t340 bt344.1).bind fun t348 => (if t348 = true then (some (t341 == bt344.2)) else (none)))) = some r := H
      have A7 := Aside0.mk A70
      clear A70
      replace H := Option.bind_eq_some_iff.mp H
      obtain ⟨⟨t344, t347⟩, A80, H⟩ := H
      replace H : ((antecedentref04_Same.f k t340 t344).bind fun t348 => (if t348 = true then (some (t341 == t347)) else (none))) = some r := H
      have A8 := Aside0.mk A80
      clear A80
      replace H := Option.bind_eq_some_iff.mp H
      obtain ⟨t348, A90, H⟩ := H
      replace H : (if t348 = true then (some (t341 == t347)) else (none)) = some r := H
      have A9 := Aside0.mk A90
      clear A90
      by_cases c10 : t348 = true
      · subst c10
        have H1 : (some (t341 == t347)) = some r := by rw [if_pos rfl] at H; exact H
        clear H
        have H := H1
        clear H1
        obtain rfl := Option.some.inj H
        go_enter Tryz.func4, Tryz.ntmps4
        go_wp2_with (first | ((with_reducible refine gate_callee (f := 5) rfl ?_); refine goesL_ (some 9) rfl rfl Tryz.func5 (by kernel_rfl) rfl #[] rfl (by (try simp only [List.map_toArray, List.map_cons, List.map_nil]); first | done | rfl | (simp only [List.length_drop, List.length_take]; rfl)) ?_; (with_reducible refine (antecedentlaw20_awake.calls k  true _ A3.out).mono ?_); rintro e w11 ⟨rfl, hb⟩; refine ⟨_, rfl, ?_⟩; have n0_ := Aside0.mk (below_step (by repeat (first | (with_reducible first | exact HB.out | apply below_alloc | apply pw_below_drewN | apply below_drew1) | exact HB.out)) hb); clear HB; have HB := n0_; clear n0_; (try clear hb); (try clear hb2); (try clear hk); (try clear hi)) | (go_at_call 11; (with_reducible refine (antecedentlaw20_few.calls k _ _ l1 true _ ?side1 ?side2 A5.out).mono ?_); (case side1 => repeat (first | exact (Kd.C_below HR1.out HB.out) | (with_reducible refine Kd.C_alloc ?_ _) | (with_reducible refine Kd.C_drewN ?_ _) | (with_reducible refine Kd.C_drew ?_))); (case side2 => exact HC1.out); rintro e w' ⟨rfl, ⟨nd, rfl⟩⟩) | ((with_reducible refine gate_callee (f := 12) rfl ?_); refine goesL_ (some 20) rfl rfl Tryz.func12 (by kernel_rfl) rfl #[.int .i64 a0, .slice A1 l1.length c1] rfl (by (try simp only [List.map_toArray, List.map_cons, List.map_nil]); first | done | rfl | (simp only [List.length_drop, List.length_take]; rfl)) ?_; (with_reducible refine (fold_Groups.calls a0 _ _ l1 t340 t341 _ ?side1 ?side2 A7.out).mono ?_); (case side1 => repeat (first | exact (Kd.C_below HR1.out (by repeat (first | (with_reducible first | exact HB.out | apply below_alloc | apply pw_below_drewN | apply below_drew1) | exact HB.out))) | (with_reducible refine Kd.C_alloc ?_ _) | (with_reducible refine Kd.C_drewN ?_ _) | (with_reducible refine Kd.C_drew ?_))); (case side2 => exact HC1.out); rintro e w12 ⟨v342, rfl, ho0, hb⟩; refine ⟨_, rfl, ?_⟩; have n0_ := Aside0.mk (Kd.N_lower (Kd.N_mono (ok' := fun k_ => True) ho0 (fun k_ hk_ => trivial)) (below_size (by repeat (first | (with_reducible first | exact HB.out | apply below_alloc | apply pw_below_drewN | apply below_drew1) | exact HB.out)))); have n1_ := Aside0.mk (below_step (by repeat (first | (with_reducible first | exact HB.out | apply below_alloc | apply pw_below_drewN | apply below_drew1) | exact HB.out)) hb); clear HB; have HO343 := n0_; have HB := n1_; clear n0_ n1_; (try clear hb); (try clear hb2); (try clear hk); (try clear hi); (try clear ho0)) | ((with_reducible refine gate_callee (f := 13) rfl ?_); refine goesL_ (some 26) rfl rfl Tryz.func13 (by kernel_rfl) rfl #[.int .i64 a0, .slice A1 l1.length c1] rfl (by (try simp only [List.map_toArray, List.map_cons, List.map_nil]); first | done | rfl | (simp only [List.length_drop, List.length_take]; rfl)) ?_; (with_reducible refine (antecedentref20_Groups.calls k a0 (fun k_ => k_ < w.heap.size) _ _ l1 t344 t347 _ ?side1 A8.out).mono ?_); (case side1 => exact Kd.V_mk HC1.out (Kd.F_below (Kd.C_F (Kd.heap_slice 25 k25_heap) HR1.out) (by repeat (first | (with_reducible first | exact HB.out | apply below_alloc | apply pw_below_drewN | apply below_drew1) | exact HB.out)))); rintro e w13 ⟨v345, rfl, ho0, hb⟩; refine ⟨_, rfl, ?_⟩; have n0_ := Aside0.mk (Kd.N_elder' (by (with_reducible repeat (first | apply Kd.N_alloc | apply Kd.N_drewN | apply Kd.N_drew)); exact HO343.out) (Kd.N_base ho0) hb); have n1_ := Aside0.mk (Kd.N_lower (Kd.N_mono (ok' := fun k_ => some k_ ≠ (v342 : Value).ownBlock) ho0 (fun k_ hk_ => Or.elim hk_ (fun hs_ => fun e_ => Nat.not_le.2 hs_ (Kd.N_base HO343.out k_ e_.symm)) (fun hn_ => (Kd.fresh' (Kd.N_lt (by (with_reducible repeat (first | apply Kd.N_alloc | apply Kd.N_drewN | apply Kd.N_drew)); exact HO343.out)) k_ hn_)))) (below_size (by repeat (first | (with_reducible first | exact HB.out | apply below_alloc | apply pw_below_drewN | apply below_drew1) | exact HB.out)))); have n2_ := Aside0.mk (below_step (by repeat (first | (with_reducible first | exact HB.out | apply below_alloc | apply pw_below_drewN | apply below_drew1) | exact HB.out)) hb); clear HO343; clear HB; have HO343 := n0_; have HO346 := n1_; have HB := n2_; clear n0_ n1_ n2_; (try clear hb); (try clear hb2); (try clear hk); (try clear hi); (try clear ho0); obtain ⟨Ao14, co14, eo14⟩ := Kd.N_slice HO343.out; subst eo14; obtain ⟨Ao15, co15, eo15⟩ := Kd.N_slice HO346.out; subst eo15) | ((with_reducible refine gate_callee (f := 14) rfl ?_); refine goesL_ (some 31) rfl rfl Tryz.func14 (by kernel_rfl) rfl #[.slice Ao14 t340.length co14, .slice Ao15 t344.length co15] rfl (by (try simp only [List.map_toArray, List.map_cons, List.map_nil]); first | done | rfl | (simp only [List.length_drop, List.length_take]; rfl)) ?_; (with_reducible refine (antecedentref04_Same.calls k _ _ t340 _ _ t344 true _ ?side1 ?side2 ?side3 ?side4 A9.out).mono ?_); (case side1 => repeat (first | exact (Kd.N_reads' HO343.out).2.2 | (with_reducible refine Kd.C_alloc ?_ _) | (with_reducible refine Kd.C_drewN ?_ _) | (with_reducible refine Kd.C_drew ?_))); (case side2 => exact (Kd.N_reads' HO343.out).2.1); (case side3 => repeat (first | exact (Kd.N_reads' HO346.out).2.2 | (with_reducible refine Kd.C_alloc ?_ _) | (with_reducible refine Kd.C_drewN ?_ _) | (with_reducible refine Kd.C_drew ?_))); (case side4 => exact (Kd.N_reads' HO346.out).2.1); rintro e w16 ⟨rfl, hb⟩; refine ⟨_, rfl, ?_⟩; have n0_ := Aside0.mk (Kd.N_below (by (with_reducible repeat (first | apply Kd.N_alloc | apply Kd.N_drewN | apply Kd.N_drew)); exact HO343.out) hb); have n1_ := Aside0.mk (Kd.N_below (by (with_reducible repeat (first | apply Kd.N_alloc | apply Kd.N_drewN | apply Kd.N_drew)); exact HO346.out) hb); have n2_ := Aside0.mk (below_step (by repeat (first | (with_reducible first | exact HB.out | apply below_alloc | apply pw_below_drewN | apply below_drew1) | exact HB.out)) hb); clear HO343; clear HO346; clear HB; have HO343 := n0_; have HO346 := n1_; have HB := n2_; clear n0_ n1_ n2_; (try clear hb); (try clear hb2); (try clear hk); (try clear hi)))
        go_ret
        exact ⟨by first | rfl | (simp [errW_none, errW_some] <;> rfl) | (simp [*, errW_none, errW_some] <;> rfl), by repeat (first | (with_reducible first | exact HB.out | apply below_alloc | apply pw_below_drewN | apply below_drew1) | exact HB.out)⟩
      · replace c10 := Bool.eq_false_iff.mpr c10
        subst c10
        have H1 : (none) = some r := by rw [if_neg (show ¬ (false = true) by decide)] at H; exact H
        clear H
        have H := H1
        clear H1
        exact absurd H (by simp)
    · replace c6 := Bool.eq_false_iff.mpr c6
      subst c6
      have H1 : ((antecedentlaw20_awake.f k).bind fun t349 => (if t349 = true then (some t349) else (none))) = some r := by rw [if_neg (show ¬ (false = true) by decide)] at H; exact H
      clear H
      have H := H1
      clear H1
      replace H := Option.bind_eq_some_iff.mp H
      obtain ⟨t349, A170, H⟩ := H
      replace H : (if t349 = true then (some t349) else (none)) = some r := H
      have A17 := Aside0.mk A170
      clear A170
      by_cases c18 : t349 = true
      · subst c18
        have H1 : (some true) = some r := by rw [if_pos rfl] at H; exact H
        clear H
        have H := H1
        clear H1
        obtain rfl := Option.some.inj H
        go_enter Tryz.func4, Tryz.ntmps4
        go_wp2_with (first | ((with_reducible refine gate_callee (f := 5) rfl ?_); refine goesL_ (some 9) rfl rfl Tryz.func5 (by kernel_rfl) rfl #[] rfl (by (try simp only [List.map_toArray, List.map_cons, List.map_nil]); first | done | rfl | (simp only [List.length_drop, List.length_take]; rfl)) ?_; (with_reducible refine (antecedentlaw20_awake.calls k  true _ A3.out).mono ?_); rintro e w19 ⟨rfl, hb⟩; refine ⟨_, rfl, ?_⟩; have n0_ := Aside0.mk (below_step (by repeat (first | (with_reducible first | exact HB.out | apply below_alloc | apply pw_below_drewN | apply below_drew1) | exact HB.out)) hb); clear HB; have HB := n0_; clear n0_; (try clear hb); (try clear hb2); (try clear hk); (try clear hi)) | (go_at_call 11; (with_reducible refine (antecedentlaw20_few.calls k _ _ l1 false _ ?side1 ?side2 A5.out).mono ?_); (case side1 => repeat (first | exact (Kd.C_below HR1.out HB.out) | (with_reducible refine Kd.C_alloc ?_ _) | (with_reducible refine Kd.C_drewN ?_ _) | (with_reducible refine Kd.C_drew ?_))); (case side2 => exact HC1.out); rintro e w' ⟨rfl, ⟨nd, rfl⟩⟩) | ((with_reducible refine gate_callee (f := 5) rfl ?_); refine goesL_ (some 16) rfl rfl Tryz.func5 (by kernel_rfl) rfl #[] rfl (by (try simp only [List.map_toArray, List.map_cons, List.map_nil]); first | done | rfl | (simp only [List.length_drop, List.length_take]; rfl)) ?_; (with_reducible refine (antecedentlaw20_awake.calls k  true _ A17.out).mono ?_); rintro e w20 ⟨rfl, hb⟩; refine ⟨_, rfl, ?_⟩; have n0_ := Aside0.mk (below_step (by repeat (first | (with_reducible first | exact HB.out | apply below_alloc | apply pw_below_drewN | apply below_drew1) | exact HB.out)) hb); clear HB; have HB := n0_; clear n0_; (try clear hb); (try clear hb2); (try clear hk); (try clear hi)))
        go_ret
        exact ⟨by first | rfl | (simp [errW_none, errW_some] <;> rfl) | (simp [*, errW_none, errW_some] <;> rfl), by repeat (first | (with_reducible first | exact HB.out | apply below_alloc | apply pw_below_drewN | apply below_drew1) | exact HB.out)⟩
      · replace c18 := Bool.eq_false_iff.mpr c18
        subst c18
        have H1 : (none) = some r := by rw [if_neg (show ¬ (false = true) by decide)] at H; exact H
        clear H
        have H := H1
        clear H1
        exact absurd H (by simp)
  · replace c4 := Bool.eq_false_iff.mpr c4
    subst c4
    have H1 : (none) = some r := by rw [if_neg (show ¬ (false = true) by decide)] at H; exact H
    clear H
    have H := H1
    clear H1
    exact absurd H (by simp)

end Go.Proofs.YtolefpeiceiocaaGreat.Ps
