-- printed by a program of this session out of the translation
import Derived.Test.YtolefpeiceiocaaGreatPs0
import Derived.Test.YtolefpeiceiocaaGreatGgroups
import Derived.Test.YtolefpeiceiocaaGreatGset
import Derived.Test.YtolefpeiceiocaaGreatPsOf
namespace Go.Proofs.YtolefpeiceiocaaGreat.Ps
open Go.RowKit Go.Proofs.YtolefpeiceiocaaGreatW.PrintWords Go.Proofs.YtolefpeiceiocaaGreatW.PrintLast Go.Proofs.YtolefpeiceiocaaGreatW.PrintMore
attribute [local go_sem] max2_int min2_int max_two min_two max_three min_three max_four min_four   -- for this text's walks alone
set_option linter.unusedVariables false
set_option linter.unusedSimpArgs false

def antecedentlaw20_awake.f (k : Nat)  : Option (Bool) := (some (([(⟨1, 5, (⟨#[]⟩ : ByteArray)⟩ : S25), (⟨1, 3, (⟨#[]⟩ : ByteArray)⟩ : S25), (⟨1, 5, (⟨#[]⟩ : ByteArray)⟩ : S25)] : List (S25)) : List (S25))).bind fun y129 => ((fold_Of.f k 1 y129).bind fun bt132 => (if 2 ≤ (y129.length : Int) then (if 1 ≤ (y129.length : Int) then ((fold_Groups.f 2 (([(y129.take 2), (y129.drop 1)] : List (List (S25))))).bind fun bt150 => (if bt132.2.2.2 = 0 then (if bt132.2.1 = 2 then (if bt150.2 = 0 then (if (bt150.1.length : Int) = 2 then ((fold_Set.f y129).bind fun t154 => (some ((t154.length : Int) == 2))) else (none)) else (none)) else (none)) else (none))) else (none)) else (none)))
theorem antecedentlaw20_awake.mono : ∀ k, LeO (antecedentlaw20_awake.f k ) (antecedentlaw20_awake.f (k + 1) ) := by
  intro  k
  unfold antecedentlaw20_awake.f
  repeat' first
      | (with_reducible exact fold_Of.mono _ _ _)
      | (with_reducible exact LeO.refl _)
      | (with_reducible exact LeO.none _)
      | (with_reducible refine LeO.ite ?_ ?_)
      | (with_reducible refine LeO.bind ?_ (fun _ => ?_))
      | exact fold_Of.mono _ _ _
      | exact LeO.none _
      | refine LeO.ite ?_ ?_
      | refine LeO.bind ?_ (fun _ => ?_)
def antecedentlaw20_awake.T3 : Bool × List (List Nat × List Nat) := (true, [([], []), ([0], [0]), ([], []), ([2], [2]), ([1, 3], [1, 3]), ([4], [4]), ([5], [5]), ([6], [6]), ([6], [6]), ([7, 5, 0, 1, 2, 3, 4, 5, 6, 7], [7]), ([8, 9, 0, 1, 2, 3, 4, 5, 6, 7, 8, 9], [8])])
def antecedentlaw20_awake.B3 : List Nat := [0, 1, 0, 4, 15, 31, 63, 127, 127, 255, 1023]
theorem antecedentlaw20_awake.tab3 : rtab .any (opsOf Tryz.f5 3) = antecedentlaw20_awake.T3 := by kernel_rfl
theorem antecedentlaw20_awake.bits3 : waitsOk antecedentlaw20_awake.T3.2 antecedentlaw20_awake.B3 = true := by kernel_rfl
set_option maxHeartbeats 8000000 in
set_option maxRecDepth 100000 in
theorem antecedentlaw20_awake.calls (k : Nat)  (r : Bool) (w : World) (h : antecedentlaw20_awake.f k  = some r) :
    Calls Tryz.prog 5 #[] w fun e w' => e = .returned (.bool r) ∧ Below w.heap.size w w' := by
  have hu25 := Tryz.underlying25
  have HB := Aside0.mk (Below.refl w.heap.size w)
  have H : ((some (([(⟨1, 5, (⟨#[]⟩ : ByteArray)⟩ : S25), (⟨1, 3, (⟨#[]⟩ : ByteArray)⟩ : S25), (⟨1, 5, (⟨#[]⟩ : ByteArray)⟩ : S25)] : List (S25)) : List (S25))).bind fun y129 => ((fold_Of.f k 1 y129).bind fun bt132 => (if 2 ≤ (y129.length : Int) then (if 1 ≤ (y129.length : Int) then ((fold_Groups.f 2 (([(y129.take 2), (y129.drop 1)] : List (List (S25))))).bind fun bt150 => (if bt132.2.2.2 = 0 then (if bt132.2.1 = 2 then (if bt150.2 = 0 then (if (bt150.1.length : Int) = 2 then ((fold_Set.f y129).bind fun t154 => (some ((t154.length : Int) == 2))) else (none)) else (none)) else (none)) else (none))) else (none)) else (none)))) = some r := h
  clear h
  obtain ⟨y129, hy129⟩ : ∃ y_ : List (S25), y_ = (([(⟨1, 5, (⟨#[]⟩ : ByteArray)⟩ : S25), (⟨1, 3, (⟨#[]⟩ : ByteArray)⟩ : S25), (⟨1, 5, (⟨#[]⟩ : ByteArray)⟩ : S25)] : List (S25))) := ⟨_, rfl⟩
  replace H : ((fold_Of.f k 1 y129).bind fun bt132 => (if 2 ≤ (y129.length : Int) then (if 1 ≤ (y129.length : Int) then ((fold_Groups.f 2 (([(y129.take 2), (y129.drop 1)] : List (List (S25))))).bind fun bt150 => (if bt132.2.2.2 = 0 then (if bt132.2.1 = 2 then (if bt150.2 = 0 then (if (bt150.1.length : Int) = 2 then ((fold_Set.f y129).bind fun t154 => (some ((t154.length : Int) == 2))) else (none)) else (none)) else (none)) else (none))) else (none)) else (none))) = some r := by first | (rw [hy129]; with_reducible exact H) | (have H2_ := (Option.bind_some _ _).symm.trans H; rw [hy129]; with_reducible exact H2_) | (have H2_ := (Option.bind_some _ _).symm.trans H; with_reducible exact H2_) | with_reducible exact H | (rw [hy129]; exact H) | exact H
  have Ny129 := Aside0.mk hy129
  clear hy129
  replace H := Option.bind_eq_some_iff.mp H
  obtain ⟨⟨t132, t133, t134, t135⟩, A10, H⟩ := H
  replace H : (if 2 ≤ (y129.length : Int) then (if 1 ≤ (y129.length : Int) then ((fold_Groups.f 2 (([(y129.take 2), (y129.drop 1)] : List (List (S25))))).bind fun bt150 => (if t135 = 0 then (if t133 = 2 then (if bt150.2 = 0 then (if (bt150.1.length : Int) = 2 then ((fold_Set.f y129).bind fun t154 => (some ((t154.length : Int) == 2))) else (none)) else (none)) else (none)) else (none))) else (none)) else (none)) = some r := H
  have A1 := Aside0.mk A10
  clear A10
  by_cases c2 : 2 ≤ (y129.length : Int)
  · rw [if_pos c2] at H
    have c2b0 := eq_true c2
    have c2b1 : decide (2 ≤ (y129.length : Int)) = true := decide_eq_true c2
    clear c2
    obtain ⟨y137, hy137⟩ : ∃ y_ : List (S25), y_ = (y129.take 2) := ⟨_, rfl⟩
    replace H : (if 1 ≤ (y129.length : Int) then ((fold_Groups.f 2 (([y137, (y129.drop 1)] : List (List (S25))))).bind fun bt150 => (if t135 = 0 then (if t133 = 2 then (if bt150.2 = 0 then (if (bt150.1.length : Int) = 2 then ((fold_Set.f y129).bind fun t154 => (some ((t154.length : Int) == 2))) else (none)) else (none)) else (none)) else (none))) else (none)) = some r := by first | (rw [hy137]; with_reducible exact H) | (have H2_ := (Option.bind_some _ _).symm.trans H; rw [hy137]; with_reducible exact H2_) | (have H2_ := (Option.bind_some _ _).symm.trans H; with_reducible exact H2_) | with_reducible exact H | (rw [hy137]; exact H) | exact H
    have Ny137 := Aside0.mk hy137
    clear hy137
    by_cases c3 : 1 ≤ (y129.length : Int)
    · rw [if_pos c3] at H
      have c3b0 := eq_true c3
      have c3b1 : decide (1 ≤ (y129.length : Int)) = true := decide_eq_true c3
      clear c3
      obtain ⟨y142, hy142⟩ : ∃ y_ : List (S25), y_ = (y129.drop 1) := ⟨_, rfl⟩
      replace H : ((fold_Groups.f 2 (([y137, y142] : List (List (S25))))).bind fun bt150 => (if t135 = 0 then (if t133 = 2 then (if bt150.2 = 0 then (if (bt150.1.length : Int) = 2 then ((fold_Set.f y129).bind fun t154 => (some ((t154.length : Int) == 2))) else (none)) else (none)) else (none)) else (none))) = some r := by first | (rw [hy142]; with_reducible exact H) | (have H2_ := (Option.bind_some _ _).symm.trans H; rw [hy142]; with_reducible exact H2_) | (have H2_ := (Option.bind_some _ _).symm.trans H; with_reducible exact H2_) | with_reducible exact H | (rw [hy142]; exact H) | exact H
      have Ny142 := Aside0.mk hy142
      clear hy142
      obtain ⟨y147, hy147⟩ : ∃ y_ : List (List (S25)), y_ = (([y137, y142] : List (List (S25)))) := ⟨_, rfl⟩
      replace H : ((fold_Groups.f 2 y147).bind fun bt150 => (if t135 = 0 then (if t133 = 2 then (if bt150.2 = 0 then (if (bt150.1.length : Int) = 2 then ((fold_Set.f y129).bind fun t154 => (some ((t154.length : Int) == 2))) else (none)) else (none)) else (none)) else (none))) = some r := by first | (rw [hy147]; with_reducible exact H) | (have H2_ := (Option.bind_some _ _).symm.trans H; rw [hy147]; with_reducible exact H2_) | (have H2_ := (Option.bind_some _ _).symm.trans H; with_reducible exact H2_) | with_reducible exact H | (rw [hy147]; exact H) | exact H
      have Ny147 := Aside0.mk hy147
      clear hy147
      replace H := Option.bind_eq_some_iff.mp H
      obtain ⟨⟨t150, t151⟩, A40, H⟩ := H
      replace H : (if t135 = 0 then (if t133 = 2 then (if t151 = 0 then (if (t150.length : Int) = 2 then ((fold_Set.f y129).bind fun t154 => (some ((t154.length : Int) == 2))) else (none)) else (none)) else (none)) else (none)) = some r := H
      have A4 := Aside0.mk A40
      clear A40
      by_cases c5 : t135 = 0
      · rw [if_pos c5] at H
        have c5b0 : (t135 == 0) = true := beq_iff_eq.mpr c5
        have c5b1 : (t135 != 0) = false := bne_eq_false_iff_eq.mpr c5
        clear c5
        by_cases c6 : t133 = 2
        · rw [if_pos c6] at H
          have c6b0 : (t133 == 2) = true := beq_iff_eq.mpr c6
          have c6b1 : (t133 != 2) = false := bne_eq_false_iff_eq.mpr c6
          clear c6
          by_cases c7 : t151 = 0
          · rw [if_pos c7] at H
            have c7b0 : (t151 == 0) = true := beq_iff_eq.mpr c7
            have c7b1 : (t151 != 0) = false := bne_eq_false_iff_eq.mpr c7
            clear c7
            by_cases c8 : (t150.length : Int) = 2
            · rw [if_pos c8] at H
              have c8b0 : ((t150.length : Int) == 2) = true := beq_iff_eq.mpr c8
              have c8b1 : ((t150.length : Int) != 2) = false := bne_eq_false_iff_eq.mpr c8
              clear c8
              replace H := Option.bind_eq_some_iff.mp H
              obtain ⟨t154, A90, H⟩ := H
              replace H : (some ((t154.length : Int) == 2)) = some r := H
              have A9 := Aside0.mk A90
              clear A90
              obtain rfl := Option.some.inj H
              go_enter Tryz.func5, Tryz.ntmps5
              try go_wp2_with (first | ((with_reducible refine gate_dst (N := 9) rfl ?_); (try (refine gate_guard (by rfl) ?_; dsimp only)); refine Kd.R_lit k25 _ 25 ?hg (N := 9) ?hd (xs := ([(⟨1, 5, (⟨#[]⟩ : ByteArray)⟩ : S25), (⟨1, 3, (⟨#[]⟩ : ByteArray)⟩ : S25), (⟨1, 5, (⟨#[]⟩ : ByteArray)⟩ : S25)] : List (S25))) (inner := [.int .i64 1, .int .i64 5, .string (⟨#[]⟩ : ByteArray), .int .i64 1, .int .i64 3, .string (⟨#[]⟩ : ByteArray), .int .i64 1, .int .i64 5, .string (⟨#[]⟩ : ByteArray)]) (ok := fun _ => True) (okp := fun _ => True) ?hr ?hp (fun _ hk => hk) trivial (Below.refl _ _) (Nat.le_refl _) (by simp) ?_; (case hd => rfl); (case hg => rfl); (case hr => first | (go_simp; done) | (go_simp; rfl)); (case hp => exact (Reps.c3 (show Kd.M k25 _ _ _ (⟨1, 5, (⟨#[]⟩ : ByteArray)⟩ : S25) [.int .i64 1, .int .i64 5, .string (⟨#[]⟩ : ByteArray)] from (k25_mkM _ _ _ (⟨1, 5, (⟨#[]⟩ : ByteArray)⟩ : S25) )) (Reps.c3 (show Kd.M k25 _ _ _ (⟨1, 3, (⟨#[]⟩ : ByteArray)⟩ : S25) [.int .i64 1, .int .i64 3, .string (⟨#[]⟩ : ByteArray)] from (k25_mkM _ _ _ (⟨1, 3, (⟨#[]⟩ : ByteArray)⟩ : S25) )) (Reps.c3 (show Kd.M k25 _ _ _ (⟨1, 5, (⟨#[]⟩ : ByteArray)⟩ : S25) [.int .i64 1, .int .i64 5, .string (⟨#[]⟩ : ByteArray)] from (k25_mkM _ _ _ (⟨1, 5, (⟨#[]⟩ : ByteArray)⟩ : S25) )) (Reps.none _ _))))); intro v130 w10 ho11 hb hg_ hnew_; clear hg_ hnew_; (first | rw [← Ny129.out] at ho11 | (simp only [Int.reduceToNat] at ho11; rw [← Ny129.out] at ho11)); have n0_ := Aside0.mk (Kd.R_lower ho11 (below_size (by repeat (first | (with_reducible first | exact HB.out | apply below_alloc | apply pw_below_drewN | apply below_drew1) | exact HB.out)))); have n1_ := Aside0.mk (below_step (by repeat (first | (with_reducible first | exact HB.out | apply below_alloc | apply pw_below_drewN | apply below_drew1) | exact HB.out)) hb); clear HB; have HO131 := n0_; have HB := n1_; clear n0_ n1_; clear hb ho11; obtain ⟨Ao12, co12, eo12⟩ := Kd.R_slice HO131.out; subst eo12) | ((with_reducible refine gate_callee (f := 6) rfl ?_); refine goesL_ (some 12) rfl rfl Tryz.func6 (by kernel_rfl) rfl #[.int .i64 1, .slice Ao12 y129.length co12] rfl (by (try simp only [List.map_toArray, List.map_cons, List.map_nil]); first | done | rfl | (simp only [List.length_drop, List.length_take]; rfl)) ?_; (with_reducible refine (fold_Of.calls k 1 _ _ y129 t132 t133 t134 t135 _ ?side1 ?side2 A1.out).mono ?_); (case side1 => repeat (first | exact (Kd.R_reads' HO131.out).2.2 | (with_reducible refine Kd.C_alloc ?_ _) | (with_reducible refine Kd.C_drewN ?_ _) | (with_reducible refine Kd.C_drew ?_))); (case side2 => exact (Kd.R_reads' HO131.out).2.1); rintro e w13 ⟨rfl, hb⟩; refine ⟨_, rfl, ?_⟩; have n0_ := Aside0.mk (Kd.R_below (by (with_reducible repeat (first | apply Kd.R_alloc | apply Kd.R_drewN | apply Kd.R_drew)); exact HO131.out) hb); have n1_ := Aside0.mk (below_step (by repeat (first | (with_reducible first | exact HB.out | apply below_alloc | apply pw_below_drewN | apply below_drew1) | exact HB.out)) hb); clear HO131; clear HB; have HO131 := n0_; have HB := n1_; clear n0_ n1_; (try clear hb); (try clear hb2); (try clear hk); (try clear hi)) | ((with_reducible refine gate_dst (N := 2) rfl ?_); (try (refine gate_guard (by rfl) ?_; dsimp only)); refine box_event ?hg (N := 2) ?hd (cs := #[.int .i64 0, .int .i64 0, .string (⟨#[]⟩ : ByteArray)]) (t := 25) ?hr ?_; (case hd => rfl); (case hg => rfl); (case hr => first | (go_simp; done) | (go_simp; rfl)); intro gb136 hg w14 hbox hb; have n0_ := Aside0.mk (Kd.R_below (Kd.R_elderB (by (with_reducible repeat (first | apply Kd.R_alloc | apply Kd.R_drewN | apply Kd.R_drew)); exact HO131.out) gb136 (Nat.le_of_eq hg.symm)) hb); have n1_ := Aside0.mk (below_step (by repeat (first | (with_reducible first | exact HB.out | apply below_alloc | apply pw_below_drewN | apply below_drew1) | exact HB.out)) hb); have n2_ := Aside0.mk (hbox); have n3_ := Aside0.mk ((by rw [hg]; exact (below_size (by repeat (first | (with_reducible first | exact HB.out | apply below_alloc | apply pw_below_drewN | apply below_drew1) | exact HB.out))) : w.heap.size ≤ gb136)); have n4_ := Aside0.mk ((by rw [hg]; exact (below_size (by repeat (first | (with_reducible first | exact HB.out | apply below_alloc | apply pw_below_drewN | apply below_drew1) | exact HB.out))) : w.heap.size ≤ gb136)); clear HO131; clear HB; have HO131 := n0_; have HB := n1_; have BK136 := n2_; have GW136 := n3_; have GE136 := n4_; clear n0_ n1_ n2_ n3_ n4_; clear hb hbox hg; have hcz15_0 : w14.cell? ⟨gb136, 0, none⟩ = some (.int .i64 0) := (blk_cell BK136.out 0).trans rfl; have hcz15_1 : w14.cell? ⟨gb136, 1, none⟩ = some (.int .i64 0) := (blk_cell BK136.out 1).trans rfl; have hcz15_2 : w14.cell? ⟨gb136, 2, none⟩ = some (.string (⟨#[]⟩ : ByteArray)) := (blk_cell BK136.out 2).trans rfl; have hfz15_0 := blk_frozen BK136.out 0; have hfz15_1 := blk_frozen BK136.out 1; have hfz15_2 := blk_frozen BK136.out 2))
              have n0_ : Aside0 (Kd.R k25 25 (((w14.setCell ⟨gb136, 0, none⟩ (.int .i64 t132)).setCell ⟨gb136, 1, none⟩ (.int .i64 t133)).setCell ⟨gb136, 2, none⟩ (.string t134)) w.heap.size (fun k_ => k_ ≠ gb136) (.slice Ao12 y129.length co12) y129) := ⟨by (with_reducible repeat (first | apply Kd.R_alloc | apply Kd.R_drewN | apply Kd.R_drew)); exact Kd.R_mono (Kd.R_far (p := ⟨gb136, 2, none⟩) (Kd.R_far (p := ⟨gb136, 1, none⟩) (Kd.R_far (p := ⟨gb136, 0, none⟩) (Kd.R_mono HO131.out (fun k_ hk => (⟨hk, hk.2⟩ : _ ∧ k_ ≠ gb136))) (fun _ hk => hk.2) (.int .i64 t132)) (fun _ hk => hk.2) (.int .i64 t133)) (fun _ hk => hk.2) (.string t134)) (fun _ hk => hk.1.2)⟩
              have n1_ : Aside0 ((((w14.setCell ⟨gb136, 0, none⟩ (.int .i64 t132)).setCell ⟨gb136, 1, none⟩ (.int .i64 t133)).setCell ⟨gb136, 2, none⟩ (.string t134)).heap[gb136]? = some (.cells #[.int .i64 t132, .int .i64 t133, .string t134] 25 (0, 0))) := ⟨by (with_reducible repeat (first | refine blk_drewN ?_ _ | refine blk_drew ?_ | refine blk_alloc ?_ _)); refine blk_put (cs := #[.int .i64 t132, .int .i64 t133, .string (⟨#[]⟩ : ByteArray)]) ?_ 2 _ rfl; (with_reducible repeat (first | refine blk_drewN ?_ _ | refine blk_drew ?_ | refine blk_alloc ?_ _)); refine blk_put (cs := #[.int .i64 t132, .int .i64 0, .string (⟨#[]⟩ : ByteArray)]) ?_ 1 _ rfl; (with_reducible repeat (first | refine blk_drewN ?_ _ | refine blk_drew ?_ | refine blk_alloc ?_ _)); refine blk_put (cs := #[.int .i64 0, .int .i64 0, .string (⟨#[]⟩ : ByteArray)]) ?_ 0 _ rfl; (with_reducible repeat (first | refine blk_drewN ?_ _ | refine blk_drew ?_ | refine blk_alloc ?_ _)); exact BK136.out⟩
              have n2_ : Aside0 (Below w.heap.size w (((w14.setCell ⟨gb136, 0, none⟩ (.int .i64 t132)).setCell ⟨gb136, 1, none⟩ (.int .i64 t133)).setCell ⟨gb136, 2, none⟩ (.string t134))) := ⟨by repeat (first | (with_reducible first | exact HB.out | apply below_alloc | apply pw_below_drewN | apply below_drew1 | refine below_set ?_ GE136.out) | exact HB.out)⟩
              (try clear HO131)
              (try clear BK136)
              (try clear HB)
              generalize (((w14.setCell ⟨gb136, 0, none⟩ (.int .i64 t132)).setCell ⟨gb136, 1, none⟩ (.int .i64 t133)).setCell ⟨gb136, 2, none⟩ (.string t134)) = w16 at n0_ n1_ n2_ ⊢
              have HO131 := n0_
              have BK136 := n1_
              have HB := n2_
              clear n0_ n1_ n2_
              have n0_ := Aside0.mk (Kd.R_drew HO131.out)
              have n1_ := Aside0.mk (blk_drew BK136.out)
              have n2_ := Aside0.mk (below_drew1 HB.out)
              clear HO131
              clear BK136
              clear HB
              have HO131 := n0_
              have BK136 := n1_
              have HB := n2_
              clear n0_ n1_ n2_
              have q18 : (2 : Int) ≤ ((y129.length : Int) : Int) := of_decide_eq_true (by first | (with_reducible assumption) | assumption)
              obtain ⟨i018, hi018, _, hsz18, _⟩ := info_parts info25
              have hroom18 : y129.length ≤ co12 := (Kd.R_reads' HO131.out).2.1
              have hC18 : Kd.F k25 _ _ Ao12 y129.length y129 := (Kd.V_at (base := w.heap.size) (Kd.R_V HO131.out)).2.2
              have hcut18 := cut_to (P := Tryz.prog) 22 25 .i64 Tryz.underlying22 hi018 Ao12 y129.length co12 2 (by omega) q18 hroom18
              have hr18 := Kd.F_take (m := 2) hC18 (by omega)
              have hy18 : y137.length = (2 : Int).toNat := (by rw [Ny137.out, List.length_take]; omega)
              rw [← Ny137.out] at hr18
              rw [← hy18] at hcut18
              have HO141 := Aside0.mk (show Kd.V k25 25 _ w.heap.size _ (.slice Ao12 y137.length co12) y137 from Kd.V_mk (by omega) hr18)
              have HC141 := Aside0.mk (show y137.length ≤ co12 from by omega)
              clear hr18 hC18 hroom18 hi018 hsz18
              have KY18 := Aside0.mk hy18
              clear hy18
              replace q18 := eq_true q18
              have q19 : (1 : Int) ≤ ((y129.length : Int) : Int) := of_decide_eq_true (by first | (with_reducible assumption) | assumption)
              obtain ⟨i019, hi019, _, hsz19, _⟩ := info_parts info25
              have hroom19 : y129.length ≤ co12 := (Kd.R_reads' HO131.out).2.1
              have hC19 : Kd.F k25 _ _ Ao12 y129.length y129 := (Kd.V_at (base := w.heap.size) (Kd.R_V HO131.out)).2.2
              have hcut19 := cut_from (P := Tryz.prog) 22 25 .i64 Tryz.underlying22 hi019 3 hsz19 Ao12 y129.length co12 1 (by omega) q19
              have hr19 := Kd.F_cut (m := (1 : Int).toNat) (c := co12) hC19 (by omega) hroom19
              obtain ⟨A19, hA19⟩ : ∃ A1, A1 = (if co12 = (1 : Int).toNat then Ao12 else (Ao12 : Option Addr).map (·.add ((1 : Int).toNat * 3))) := ⟨_, rfl⟩
              obtain ⟨c19, hc19⟩ : ∃ c1, c1 = co12 - (1 : Int).toNat := ⟨_, rfl⟩
              have hy19 : y142.length = y129.length - (1 : Int).toNat := (by rw [Ny142.out, List.length_drop] <;> omega)
              rw [show (y129).drop (1 : Int).toNat = y142 from Ny142.out.symm] at hr19
              replace hr19 : Kd.F k25 _ _ A19 y142.length y142 := (by rw [hA19]; exact hr19)
              rw [← hy19, ← hA19, ← hc19] at hcut19
              have HO146 := Aside0.mk (show Kd.V k25 25 _ w.heap.size _ (.slice A19 y142.length c19) y142 from Kd.V_mk (by rw [hy19, hc19]; exact Nat.sub_le_sub_right hroom19 _) hr19)
              have HC146 := Aside0.mk (show y142.length ≤ c19 from by rw [hy19, hc19]; exact Nat.sub_le_sub_right hroom19 _)
              clear hr19 hC19 hroom19 hi019 hsz19 hc19
              have KY19 := Aside0.mk hy19
              have KA19 := Aside0.mk hA19
              clear hy19 hA19
              replace q19 := eq_true q19
              refine start_ (n := 11) (S := fun w' => True) (ds := []) #[false, false, false, false, false, false, false, false, false, false, false] (by kernel_rfl) rfl rfl trivial (fun hHeld => ?_); refine with_tabW antecedentlaw20_awake.tab3 antecedentlaw20_awake.bits3 (fun HT_ HW_ => ?_)
              generalize w16.drew = w17 at HO131 BK136 HB HO141 HO146 hHeld ⊢
              refine pure_ (i := 0) (N := some 16) (v := ?_) (a' := ?_) #[true, false, false, false, false, false, false, false, false, false, false] rfl rfl (any_of HT_.out (by kernel_rfl)) (fun _ _ _ h => h) (Or.inl ⟨by rfl, ?_⟩) ?_ ?_
              rotate_left
              · intro w'
                go_simp
                with_reducible rfl
              rotate_left
              · simp only [Act.put, List.setIfInBounds_toArray, List.set_cons_zero, List.set_cons_succ, i64_w, i32_w]
                rfl
              refine pure_ (i := 1) (N := some 17) (v := ?_) (a' := ?_) #[true, true, false, false, false, false, false, false, false, false, false] rfl rfl (any_of HT_.out (by kernel_rfl)) (fun _ _ _ h => h) (Or.inl ⟨by rfl, ?_⟩) ?_ ?_
              rotate_left
              · intro w'
                go_simp
                with_reducible rfl
              rotate_left
              · simp only [Act.put, List.setIfInBounds_toArray, List.set_cons_zero, List.set_cons_succ, i64_w, i32_w]
                rfl
              refine pure_ (i := 2) (N := some 18) (v := ?_) (a' := ?_) #[true, true, true, false, false, false, false, false, false, false, false] rfl rfl (any_of HT_.out (by kernel_rfl)) (fun _ _ _ h => h) (Or.inl ⟨by rfl, ?_⟩) ?_ ?_
              rotate_left
              · intro w'
                go_simp
                with_reducible rfl
              rotate_left
              · simp only [Act.put, List.setIfInBounds_toArray, List.set_cons_zero, List.set_cons_succ, i64_w, i32_w]
                rfl
              refine pure_ (i := 3) (N := some 19) (v := ?_) (a' := ?_) #[true, true, true, true, false, false, false, false, false, false, false] rfl rfl (any_of HT_.out (by kernel_rfl)) (fun _ _ _ h => h) (Or.inl ⟨by rfl, ?_⟩) ?_ ?_
              rotate_left
              · intro w'
                go_simp
                with_reducible rfl
              rotate_left
              · simp only [Act.put, List.setIfInBounds_toArray, List.set_cons_zero, List.set_cons_succ, i64_w, i32_w]
                rfl
              refine one_ (i := 4) (N := some 20) #[true, true, true, true, true, false, false, false, false, false, false] rfl rfl (one_of HT_.out (by kernel_rfl)) (by decide) (fun K hK => ?_)
              refine Kd.N_lit_step (Kd.slice 25 k25) _ 22 ?hg (N' := 20) ?hd (xs := ([y137, y142] : List (List (S25)))) (inner := [.slice Ao12 y137.length co12, .slice A19 y142.length c19]) (ok := (fun k_ => k_ ≠ gb136)) (okp := (fun k_ => k_ ≠ gb136)) ?hr ?hp (fun _ hk => hk) ((show ∀ k_, w17.heap.size ≤ k_ → (fun k_ => k_ ≠ gb136) k_ from fun k_ hk => Kd.freshB (g := gb136) (o := .cells #[.int .i64 t132, .int .i64 t133, .string t134] 25 (0, 0)) (by (with_reducible repeat (first | refine blk_drewN ?_ _ | refine blk_drew ?_ | refine blk_alloc ?_ _)); exact BK136.out) k_ hk) _ (Nat.le_refl _)) (Below.refl _ _) (Nat.le_refl _) (by simp) ?_; (case hd => rfl); (case hg => rfl); (case hr => first | (go_simp; done) | (go_simp; rfl)); (case hp => exact (Reps.one (show Kd.FK (Kd.slice 25 k25) _ _ y137 [.slice Ao12 y137.length co12] from (Kd.FK_slice_mk (Kd.V_reads' (Kd.V_mono (ok' := (fun k_ => k_ ≠ gb136)) (HO141.out) (fun k_ hk => hk))).2.1 (Kd.V_F (Kd.V_mono (ok' := (fun k_ => k_ ≠ gb136)) (HO141.out) (fun k_ hk => hk))))) (Reps.one (show Kd.FK (Kd.slice 25 k25) _ _ y142 [.slice A19 y142.length c19] from (Kd.FK_slice_mk (Kd.V_reads' (Kd.V_mono (ok' := (fun k_ => k_ ≠ gb136)) (HO146.out) (fun k_ hk => hk))).2.1 (Kd.V_F (Kd.V_mono (ok' := (fun k_ => k_ ≠ gb136)) (HO146.out) (fun k_ hk => hk))))) (Reps.none _ _))))
              intro v148 w20 ho21 hb hg_ hnew_
              clear hg_ hnew_
              (first | rw [← Ny147.out] at ho21 | (simp only [Int.reduceToNat] at ho21; rw [← Ny147.out] at ho21))
              have n0_ := Aside0.mk (Kd.R_below (by (with_reducible repeat (first | apply Kd.R_alloc | apply Kd.R_drewN | apply Kd.R_drew)); exact HO131.out) hb)
              have n1_ := Aside0.mk (Kd.V_elder' (by (with_reducible repeat (first | apply Kd.V_alloc | apply Kd.V_drewN | apply Kd.V_drew)); exact HO141.out) (Kd.N_base ho21) hb)
              have n2_ := Aside0.mk (Kd.V_elder' (by (with_reducible repeat (first | apply Kd.V_alloc | apply Kd.V_drewN | apply Kd.V_drew)); exact HO146.out) (Kd.N_base ho21) hb)
              have n3_ := Aside0.mk (Kd.N_lower ho21 (below_size (by repeat (first | (with_reducible first | exact HB.out | apply below_alloc | apply pw_below_drewN | apply below_drew1 | refine below_set ?_ GE136.out) | exact HB.out))))
              have n4_ := Aside0.mk (blk_below (g := gb136) (o := .cells #[.int .i64 t132, .int .i64 t133, .string t134] 25 (0, 0)) (by (with_reducible repeat (first | refine blk_drewN ?_ _ | refine blk_drew ?_ | refine blk_alloc ?_ _)); exact BK136.out) hb)
              have n5_ := Aside0.mk (below_step (by repeat (first | (with_reducible first | exact HB.out | apply below_alloc | apply pw_below_drewN | apply below_drew1 | refine below_set ?_ GE136.out) | exact HB.out)) hb)
              clear HO131
              clear HO141
              clear HO146
              clear BK136
              clear HB
              have HO131 := n0_
              have HO141 := n1_
              have HO146 := n2_
              have HO149 := n3_
              have BK136 := n4_
              have HB := n5_
              clear n0_ n1_ n2_ n3_ n4_ n5_
              clear hb ho21
              obtain ⟨Ao22, co22, eo22⟩ := Kd.N_slice HO149.out
              (first | subst eo22 | (injection eo22 with f1_ f2_ f3_; have f4_ := f1_.symm; have f5_ := f3_.symm; clear f1_ f2_ f3_; subst f4_; subst f5_))
              refine hK.out _ _ trivial (fun hHeld => ?_)
              clear hK K
              refine norm_ (a' := ?_) ?_ ?_
              rotate_left
              · show Act.put _ (some 20) _ = _
                simp only [Act.put, List.setIfInBounds_toArray, List.set_cons_zero, List.set_cons_succ, i64_w, i32_w]
                rfl
              refine one_ (i := 5) (N := some 21) #[true, true, true, true, true, true, false, false, false, false, false] rfl rfl (one_of HT_.out (by kernel_rfl)) (by decide) (fun K hK => ?_)
              refine goes_ Tryz.func12 (by kernel_rfl) rfl #[.int .i64 2, .slice Ao22 y147.length co22] (by rfl) rfl rfl (by (try simp only [List.map_toArray, List.map_cons, List.map_nil]); first | done | rfl | (simp only [List.length_drop, List.length_take]; rfl)) ?_
              with_reducible refine (fold_Groups.calls 2 _ _ y147 t150 t151 _ ?side1 ?side2 A4.out).mono ?_
              (case side1 => repeat (first | exact (Kd.N_reads' HO149.out).2.2 | (with_reducible refine Kd.C_alloc ?_ _) | (with_reducible refine Kd.C_drewN ?_ _) | (with_reducible refine Kd.C_drew ?_)))
              (case side2 => exact (Kd.N_reads' HO149.out).2.1)
              rintro e w23 ⟨v152, rfl, ho0, hb⟩
              refine ⟨_, rfl, ?_⟩
              have n0_ := Aside0.mk (Kd.R_below (by (with_reducible repeat (first | apply Kd.R_alloc | apply Kd.R_drewN | apply Kd.R_drew)); exact HO131.out) hb)
              have n1_ := Aside0.mk (Kd.V_elder' (by (with_reducible repeat (first | apply Kd.V_alloc | apply Kd.V_drewN | apply Kd.V_drew)); exact HO141.out) (Kd.N_base ho0) hb)
              have n2_ := Aside0.mk (Kd.V_elder' (by (with_reducible repeat (first | apply Kd.V_alloc | apply Kd.V_drewN | apply Kd.V_drew)); exact HO146.out) (Kd.N_base ho0) hb)
              have n3_ := Aside0.mk (Kd.N_elder' (by (with_reducible repeat (first | apply Kd.N_alloc | apply Kd.N_drewN | apply Kd.N_drew)); exact HO149.out) (Kd.N_base ho0) hb)
              have n4_ := Aside0.mk (Kd.N_lower (Kd.N_mono (ok' := fun k_ => some k_ ≠ (.slice Ao12 y129.length co12 : Value).ownBlock ∧ some k_ ≠ (.slice Ao22 y147.length co22 : Value).ownBlock ∧ k_ ≠ gb136) ho0 (fun k_ hk_ => ⟨(Kd.fresh' (Kd.R_lt (by (with_reducible repeat (first | apply Kd.R_alloc | apply Kd.R_drewN | apply Kd.R_drew)); exact HO131.out)) k_ hk_.2.1), (Kd.fresh' (Kd.N_lt (by (with_reducible repeat (first | apply Kd.N_alloc | apply Kd.N_drewN | apply Kd.N_drew)); exact HO149.out)) k_ hk_.2.1), (Kd.freshB (g := gb136) (o := .cells #[.int .i64 t132, .int .i64 t133, .string t134] 25 (0, 0)) (by (with_reducible repeat (first | refine blk_drewN ?_ _ | refine blk_drew ?_ | refine blk_alloc ?_ _)); exact BK136.out) k_ hk_.2.1)⟩)) (below_size (by repeat (first | (with_reducible first | exact HB.out | apply below_alloc | apply pw_below_drewN | apply below_drew1 | refine below_set ?_ GE136.out) | exact HB.out))))
              have n5_ := Aside0.mk (blk_below (g := gb136) (o := .cells #[.int .i64 t132, .int .i64 t133, .string t134] 25 (0, 0)) (by (with_reducible repeat (first | refine blk_drewN ?_ _ | refine blk_drew ?_ | refine blk_alloc ?_ _)); exact BK136.out) hb)
              have n6_ := Aside0.mk (below_step (by repeat (first | (with_reducible first | exact HB.out | apply below_alloc | apply pw_below_drewN | apply below_drew1 | refine below_set ?_ GE136.out) | exact HB.out)) hb)
              clear HO131
              clear HO141
              clear HO146
              clear HO149
              clear BK136
              clear HB
              have HO131 := n0_
              have HO141 := n1_
              have HO146 := n2_
              have HO149 := n3_
              have HO153 := n4_
              have BK136 := n5_
              have HB := n6_
              clear n0_ n1_ n2_ n3_ n4_ n5_ n6_
              (try clear hb)
              (try clear hb2)
              (try clear hk)
              (try clear hi)
              (try clear ho0)
              refine hK.out _ _ trivial (fun hHeld => ?_)
              clear hK K
              refine norm_ (a' := ?_) ?_ ?_
              rotate_left
              · show Act.put _ (some 21) _ = _
                simp only [Act.put, List.setIfInBounds_toArray, List.set_cons_zero, List.set_cons_succ, i64_w, i32_w]
                rfl
              refine pure_ (i := 6) (N := some 15) (v := ?_) (a' := ?_) #[true, true, true, true, true, true, true, false, false, false, false] rfl rfl (any_of HT_.out (by kernel_rfl)) (fun _ _ _ h => h) (Or.inl ⟨by rfl, ?_⟩) ?_ ?_
              rotate_left
              · intro w'
                go_simp
                with_reducible rfl
              rotate_left
              · simp only [Act.put, List.setIfInBounds_toArray, List.set_cons_zero, List.set_cons_succ, i64_w, i32_w]
                rfl
              refine pure_ (i := 7) (N := some 22) (v := ?_) (a' := ?_) #[true, true, true, true, true, true, true, true, false, false, false] rfl rfl (any_of HT_.out (by kernel_rfl)) (fun _ _ _ h => h) (Or.inl ⟨by rfl, ?_⟩) ?_ ?_
              rotate_left
              · intro w'
                go_simp
                with_reducible rfl
              rotate_left
              · simp only [Act.put, List.setIfInBounds_toArray, List.set_cons_zero, List.set_cons_succ, i64_w, i32_w]
                rfl
              refine pure_ (i := 8) (N := some 23) (v := ?_) (a' := ?_) #[true, true, true, true, true, true, true, true, true, false, false] rfl rfl (any_of HT_.out (by kernel_rfl)) (fun _ _ _ h => h) (Or.inl ⟨by rfl, ?_⟩) ?_ ?_
              rotate_left
              · intro w'
                go_simp
                with_reducible rfl
              rotate_left
              · simp only [Act.put, List.setIfInBounds_toArray, List.set_cons_zero, List.set_cons_succ, i64_w, i32_w]
                rfl
              refine pure_ (i := 9) (N := some 4) (v := ?_) (a' := ?_) #[true, true, true, true, true, true, true, true, true, true, false] rfl rfl (any_of HT_.out (by kernel_rfl)) (fun _ _ _ h => h) (Or.inl ⟨by rfl, ?_⟩) ?_ ?_
              rotate_left
              · intro w'
                go_simp
                with_reducible rfl
              rotate_left
              · simp only [Act.put, List.setIfInBounds_toArray, List.set_cons_zero, List.set_cons_succ, i64_w, i32_w]
                rfl
              refine pure_ (i := 10) (N := some 5) (v := ?_) (a' := ?_) #[true, true, true, true, true, true, true, true, true, true, true] rfl rfl (any_of HT_.out (by kernel_rfl)) (fun _ _ _ h => h) (Or.inl ⟨by rfl, ?_⟩) ?_ ?_
              rotate_left
              · intro w'
                go_simp
                with_reducible rfl
              rotate_left
              · simp only [Act.put, List.setIfInBounds_toArray, List.set_cons_zero, List.set_cons_succ, i64_w, i32_w]
                rfl
              refine done_ (done_of HT_.out (by kernel_rfl)) ?_
              have hcz24_0 : w23.cell? ⟨gb136, 0, none⟩ = some (.int .i64 t132) := (blk_cell BK136.out 0).trans rfl
              have hcz24_1 : w23.cell? ⟨gb136, 1, none⟩ = some (.int .i64 t133) := (blk_cell BK136.out 1).trans rfl
              have hcz24_2 : w23.cell? ⟨gb136, 2, none⟩ = some (.string t134) := (blk_cell BK136.out 2).trans rfl
              have hfz24_0 := blk_frozen BK136.out 0
              have hfz24_1 := blk_frozen BK136.out 1
              have hfz24_2 := blk_frozen BK136.out 2
              obtain ⟨Ao25, co25, eo25⟩ := Kd.N_slice HO153.out
              subst eo25
              try go_wp2_with (first | (go_at_call 9; (with_reducible refine (fold_Set.calls _ _ y129 t154 _ ?side1 ?side2 A9.out).mono ?_); (case side1 => repeat (first | exact (Kd.R_reads' HO131.out).2.2 | (with_reducible refine Kd.C_alloc ?_ _) | (with_reducible refine Kd.C_drewN ?_ _) | (with_reducible refine Kd.C_drew ?_))); (case side2 => exact (Kd.R_reads' HO131.out).2.1); rintro e w26 ⟨v155, rfl, ho0, hb⟩; have n0_ := Aside0.mk (Kd.R_elder' (by (with_reducible repeat (first | apply Kd.R_alloc | apply Kd.R_drewN | apply Kd.R_drew)); exact HO131.out) (Kd.R_base ho0) hb); have n1_ := Aside0.mk (Kd.V_elder' (by (with_reducible repeat (first | apply Kd.V_alloc | apply Kd.V_drewN | apply Kd.V_drew)); exact HO141.out) (Kd.R_base ho0) hb); have n2_ := Aside0.mk (Kd.V_elder' (by (with_reducible repeat (first | apply Kd.V_alloc | apply Kd.V_drewN | apply Kd.V_drew)); exact HO146.out) (Kd.R_base ho0) hb); have n3_ := Aside0.mk (Kd.N_elder' (by (with_reducible repeat (first | apply Kd.N_alloc | apply Kd.N_drewN | apply Kd.N_drew)); exact HO149.out) (Kd.R_base ho0) hb); have n4_ := Aside0.mk (Kd.N_elder' (by (with_reducible repeat (first | apply Kd.N_alloc | apply Kd.N_drewN | apply Kd.N_drew)); exact HO153.out) (Kd.R_base ho0) hb); have n5_ := Aside0.mk (Kd.R_lower (Kd.R_newB (Kd.R_new' ho0 (Kd.R_lt (by (with_reducible repeat (first | apply Kd.R_alloc | apply Kd.R_drewN | apply Kd.R_drew)); exact HO131.out))) (g := gb136) (o := .cells #[.int .i64 t132, .int .i64 t133, .string t134] 25 (0, 0)) (by (with_reducible repeat (first | refine blk_drewN ?_ _ | refine blk_drew ?_ | refine blk_alloc ?_ _)); exact BK136.out)) (below_size (by repeat (first | (with_reducible first | exact HB.out | apply below_alloc | apply pw_below_drewN | apply below_drew1 | refine below_set ?_ GE136.out) | exact HB.out)))); have n6_ := Aside0.mk (blk_below (g := gb136) (o := .cells #[.int .i64 t132, .int .i64 t133, .string t134] 25 (0, 0)) (by (with_reducible repeat (first | refine blk_drewN ?_ _ | refine blk_drew ?_ | refine blk_alloc ?_ _)); exact BK136.out) hb); have n7_ := Aside0.mk (below_step (by repeat (first | (with_reducible first | exact HB.out | apply below_alloc | apply pw_below_drewN | apply below_drew1 | refine below_set ?_ GE136.out) | exact HB.out)) hb); clear HO131; clear HO141; clear HO146; clear HO149; clear HO153; clear BK136; clear HB; have HO131 := n0_; have HO141 := n1_; have HO146 := n2_; have HO149 := n3_; have HO153 := n4_; have HO156 := n5_; have BK136 := n6_; have HB := n7_; clear n0_ n1_ n2_ n3_ n4_ n5_ n6_ n7_; (try clear hb); (try clear hb2); (try clear hk); (try clear hi); (try clear ho0); obtain ⟨Ao27, co27, eo27⟩ := Kd.R_slice HO156.out; subst eo27))
              go_ret
              exact ⟨by first | rfl | (simp [errW_none, errW_some] <;> rfl) | (simp [*, errW_none, errW_some] <;> rfl), by repeat (first | (with_reducible first | exact HB.out | apply below_alloc | apply pw_below_drewN | apply below_drew1 | refine below_set ?_ GE136.out) | exact HB.out)⟩
            · rw [if_neg c8] at H
              exact absurd H (by simp)
          · rw [if_neg c7] at H
            exact absurd H (by simp)
        · rw [if_neg c6] at H
          exact absurd H (by simp)
      · rw [if_neg c5] at H
        exact absurd H (by simp)
    · rw [if_neg c3] at H
      exact absurd H (by simp)
  · rw [if_neg c2] at H
    exact absurd H (by simp)

end Go.Proofs.YtolefpeiceiocaaGreat.Ps
