/- chain.match: what each set follows in its chain, as 'chain_match.f' says. Condition: fewer than 1000000 sets. -/
import Derived.Test.YtliocmjeglbpiaaGplace
import Derived.Test.YtliocmjeglbpiaaGrep
namespace Go.Proofs.Ytliocmjeglbpiaa.Ps
open Go.RowKit Go.Proofs.YtliocmjeglbpiaaW.PrintWords Go.Proofs.YtliocmjeglbpiaaW.PrintLast
set_option linter.unusedVariables false

/-- What holds while places are given, one behind the other. -/
structure Mt (w : World) (l : List Int) (ad : Addr) (c0 gl gS gA gP ga ca : Nat) (ra : List Value) (ahead : List Int) (W : World) : Prop where
  hl : W.cell? ⟨gl, 0, none⟩ = some (.slice (some ad) l.length c0)
  hs : ∃ v, W.cell? ⟨gS, 0, none⟩ = some v
  fs : W.frozen? ⟨gS, 0, none⟩ = false
  ha : W.cell? ⟨gA, 0, none⟩ = some (.slice (some ⟨ga, 0, none⟩) l.length ca)
  hp : W.cell? ⟨gP, 0, none⟩ = some (.func (.func 35) #[] (placeV gl gS gA gP))
  dl : ∀ j, j < l.length → W.cell? (ad.add j) = some (.int .u64 (rd l j))
  da : W.heap[ga]? = some (.cells (ahead.map (Value.int .i64) ++ ra).toArray 3 (0, 0))
  na : ahead.length = l.length
  hb : Below w.heap.size w W
  n1 : gS ≠ gl
  n2 : gS ≠ gA
  n3 : gS ≠ gP
  n4 : gS ≠ ad.block
  n5 : gS ≠ ga
  m1 : ga ≠ gl
  m2 : ga ≠ gS
  m3 : ga ≠ gA
  m4 : ga ≠ gP
  m5 : ga ≠ ad.block
  b1 : w.heap.size ≤ gS
  b2 : w.heap.size ≤ ga

theorem filled_open {α : Type} {enc : α → Value} {h1 : ∀ x, (enc x).oneCell' = true} {e : Nat} {w1 : World} {B : Nat} {ok : Nat → Prop} {A : Option Addr} {n c : Nat} {xs : List α} (hx : 0 < xs.length) (ho : (Kd.scalar enc h1).R e w1 B ok (.slice A n c) xs) :
    ∃ ga, A = some ⟨ga, 0, none⟩ ∧ n = xs.length ∧ n ≤ c ∧ c ≤ maxLen ∧ B ≤ ga ∧ ∃ ra, ra.length = c - n ∧ w1.heap[ga]? = some (.cells (xs.map enc ++ ra).toArray e (0, 0)) := by
  have ho := Kd.own_of_R ho
  rcases ho.2 with ⟨e, hnil⟩ | ⟨g, cap, cur, e, hbase, hb, h1, h2, h3, h4⟩
  · have : xs = [] := by cases xs <;> simp at hnil ⊢
    rw [this] at hx; exact absurd hx (Nat.lt_irrefl 0)
  · injection e with e1 e2 e3
    subst e2; subst e3
    refine ⟨g, e1, rfl, h1, h2, hbase, cur.toList.drop xs.length, by simp; omega, ?_⟩
    rw [hb]
    have h5 : cur.toList.take xs.length = xs.map enc := by
      have : xs.length * 1 = xs.length := Nat.mul_one _
      rw [this] at h4
      exact h4
    rw [← h5, List.take_append_drop]

theorem mt_below {w W W1 : World} {l : List Int} {ad : Addr} {c0 gl gS gA gP ga ca : Nat} {ra : List Value} {a : List Int} (h : Mt w l ad c0 gl gS gA gP ga ca ra a W) (hb : Below W.heap.size W W1) : Mt w l ad c0 gl gS gA gP ga ca ra a W1 := by
  obtain ⟨v, hv⟩ := h.hs
  exact { hl := pw_cell_below hb h.hl, hs := ⟨v, pw_cell_below hb hv⟩, fs := (hb.frozen (p := ⟨gS, 0, none⟩) (World.block_lt_of_cell? W _ hv)).trans h.fs, ha := pw_cell_below hb h.ha, hp := pw_cell_below hb h.hp,
          dl := fun j hj => pw_cell_below hb (h.dl j hj), da := blk_below h.da hb, na := h.na, hb := below_step h.hb hb,
          n1 := h.n1, n2 := h.n2, n3 := h.n3, n4 := h.n4, n5 := h.n5, m1 := h.m1, m2 := h.m2, m3 := h.m3, m4 := h.m4, m5 := h.m5, b1 := h.b1, b2 := h.b2 }

theorem pl_start {w W W1 : World} {l : List Int} {ad : Addr} {c0 gl gS gA gP ga ca gs cs : Nat} {ra rs : List Value} {a : List Int} {seen : List Bool} (h : Mt w l ad c0 gl gS gA gP ga ca ra a W) (h0 : 0 < l.length) (hb : Below W.heap.size W W1) (hs : seen.length = l.length) (hgs : W.heap.size ≤ gs)
    (hds : W1.heap[gs]? = some (.cells (seen.map Value.bool ++ rs).toArray 4 (0, 0))) :
    Pl ⟨gl, gS, gA, gP, gs, ga, ad, c0, cs, ca, rs, ra⟩ l seen a (W1.setCell ⟨gS, 0, none⟩ (.slice (some ⟨gs, 0, none⟩) l.length cs)) := by
  have h1 := mt_below h hb
  have k1 := World.block_lt_of_cell? W _ h.hl
  have k2 : gS < W.heap.size := by obtain ⟨v, hv⟩ := h.hs; exact World.block_lt_of_cell? W _ hv
  have k3 := World.block_lt_of_cell? W _ h.ha
  have k4 := World.block_lt_of_cell? W _ h.hp
  have k5 : ad.block < W.heap.size := by have := World.block_lt_of_cell? W _ (h.dl 0 h0); rwa [add_block] at this
  have k6 := blk_lt h.da
  simp only at k1 k3 k4
  obtain ⟨v, hv⟩ := h1.hs
  exact { hl := (cell_far h.n1.symm _).trans h1.hl, hs := World.cell?_setCell_same (h := hv) .., ha := (cell_far h.n2.symm _).trans h1.ha, hp := (cell_far h.n3.symm _).trans h1.hp, fs := by rw [World.frozen?_setCell]; exact h1.fs,
          dl := fun j hj => (cell_far (by rw [add_block]; exact h.n4.symm) _).trans (h1.dl j hj), ds := blk_far hds (by show gs ≠ gS; omega) _, da := blk_far h1.da h.n5.symm _, ns := hs, na := h.na,
          s1 := by show gs ≠ gl; omega, s2 := by show gs ≠ gS; omega, s3 := by show gs ≠ gA; omega, s4 := by show gs ≠ gP; omega, s5 := by show gs ≠ ad.block; omega,
          a1 := h.m1, a2 := h.m2, a3 := h.m3, a4 := h.m4, a5 := h.m5, sa := by show gs ≠ ga; omega }

theorem mt_of_pl {w W W1 : World} {l : List Int} {ad : Addr} {c0 gl gS gA gP ga ca gs cs : Nat} {ra rs : List Value} {a a' : List Int} {seen : List Bool} (h : Mt w l ad c0 gl gS gA gP ga ca ra a W)
    (hp : Pl ⟨gl, gS, gA, gP, gs, ga, ad, c0, cs, ca, rs, ra⟩ l seen a' W1) (hb : Below w.heap.size w W1) : Mt w l ad c0 gl gS gA gP ga ca ra a' W1 :=
  { hl := hp.hl, hs := ⟨_, hp.hs⟩, fs := hp.fs, ha := hp.ha, hp := hp.hp, dl := hp.dl, da := hp.da, na := hp.na, hb := hb,
    n1 := h.n1, n2 := h.n2, n3 := h.n3, n4 := h.n4, n5 := h.n5, m1 := h.m1, m2 := h.m2, m3 := h.m3, m4 := h.m4, m5 := h.m5, b1 := h.b1, b2 := h.b2 }

theorem match_own {w W : World} {l : List Int} {ad : Addr} {c0 gl gS gA gP ga ca : Nat} {ra : List Value} {a : List Int} (h : Mt w l ad c0 gl gS gA gP ga ca ra a W) (h1 : l.length ≤ ca) (h2 : ca ≤ maxLen) (h3 : ra.length = ca - l.length) :
    Kd.R (Kd.int .i64) 3 W w.heap.size (fun _ => True) (.slice (some ⟨ga, 0, none⟩) l.length ca) a := by
  refine Kd.R_of_own (enc := Value.int .i64) ?_ (fun _ _ => trivial)
  rw [h.na]
  refine ⟨by simp [encs, h.na], .inr ⟨ga, ca, _, rfl, h.b2, h.da, h1, h2, by simp [h.na]; omega, ?_⟩⟩
  simp [encs, h.na]

theorem match_start {w wA w1 w2 w3 w4 : World} {o : Obj} {l xs : List Int} {ad : Addr} {c0 gl gS gA gP ga ca : Nat} {ra : List Value} {v : Value} (hx : xs.length = l.length) (h0 : 0 < l.length)
    (hcl : ∀ j, j < l.length → w.cell? (ad.add j) = some (.int .u64 (rd l j)))
    (hba : Below w.heap.size w wA) (hgl : gl = w.heap.size) (hl : wA.heap[gl]? = some (.cells #[.slice (some ad) l.length c0] 37 (0, 0)))
    (hb : Below (wA.alloc o).heap.size (wA.alloc o) w1) (hga : (wA.alloc o).heap.size ≤ ga) (hda : w1.heap[ga]? = some (.cells (xs.map (Value.int .i64) ++ ra).toArray 3 (0, 0)))
    (hb2 : Below w1.heap.size w1 w2) (hgA : gA = w1.heap.size) (hA : w2.heap[gA]? = some (.cells #[.slice none 0 0] 31 (0, 0)))
    (hv : v = .slice (some ⟨ga, 0, none⟩) l.length ca)
    (hb3 : Below (w2.setCell ⟨gA, 0, none⟩ v).heap.size (w2.setCell ⟨gA, 0, none⟩ v) w3) (hgS : gS = (w2.setCell ⟨gA, 0, none⟩ v).heap.size) (hS : w3.heap[gS]? = some (.cells #[.slice none 0 0] 56 (0, 0)))
    (hb4 : Below w3.heap.size w3 w4) (hgP : gP = w3.heap.size) (hP : w4.heap[gP]? = some (.cells #[.nilFunc] 57 (0, 0))) :
    Mt w l ad c0 gl gS gA gP ga ca ra xs (w4.setCell ⟨gP, 0, none⟩ (.func (.func 35) #[] (placeV gl gS gA gP))) := by
  have z1 := hba.size
  have z2 : (wA.alloc o).heap.size = wA.heap.size + 1 := by simp
  have z3 := hb.size
  have z4 := hb2.size
  have z5 : (w2.setCell ⟨gA, 0, none⟩ v).heap.size = w2.heap.size := by simp
  have z6 := hb3.size
  have z7 := hb4.size
  have y1 := blk_lt hl
  have y2 := blk_lt hda
  have y3 := blk_lt hA
  have y4 := blk_lt hS
  have y5 := blk_lt hP
  have hadb : ad.block < w.heap.size := by
    have := World.block_lt_of_cell? w _ (hcl 0 h0)
    rwa [add_block] at this
  have B01 : Below w.heap.size w (wA.alloc o) := below_alloc hba o
  have B02 : Below w.heap.size w w1 := below_step B01 hb
  have B03 : Below w.heap.size w w2 := below_step B02 hb2
  have B04 : Below w.heap.size w (w2.setCell ⟨gA, 0, none⟩ v) := below_set B03 (by omega)
  have B05 : Below w.heap.size w w3 := below_step B04 hb3
  have B06 : Below w.heap.size w w4 := below_step B05 hb4
  have hF : Below w.heap.size w (w4.setCell ⟨gP, 0, none⟩ (.func (.func 35) #[] (placeV gl gS gA gP))) := below_set B06 (by omega)
  have L1 : w1.heap[gl]? = _ := blk_below (g := gl) (by rw [← hl]; simp only [World.alloc, Array.getElem?_push]; rw [if_neg (by omega)]) hb
  have L2 := blk_below L1 hb2
  have L3 := blk_far (p := ⟨gA, 0, none⟩) L2 (by show gl ≠ gA; omega) v
  have L4 := blk_below L3 hb3
  have L5 := blk_below L4 hb4
  have L6 := blk_far (p := ⟨gP, 0, none⟩) L5 (by show gl ≠ gP; omega) (.func (.func 35) #[] (placeV gl gS gA gP))
  have D2 := blk_below hda hb2
  have D3 := blk_far (p := ⟨gA, 0, none⟩) D2 (by show ga ≠ gA; omega) v
  have D4 := blk_below D3 hb3
  have D5 := blk_below D4 hb4
  have D6 := blk_far (p := ⟨gP, 0, none⟩) D5 (by show ga ≠ gP; omega) (.func (.func 35) #[] (placeV gl gS gA gP))
  have A3 := blk_put (i := 0) (u := v) hA rfl
  have A4 := blk_below A3 hb3
  have A5 := blk_below A4 hb4
  have A6 := blk_far (p := ⟨gP, 0, none⟩) A5 (by show gA ≠ gP; omega) (.func (.func 35) #[] (placeV gl gS gA gP))
  have S5 := blk_below hS hb4
  have S6 := blk_far (p := ⟨gP, 0, none⟩) S5 (by show gS ≠ gP; omega) (.func (.func 35) #[] (placeV gl gS gA gP))
  have P6 := blk_put (i := 0) (u := .func (.func 35) #[] (placeV gl gS gA gP)) hP rfl
  exact { hl := (blk_cell L6 0).trans rfl, hs := ⟨_, (blk_cell S6 0).trans rfl⟩, fs := blk_frozen S6 0, ha := (blk_cell A6 0).trans (by rw [hv]; rfl), hp := (blk_cell P6 0).trans rfl,
          dl := fun j hj => (hF.cell (World.block_lt_of_cell? w _ (hcl j hj))).trans (hcl j hj), da := D6, na := hx, hb := hF,
          n1 := by omega, n2 := by omega, n3 := by omega, n4 := by omega, n5 := by omega, m1 := by omega, m2 := by omega, m3 := by omega, m4 := by omega, m5 := by omega, b1 := by omega, b2 := by omega }

set_option maxHeartbeats 2000000 in
set_option maxRecDepth 100000 in
theorem match_some (ad : Addr) (c0 : Nat) (l : List Int) (r : List Int) (h0 : 0 < l.length) (hn : l.length < 1000000) (w : World) (hc : ∀ j, j < l.length → w.cell? (ad.add j) = some (.int .u64 (rd l j))) (hf : matchF l l.length 0 (List.replicate l.length (-1)) = some r) :
    Calls Try.prog 18 #[.slice (some ad) l.length c0] w fun e w' => ∃ v0_ : Value, e = .returned (v0_) ∧ Kd.R (Kd.int .i64) 3 w' w.heap.size (fun _ => True) v0_ r ∧ Below w.heap.size w w' := by
  have HCL := Lib.hid hc
  have HF := Lib.hid hf
  clear hc hf
  go_enter Try.func18, Try.ntmps18
  go_upto_region 5 with (first | ((with_reducible refine gate_dst (N := 1) rfl ?_); refine box_event rfl (N := 1) rfl (cs := #[.slice (some ad) l.length c0]) (t := 37) (by first | (go_simp; done) | (go_simp; rfl)) ?_; intro gl hgl wA hbl hbA; have HL := Lib.hid hbl; have HBA := Lib.hid hbA; have HGL := Lib.hid hgl; have hcl : wA.cell? ⟨gl, 0, none⟩ = some (.slice (some ad) l.length c0) := (blk_cell hbl 0).trans rfl; have hcl2 : ∀ o, (wA.alloc o).cell? ⟨gl, 0, none⟩ = some (.slice (some ad) l.length c0) := (fun o => pw_cell_below (below_alloc (Below.refl _ _) o) hcl); clear hbl hbA hgl) | (go_at_call 34; refine (repeat_calls l.length hn _ _ _ (by simp [go_sem])).mono ?_; rintro e w1 ⟨v0, rfl, ho, hb⟩; obtain ⟨Av, ca, rfl⟩ := Kd.R_slice ho; obtain ⟨ga, rfl, hx1, hx2, hx3, hx4, ra, hx5, hx6⟩ := filled_open (by simpa using h0) ho; rw [List.length_replicate]; have HX2 := Lib.hid hx2; have HX3 := Lib.hid hx3; have HX4 := Lib.hid hx4; have HX5 := Lib.hid hx5; have HX6 := Lib.hid hx6; have HB := Lib.hid hb; clear ho hb hcl hcl2 hx1 hx2 hx3 hx4 hx5 hx6) | ((with_reducible refine gate_dst (N := 3) rfl ?_); refine box_event rfl (N := 3) rfl (cs := #[.slice none 0 0]) (t := 31) (by first | (go_simp; done) | (go_simp; rfl)) ?_; intro gA hgA w2 hbA2 hb2; have HA := Lib.hid hbA2; have HB2 := Lib.hid hb2; have HGA := Lib.hid hgA; have hca : w2.cell? ⟨gA, 0, none⟩ = some (.slice none 0 0) := (blk_cell hbA2 0).trans rfl; have hfa := blk_frozen hbA2 0; clear hbA2 hb2 hgA) | ((with_reducible refine gate_dst (N := 4) rfl ?_); refine box_event rfl (N := 4) rfl (cs := #[.slice none 0 0]) (t := 56) (by first | (go_simp; done) | (go_simp; rfl)) ?_; intro gS hgS w3 hbS hb3; have HS := Lib.hid hbS; have HB3 := Lib.hid hb3; have HGS := Lib.hid hgS; clear hbS hb3 hgS) | ((with_reducible refine gate_dst (N := 5) rfl ?_); refine box_event rfl (N := 5) rfl (cs := #[.nilFunc]) (t := 57) (by first | (go_simp; done) | (go_simp; rfl)) ?_; intro gP hgP w4 hbP hb4; have HPP := Lib.hid hbP; have HB4 := Lib.hid hb4; have HGP := Lib.hid hgP; have hcp : w4.cell? ⟨gP, 0, none⟩ = some .nilFunc := (blk_cell hbP 0).trans rfl; have hfp := blk_frozen hbP 0; clear hbP hb4 hgP))
  have hM := match_start (xs := List.replicate l.length (-1)) (by simp) h0 HCL.out HBA.out HGL.out HL.out HB.out HX4.out HX6.out HB2.out HGA.out HA.out rfl HB3.out HGS.out HS.out HB4.out HGP.out HPP.out
  have HX7 : Hid (ra.length = ca - l.length) := by have := HX5.out; rw [List.length_replicate] at this; exact Lib.hid this
  have HX8 : Hid (l.length ≤ ca) := by have := HX2.out; rw [List.length_replicate] at this; exact Lib.hid this
  unfold placeV at hM
  clear HCL HBA HGL HL HB HX4 HX6 HB2 HGA HA HB3 HGS HS HB4 HGP HPP HX5 HX2 hca hfa hcp hfp
  generalize w4.setCell _ _ = W at hM ⊢
  have HM := Lib.hid hM
  clear hM
  have hcl := HM.out.hl
  go_wp2_with fail
  clear hcl
  go_loopw [14] (fun v14 wr => ∃ (k : Nat) (a : List Int), v14 = .int .i64 k ∧ k ≤ l.length ∧ Hid (matchF l (l.length - k) k a = some r) ∧ Hid (Mt w l ad c0 gl gS gA gP ga ca ra a wr)) (fun v14 _ => l.length - (intOf v14).toNat)
  case atStart => exact ⟨0, _, rfl, Nat.zero_le _, HF, HM⟩
  case round =>
    obtain ⟨k, a, rfl, hk, HFk, HMk⟩ := hrel
    clear HF HM
    by_cases hlt : k < l.length
    · have hl1 : decide ((k : Int) < (l.length : Int)) = true := by simp; omega
      have hl2 : decide (k < l.length) = true := by simp; omega
      have hf := HFk.out
      obtain ⟨m, hm⟩ : ∃ m, l.length - k = m + 1 := ⟨l.length - k - 1, by omega⟩
      rw [hm] at hf
      unfold matchF at hf
      obtain ⟨⟨b, s2, a2⟩, hf1, hf2⟩ := Option.bind_eq_some_iff.1 hf
      obtain rfl : m = l.length - (k + 1) := by omega
      have HF2 : Hid (matchF l (l.length - (k + 1)) (k + 1) a2 = some r) := Lib.hid hf2
      have HF1 := Lib.hid hf1
      clear hf hf1 hf2 hm HFk
      have hcl := HMk.out.hl
      go_upto_region 9 with (first | ((with_reducible refine gate_dst (N := 19) rfl ?_); refine Kd.R_make Kd.bool _ 4 rfl (N := 19) rfl 56 _ _ rfl (l.length : Int) rfl rfl Try.underlying56 (.bool false) 1 info4 rfl (by decide) (by omega) false (ok := fun _ => True) (okp := fun _ => True) rfl (fun _ hk => hk) trivial (by omega) (by omega) (Below.refl _ _) (Nat.le_refl _) ?_; intro v1 w5 ho hb hg_ hnew_; clear hg_ hnew_; rw [Int.toNat_natCast] at ho; obtain ⟨Av, cs, rfl⟩ := Kd.R_slice ho; obtain ⟨gs, rfl, hx1, hx2, hx3, hx4, rs, hx5, hx6⟩ := filled_open (by simpa using h0) ho; rw [List.length_replicate]; have HP := Lib.hid (pl_start (cs := cs) HMk.out h0 hb (by simp) hx4 hx6); have HB5 := Lib.hid (below_set (j := 0) (v := .slice (some ⟨gs, 0, none⟩) l.length cs) (below_step HMk.out.hb hb) HMk.out.b1); have hM5 := mt_below HMk.out hb; have HX4 := Lib.hid hx4; obtain ⟨vS, hvS⟩ := hM5.hs; have hfS := hM5.fs; clear ho hb hx1 hx2 hx3 hx4 hx5 hx6 hM5 hcl))
      generalize w5.setCell _ _ = W5 at HP HB5 ⊢
      have hcp := HP.out.hp
      simp only at hcp
      have HC := Lib.hid (place_any _ l hn w.heap.size w (Nat.le_trans HMk.out.hb.size HX4.out) HMk.out.b2 _ _ _ _ _ W5 HF1.out hlt HP.out HB5.out)
      simp only at HC
      unfold placeV at hcp HC
      clear hvS hfS HF1 HP
      go_wp2_with fail
      refine HC.out.mono ?_
      rintro e w6 ⟨rfl, hP6, hB6⟩
      have HM6 := Lib.hid (mt_of_pl HMk.out hP6 hB6)
      clear hP6 hB6 hcp HC HB5 HMk
      go_wp2_with fail
      go_roundw
      case rel => exact ⟨k + 1, a2, by go_num, by omega, HF2, HM6⟩
      case measure => simp [intOf]; omega
    · obtain rfl : k = l.length := by omega
      have hl1 : decide ((l.length : Int) < (l.length : Int)) = false := by simp
      have hl2 : decide (l.length < l.length) = false := by simp
      have hca := HMk.out.ha
      have hf := HFk.out
      rw [Nat.sub_self] at hf
      obtain rfl := Option.some.inj hf
      clear hf HFk
      go_wp2_with fail
      go_ret
      exact ⟨_, rfl, match_own HMk.out HX8.out HX3.out HX7.out, HMk.out.hb⟩

set_option maxHeartbeats 2000000 in
set_option maxRecDepth 100000 in
theorem match_none (A0 : Option Addr) (c0 : Nat) (w : World) :
    Calls Try.prog 18 #[.slice A0 0 c0] w fun e w' => ∃ v0_ : Value, e = .returned (v0_) ∧ Kd.R (Kd.int .i64) 3 w' w.heap.size (fun _ => True) v0_ ([] : List Int) ∧ Below w.heap.size w w' := by
  go_enter Try.func18, Try.ntmps18
  go_upto_region 5 with (first | ((with_reducible refine gate_dst (N := 1) rfl ?_); refine box_event rfl (N := 1) rfl (cs := #[.slice A0 0 c0]) (t := 37) (by first | (go_simp; done) | (go_simp; rfl)) ?_; intro gl hgl wA hbl hbA; have HL := Lib.hid hbl; have HBA := Lib.hid hbA; have HGL := Lib.hid hgl; have hcl : wA.cell? ⟨gl, 0, none⟩ = some (.slice A0 0 c0) := (blk_cell hbl 0).trans rfl; have hcl2 : ∀ o, (wA.alloc o).cell? ⟨gl, 0, none⟩ = some (.slice A0 0 c0) := (fun o => pw_cell_below (below_alloc (Below.refl _ _) o) hcl); clear hbl hbA hgl) | (go_at_call 34; refine (repeat_calls 0 (by omega) _ _ _ (by simp [go_sem])).mono ?_; rintro e w1 ⟨v0, rfl, ho, hb⟩; rw [List.replicate_zero] at ho; obtain ⟨Av, ca, rfl⟩ := Kd.R_slice ho; have HO := Lib.hid ho; have HB := Lib.hid hb; clear ho hb hcl hcl2) | ((with_reducible refine gate_dst (N := 3) rfl ?_); refine box_event rfl (N := 3) rfl (cs := #[.slice none 0 0]) (t := 31) (by first | (go_simp; done) | (go_simp; rfl)) ?_; intro gA hgA w2 hbA2 hb2; have HA := Lib.hid hbA2; have HB2 := Lib.hid hb2; have HGA := Lib.hid hgA; have hca : w2.cell? ⟨gA, 0, none⟩ = some (.slice none 0 0) := (blk_cell hbA2 0).trans rfl; have hfa := blk_frozen hbA2 0; clear hbA2 hb2 hgA) | ((with_reducible refine gate_dst (N := 4) rfl ?_); refine box_event rfl (N := 4) rfl (cs := #[.slice none 0 0]) (t := 56) (by first | (go_simp; done) | (go_simp; rfl)) ?_; intro gS hgS w3 hbS hb3; have HS := Lib.hid hbS; have HB3 := Lib.hid hb3; have HGS := Lib.hid hgS; clear hbS hb3 hgS) | ((with_reducible refine gate_dst (N := 5) rfl ?_); refine box_event rfl (N := 5) rfl (cs := #[.nilFunc]) (t := 57) (by first | (go_simp; done) | (go_simp; rfl)) ?_; intro gP hgP w4 hbP hb4; have HPP := Lib.hid hbP; have HB4 := Lib.hid hb4; have HGP := Lib.hid hgP; have hcp : w4.cell? ⟨gP, 0, none⟩ = some .nilFunc := (blk_cell hbP 0).trans rfl; have hfp := blk_frozen hbP 0; clear hbP hb4 hgP))
  have B02 : Below w.heap.size w w1 := below_step (below_alloc HBA.out _) HB.out
  have B03 := below_step B02 HB2.out
  have B04 : Below w.heap.size w (w2.setCell ⟨gA, 0, none⟩ (.slice Av 0 ca)) := below_set B03 (by rw [HGA.out]; exact B02.size)
  have B05 := below_step B04 HB3.out
  have B06 := below_step B05 HB4.out
  have z1 := HB3.out.size
  have z2 := HB4.out.size
  have y3 := blk_lt HA.out
  have y1 := blk_lt HL.out
  have z3 := HB.out.size
  have z4 := HB2.out.size
  have z5 : (w2.setCell ⟨gA, 0, none⟩ (.slice Av 0 ca)).heap.size = w2.heap.size := by simp
  have z6 : (wA.alloc (.cells #[.int .i64 (-1)] 3)).heap.size = wA.heap.size + 1 := by simp
  have zA := HGA.out
  have zS := HGS.out
  have zP := HGP.out
  have y5 := blk_lt HPP.out
  have F := Value.func (.func 35) #[] #[.pointer (some ⟨gl, 0, none⟩), .pointer (some ⟨gS, 0, none⟩), .pointer (some ⟨gA, 0, none⟩), .pointer (some ⟨gP, 0, none⟩)]
  have L1 : w1.heap[gl]? = _ := blk_below (g := gl) (by rw [← HL.out]; simp only [World.alloc, Array.getElem?_push]; rw [if_neg (by omega)]) HB.out
  have L4 := blk_below (blk_far (p := ⟨gA, 0, none⟩) (blk_below L1 HB2.out) (by show gl ≠ gA; omega) (.slice Av 0 ca)) HB3.out
  have L6 := blk_far (p := ⟨gP, 0, none⟩) (blk_below L4 HB4.out) (by show gl ≠ gP; omega) (.func (.func 35) #[] #[.pointer (some ⟨gl, 0, none⟩), .pointer (some ⟨gS, 0, none⟩), .pointer (some ⟨gA, 0, none⟩), .pointer (some ⟨gP, 0, none⟩)])
  have A4 := blk_below (blk_put (i := 0) (u := .slice Av 0 ca) HA.out rfl) HB3.out
  have A6 := blk_far (p := ⟨gP, 0, none⟩) (blk_below A4 HB4.out) (by show gA ≠ gP; omega) (.func (.func 35) #[] #[.pointer (some ⟨gl, 0, none⟩), .pointer (some ⟨gS, 0, none⟩), .pointer (some ⟨gA, 0, none⟩), .pointer (some ⟨gP, 0, none⟩)])
  have B07 : Below w.heap.size w (w4.setCell ⟨gP, 0, none⟩ (.func (.func 35) #[] #[.pointer (some ⟨gl, 0, none⟩), .pointer (some ⟨gS, 0, none⟩), .pointer (some ⟨gA, 0, none⟩), .pointer (some ⟨gP, 0, none⟩)])) := below_set B06 (by have := B05.size; omega)
  have hO : Kd.R (Kd.int .i64) 3 (w4.setCell ⟨gP, 0, none⟩ (.func (.func 35) #[] #[.pointer (some ⟨gl, 0, none⟩), .pointer (some ⟨gS, 0, none⟩), .pointer (some ⟨gA, 0, none⟩), .pointer (some ⟨gP, 0, none⟩)])) w.heap.size (fun _ => True) (.slice Av 0 ca) ([] : List Int) := by
    have h1 := Kd.R_below HO.out HB2.out
    have h2 := Kd.R_far (p := ⟨gA, 0, none⟩) (Kd.R_types h1 HA.out (by decide)) (fun _ hk => hk.2) (.slice Av 0 ca)
    have h3 := Kd.R_below (Kd.R_below h2 HB3.out) HB4.out
    have h4 := Kd.R_far (p := ⟨gP, 0, none⟩) (Kd.R_types h3 HPP.out (by decide)) (fun _ hk => hk.2) (.func (.func 35) #[] #[.pointer (some ⟨gl, 0, none⟩), .pointer (some ⟨gS, 0, none⟩), .pointer (some ⟨gA, 0, none⟩), .pointer (some ⟨gP, 0, none⟩)])
    exact Kd.R_lower (Kd.R_mono h4 (fun _ _ => trivial)) (by have := HBA.out.size; omega)
  clear z1 z2 z3 z4 z5 z6 y1 y3 y5 zA zS zP B02 B03 B04 B05 B06 F L1 L4 A4 HL HBA HGL HB HO HA HB2 HGA HS HB3 HGS HPP HB4 HGP hca hfa hcp hfp
  generalize w4.setCell _ _ = W at *
  have HBW := Lib.hid B07
  have HOW := Lib.hid hO
  have hcl : W.cell? ⟨gl, 0, none⟩ = some (.slice A0 0 c0) := (blk_cell L6 0).trans rfl
  have hca : W.cell? ⟨gA, 0, none⟩ = some (.slice Av 0 ca) := (blk_cell A6 0).trans rfl
  clear L6 A6 B07 hO
  go_wp2_with fail
  refine wp_loop_rounds 1 ?_
  rw [rounds_succ]
  go_wp2_with fail
  go_ret
  exact ⟨_, rfl, HOW.out, HBW.out⟩

theorem chain_match.calls (A0 : Option Addr) (c0 : Nat) (l0 : List Int) (r : List Int) (w : World) (hr0 : Kd.C (Kd.int .u64) w A0 l0.length l0) (hc0 : l0.length ≤ c0) (h : chain_match.f l0 = some r) :
    Calls Try.prog 18 #[.slice A0 l0.length c0] w fun e w' => ∃ v0_ : Value, e = .returned (v0_) ∧ Kd.R (Kd.int .i64) 3 w' w.heap.size (fun _ => True) v0_ r ∧ Below w.heap.size w w' := by
  unfold chain_match.f at h
  split at h
  · rename_i hlt
    rcases Nat.eq_zero_or_pos l0.length with h0 | h0
    · obtain rfl : l0 = [] := List.eq_nil_of_length_eq_zero h0
      obtain rfl : [] = r := Option.some.inj h
      exact match_none A0 c0 w
    · have hrd := Kd.reads_of_C (d := (0 : Int)) hr0
      obtain ⟨ad, rfl, hc⟩ := hrd.2.2 h0
      exact match_some ad c0 l0 r h0 hlt w (fun j hj => by rw [hc j hj]; simp [rd]) h
  · cases h
end Go.Proofs.Ytliocmjeglbpiaa.Ps
