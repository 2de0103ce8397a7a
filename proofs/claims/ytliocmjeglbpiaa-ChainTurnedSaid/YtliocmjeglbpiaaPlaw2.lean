/- ChainWhole's PLAIN LAW: of sets of which each is part of the next one, one permutation does; of columns alone as many as there are. No program's memory in sight. -/
import Derived.Test.YtliocmjeglbpiaaPlaw1
namespace Go.Proofs.Ytliocmjeglbpiaa.Ps
open Go.RowKit Go.Proofs.YtliocmjeglbpiaaW.PrintWords Go.Proofs.YtliocmjeglbpiaaW.PrintLast Go.Proofs.YtliocmjeglbpiaaW.PrintMore
set_option linter.unusedVariables false
set_option linter.unusedSimpArgs false

/-- The first columns that are cut off. -/
def cutOf (n : Nat) (v : Int) : Nat := v.toNat % (n + 1)
def longest (n : Nat) (cuts : List Int) : Nat := cuts.foldl (fun m v => max m (cutOf n v)) 0
theorem longest_snoc (n : Nat) (cuts : List Int) (v : Int) : longest n (cuts ++ [v]) = max (longest n cuts) (cutOf n v) := by simp [longest]
theorem longest_zero (n : Nat) (cuts : List Int) : longest n cuts = 0 ↔ ∀ v ∈ cuts, cutOf n v = 0 := by
  rw [← List.reverse_reverse cuts]
  induction cuts.reverse with
  | nil => simp [longest]
  | cons v t ih =>
    rw [List.reverse_cons, longest_snoc]
    have : max (longest n t.reverse) (cutOf n v) = 0 ↔ longest n t.reverse = 0 ∧ cutOf n v = 0 := by omega
    rw [this, ih]
    simp only [List.mem_append, List.mem_singleton, List.mem_reverse]
    constructor
    · rintro ⟨h1, h2⟩ x (hx | rfl)
      · exact h1 x hx
      · exact h2
    · intro h
      exact ⟨fun x hx => h x (.inl hx), h v (.inr rfl)⟩

def lastPart (k : Nat) (ar : Int) (order : List Int) (rising : List (List Int)) (long : Int) (single : List (List Int)) : Option Bool :=
  (chain_Least.f k (order.length : Int) rising).bind fun t446 => (if t446 = (mn long 1) then ((chain_Least.f k (order.length : Int) single).bind fun t447 => (if t447 = (order.length : Int) then ((chain_Least.f k (wrap64 ar) ([] : List (List Int))).bind fun t448 => (some (t448 == (-(mx 0 (mn 1 (wrap64 ((wrap64 ar) - 8)))))))) else (none))) else (none))

theorem whole1 (ar : Int) (order : List Int) (hn : order.length ≤ 8) (rising : List (List Int)) (long : Int) {q : Bool} (hend : Ev (fun k => lastPart k ar order rising long (order.map fun x => [x])) q) (d : Nat) : ∀ i : Nat, i + d = order.length →
    Ev (fun k => antecedentlaw18_ChainWhole.l1 k ar order (order.length : Int) rising ((order.take i).map fun x => [x]) long (order.length : Int) (i : Int)) q := by
  induction d with
  | zero =>
    intro i hi
    refine Ev.step (fun k => ?_) hend
    simp only [antecedentlaw18_ChainWhole.l1]
    rw [if_neg (nlt_cast (by omega)), List.take_of_length_le (by omega)]
    rfl
  | succ d ih =>
    intro i hi
    have hlt : i < order.length := by omega
    refine Ev.step (fun k => ?_) (ih (i + 1) (by omega))
    simp only [antecedentlaw18_ChainWhole.l1]
    rw [if_pos (lt_cast hlt), if_pos (nn_cast _), if_pos (lt_cast hlt), if_pos (by simp; omega), rd_nat order i hlt, wrap_succ i (by omega), take_succ_get order i hlt, List.map_append]
    rfl

theorem whole0 (ar : Int) (order cuts : List Int) (hn : order.length ≤ 8) (hc : cuts.length ≤ 10) (hcu : ∀ v ∈ cuts, 0 ≤ v ∧ v ≤ 255) {q : Bool}
    (hend : Ev (fun k => lastPart k ar order (cuts.map fun v => order.take (cutOf order.length v)) (longest order.length cuts : Int) (order.map fun x => [x])) q) (d : Nat) : ∀ i : Nat, i + d = cuts.length →
    Ev (fun k => antecedentlaw18_ChainWhole.l0 k ar order cuts (order.length : Int) ((cuts.take i).map fun v => order.take (cutOf order.length v)) (longest order.length (cuts.take i) : Int) (cuts.length : Int) (i : Int)) q := by
  induction d with
  | zero =>
    intro i hi
    have h := whole1 ar order hn _ _ hend order.length 0 (by omega)
    refine Ev.step (fun k => ?_) h
    simp only [antecedentlaw18_ChainWhole.l0]
    rw [if_neg (nlt_cast (by omega)), List.take_of_length_le (by omega)]
    rfl
  | succ d ih =>
    intro i hi
    have hlt : i < cuts.length := by omega
    obtain ⟨hv0, hv1⟩ := hcu _ (List.getElem_mem hlt)
    obtain ⟨c, hce⟩ : ∃ c : Nat, cuts[i] = (c : Int) := ⟨cuts[i].toNat, by omega⟩
    have hmod : Int.tmod (wrap64 (c : Int)) (wrap64 ((order.length : Int) + 1)) = ((c % (order.length + 1) : Nat) : Int) := by
      have e1 : wrap64 (c : Int) = c := by unfold wrap64; omega
      have e2 : wrap64 ((order.length : Int) + 1) = ((order.length + 1 : Nat) : Int) := by unfold wrap64; omega
      rw [e1, e2, Int.tmod_eq_emod_of_nonneg (by omega)]
      rfl
    have hk : c % (order.length + 1) ≤ order.length := by have := Nat.mod_lt c (show 0 < order.length + 1 by omega); omega
    have hcut : cutOf order.length cuts[i] = c % (order.length + 1) := by unfold cutOf; rw [hce, Int.toNat_natCast]
    refine Ev.step (fun k => ?_) (ih (i + 1) (by omega))
    simp only [antecedentlaw18_ChainWhole.l0]
    rw [if_pos (lt_cast hlt), if_pos (nn_cast _), if_pos (lt_cast hlt), if_neg (by unfold wrap64; omega), rd_nat cuts i hlt, hce, hmod, if_pos (nn_cast _), if_pos (by omega), if_pos (by simp; omega), wrap_succ i (by omega), take_succ_get cuts i hlt, List.map_append, longest_snoc, hcut, Int.toNat_natCast]
    have : mx (longest order.length (cuts.take i) : Int) ((c % (order.length + 1) : Nat) : Int) = ((max (longest order.length (cuts.take i)) (c % (order.length + 1)) : Nat) : Int) := by unfold mx; omega
    rw [this]
    simp [hcut]

theorem width_zero {D : Nat → Prop} (h : ∀ m, ¬ D m) : Width D 0 := ⟨⟨[], ⟨by simp, by simp, by simp⟩, rfl⟩, fun B hB => by
  cases B with
  | nil => exact Nat.le_refl _
  | cons b B => exact absurd (hB.mem b (by simp)) (h b)⟩
theorem width_one {D : Nat → Prop} {m : Nat} (hm : D m) (h : ∀ a b, D a → D b → Sub a b ∨ Sub b a) : Width D 1 := ⟨⟨[m], ⟨by simp, fun b hb => by rw [List.mem_singleton.1 hb]; exact hm, fun a ha b hb _ => by rw [List.mem_singleton.1 ha, List.mem_singleton.1 hb]⟩, rfl⟩, fun B hB => by
  cases B with
  | nil => exact Nat.zero_le _
  | cons b B =>
    cases B with
    | nil => exact Nat.le_refl _
    | cons c B =>
      have hne : b ≠ c := fun e => (List.nodup_cons.1 hB.nodup).1 (by rw [e]; simp)
      rcases h b c (hB.mem b (by simp)) (hB.mem c (by simp)) with h1 | h1
      · exact absurd (hB.apart b (by simp) c (by simp) h1) hne
      · exact absurd (hB.apart c (by simp) b (by simp) h1).symm hne⟩
theorem maskN_zero {s : List Int} (hs : ∀ c ∈ s, 0 ≤ c) : maskN s = 0 ↔ s = [] := by
  constructor
  · intro h
    refine Classical.byContradiction fun hne => ?_
    obtain ⟨c, hc⟩ := List.exists_mem_of_ne_nil _ hne
    have := (maskN_test s hs c.toNat).2 (by rw [Int.toNat_of_nonneg (hs c hc)]; exact hc)
    rw [h] at this; simp at this
  · rintro rfl; rfl
theorem maskN_sub {s t : List Int} (hs : ∀ c ∈ s, 0 ≤ c) (ht : ∀ c ∈ t, 0 ≤ c) : Sub (maskN s) (maskN t) ↔ ∀ x ∈ s, x ∈ t := by
  constructor
  · intro h x hx
    have h0 := hs x hx
    have := h x.toNat ((maskN_test s hs _).2 (by rw [Int.toNat_of_nonneg h0]; exact hx))
    rw [maskN_test t ht, Int.toNat_of_nonneg h0] at this
    exact this
  · intro h i hi
    exact (maskN_test t ht i).2 (h _ ((maskN_test s hs i).1 hi))

theorem least_of {ar : Int} {sets : List (List Int)} {w : Nat} (hlen : sets.length ≤ 12) (hs : ∀ s ∈ sets, s.length < 1000000) (hok : 0 ≤ ar ∧ ar ≤ 8 ∧ ∀ s ∈ sets, SetOk ar s) (hw : Width (fun m => m ≠ 0 ∧ ∃ s ∈ sets, maskN s = m) w) : Ev (fun k => chain_Least.f k ar sets) (w : Int) := by
  rcases least_spec ar sets hlen hs with ⟨v, _, h1, h2⟩ | ⟨h1, _⟩
  · rw [hw.unique h2]; exact h1
  · exact absurd hok h1
theorem least_bad {ar : Int} {sets : List (List Int)} (hlen : sets.length ≤ 12) (hs : ∀ s ∈ sets, s.length < 1000000) (hok : ¬ (0 ≤ ar ∧ ar ≤ 8 ∧ ∀ s ∈ sets, SetOk ar s)) : Ev (fun k => chain_Least.f k ar sets) (-1) := by
  rcases least_spec ar sets hlen hs with ⟨v, h1, _⟩ | ⟨_, h1⟩
  · exact absurd h1 hok
  · exact h1

theorem whole_end (a : Nat) (ha : a ≤ 255) (order cuts : List Int) (hn : order.length ≤ 8) (hc : cuts.length ≤ 10) (hp : Prm order.length order) :
    Ev (fun k => lastPart k (a : Int) order (cuts.map fun v => order.take (cutOf order.length v)) (longest order.length cuts : Int) (order.map fun x => [x])) true := by
  have hnn : ∀ n, ∀ c ∈ order.take n, 0 ≤ c := fun n c hc => (hp.2.1 c (List.mem_of_mem_take hc)).1
  have hr : Ev (fun k => chain_Least.f k (order.length : Int) (cuts.map fun v => order.take (cutOf order.length v))) ((min (longest order.length cuts) 1 : Nat) : Int) := by
    refine least_of (by rw [List.length_map]; omega) (fun s hs => ?_) ⟨by omega, by omega, fun s hs => ?_⟩ ?_
    · obtain ⟨v, _, rfl⟩ := List.mem_map.1 hs; rw [List.length_take]; omega
    · obtain ⟨v, _, rfl⟩ := List.mem_map.1 hs; exact setOk_take (prm_ok hp) _
    · by_cases h0 : longest order.length cuts = 0
      · rw [h0]
        refine width_zero fun m ⟨hm, s, hs, e⟩ => ?_
        obtain ⟨v, hv, rfl⟩ := List.mem_map.1 hs
        rw [(longest_zero _ _).1 h0 v hv] at e
        exact hm (by rw [← e]; rfl)
      · rw [show min (longest order.length cuts) 1 = 1 by omega]
        have hex : ∃ v ∈ cuts, cutOf order.length v ≠ 0 := by
          have := mt (longest_zero order.length cuts).2 h0
          simpa using this
        obtain ⟨v, hv, hvc⟩ := hex
        have hle : cutOf order.length v ≤ order.length := by unfold cutOf; have := Nat.mod_lt v.toNat (show 0 < order.length + 1 by omega); omega
        refine width_one (m := maskN (order.take (cutOf order.length v))) ⟨fun e => ?_, _, List.mem_map.2 ⟨v, hv, rfl⟩, rfl⟩ ?_
        · have := (maskN_zero (hnn _)).1 e
          have := congrArg List.length this
          rw [List.length_take, List.length_nil] at this
          omega
        · rintro x y ⟨_, s, hs, rfl⟩ ⟨_, t, ht, rfl⟩
          obtain ⟨v1, _, rfl⟩ := List.mem_map.1 hs
          obtain ⟨v2, _, rfl⟩ := List.mem_map.1 ht
          rw [maskN_sub (hnn _) (hnn _), maskN_sub (hnn _) (hnn _)]
          rcases Nat.le_total (cutOf order.length v1) (cutOf order.length v2) with h | h
          · exact .inl fun x hx => (List.take_subset_take_left order h) hx
          · exact .inr fun x hx => (List.take_subset_take_left order h) hx
  have hsg : Ev (fun k => chain_Least.f k (order.length : Int) (order.map fun x => [x])) (order.length : Int) := by
    have hone : ∀ x : Int, 0 ≤ x → maskN [x] = 2 ^ x.toNat := fun x _ => by simp [maskN]
    refine least_of (by rw [List.length_map]; omega) (fun s hs => ?_) ⟨by omega, by omega, fun s hs => ?_⟩ ⟨⟨order.map fun x => maskN [x], ⟨?_, ?_, ?_⟩, by rw [List.length_map]⟩, ?_⟩
    · obtain ⟨v, _, rfl⟩ := List.mem_map.1 hs; simp
    · obtain ⟨v, hv, rfl⟩ := List.mem_map.1 hs
      exact ⟨fun c hc => by rw [List.mem_singleton.1 hc]; exact hp.2.1 v hv, by simp⟩
    · refine nodup_map_on _ _ hp.1 (fun x hx y hy e => ?_)
      have h1 := (hp.2.1 x hx).1
      have h2 := (hp.2.1 y hy).1
      have h3 := (maskN_test [x] (fun c hc => by rw [List.mem_singleton.1 hc]; exact h1) x.toNat).2 (by rw [Int.toNat_of_nonneg h1]; simp)
      rw [e, maskN_test [y] (fun c hc => by rw [List.mem_singleton.1 hc]; exact h2), Int.toNat_of_nonneg h1] at h3
      exact List.mem_singleton.1 h3
    · intro b hb
      obtain ⟨x, hx, rfl⟩ := List.mem_map.1 hb
      have h1 := (hp.2.1 x hx).1
      exact ⟨fun e => by simpa using (maskN_zero (s := [x]) (fun c hc => by rw [List.mem_singleton.1 hc]; exact h1)).1 e, [x], List.mem_map.2 ⟨x, hx, rfl⟩, rfl⟩
    · intro p hp1 q hq hs
      obtain ⟨x, hx, rfl⟩ := List.mem_map.1 hp1
      obtain ⟨y, hy, rfl⟩ := List.mem_map.1 hq
      have h1 := (hp.2.1 x hx).1
      have h2 := (hp.2.1 y hy).1
      have := (maskN_sub (s := [x]) (t := [y]) (fun c hc => by rw [List.mem_singleton.1 hc]; exact h1) (fun c hc => by rw [List.mem_singleton.1 hc]; exact h2)).1 hs x (by simp)
      rw [List.mem_singleton.1 this]
    · intro B hB
      have := nodup_le B (order.map fun x => maskN [x]) hB.nodup (fun b hb => by
        obtain ⟨_, s, hs, e⟩ := hB.mem b hb
        obtain ⟨x, hx, rfl⟩ := List.mem_map.1 hs
        exact List.mem_map.2 ⟨x, hx, e⟩)
      simpa using this
  have hw : wrap64 (a : Int) = (a : Int) := by unfold wrap64; omega
  have hni : ∃ z : Int, Ev (fun k => chain_Least.f k (a : Int) ([] : List (List Int))) z ∧ (z == (-(mx 0 (mn 1 (wrap64 ((a : Int) - 8)))))) = true := by
    by_cases h8 : a ≤ 8
    · refine ⟨((0 : Nat) : Int), least_of (by simp) (by simp) ⟨by omega, by omega, by simp⟩ (width_zero fun m ⟨_, s, hs, _⟩ => by simp at hs), ?_⟩
      rw [beq_iff_eq]; unfold mx mn wrap64; omega
    · refine ⟨-1, least_bad (by simp) (by simp) (by omega), ?_⟩
      rw [beq_iff_eq]; unfold mx mn wrap64; omega
  obtain ⟨z, hz1, hz2⟩ := hni
  unfold lastPart
  rw [hw]
  refine Ev.bind hr ?_
  refine Ev.congr (f := fun k => (chain_Least.f k (order.length : Int) (order.map fun x => [x])).bind fun t447 => (if t447 = (order.length : Int) then ((chain_Least.f k (a : Int) ([] : List (List Int))).bind fun t448 => (some (t448 == (-(mx 0 (mn 1 (wrap64 ((a : Int) - 8)))))))) else (none))) (fun k => by rw [if_pos (by unfold mn; omega)]) (Ev.bind hsg ?_)
  refine Ev.congr (f := fun k => (chain_Least.f k (a : Int) ([] : List (List Int))).bind fun t448 => (some (t448 == (-(mx 0 (mn 1 (wrap64 ((a : Int) - 8)))))))) (fun k => by rw [if_pos rfl]) (Ev.bind hz1 ?_)
  rw [hz2]
  exact Ev.now _

theorem ChainWhole_plain (a : Nat) (ha : a ≤ 255) (order cuts : List Int) (hcu : ∀ v ∈ cuts, 0 ≤ v ∧ v ≤ 255) : ∃ k, antecedentlaw18_ChainWhole.f k (a : Int) order cuts = some true := by
  apply Ev.rounds
  have hbad : Ev (fun k => antecedentlaw18_ChainWhole.j0 k (a : Int) order cuts true) true := by
    refine Ev.step (fun k => ?_) awake_done
    simp [antecedentlaw18_ChainWhole.j0]
  refine Ev.bind (f := fun k t427 => (if t427 = true then (if (order.length : Int) > 8 then (antecedentlaw18_ChainWhole.j0 k a order cuts true) else (if (cuts.length : Int) > 10 then (antecedentlaw18_ChainWhole.j0 k a order cuts true) else ((antecedentref03_Perm.f k order).bind fun t428 => (antecedentlaw18_ChainWhole.j0 k a order cuts (!t428))))) else (none))) awake_spec ?_
  by_cases h1 : (order.length : Int) > 8
  · exact Ev.congr (fun k => by rw [if_pos rfl, if_pos h1]) hbad
  by_cases h2 : (cuts.length : Int) > 10
  · exact Ev.congr (fun k => by rw [if_pos rfl, if_neg h1, if_pos h2]) hbad
  refine Ev.congr (f := fun k => (antecedentref03_Perm.f k order).bind fun t428 => (antecedentlaw18_ChainWhole.j0 k a order cuts (!t428))) (fun k => by rw [if_pos rfl, if_neg h1, if_neg h2]) (Ev.bind (rperm_spec order (by omega)) ?_)
  cases hpb : permB order with
  | false => exact hbad
  | true =>
    have hp := permB_prm hpb
    refine Ev.step (fun k => ?_) (whole0 (a : Int) order cuts (by omega) (by omega) hcu (whole_end a ha order cuts (by omega) (by omega) hp) cuts.length 0 (by omega))
    simp [antecedentlaw18_ChainWhole.j0, longest]
end Go.Proofs.Ytliocmjeglbpiaa.Ps
