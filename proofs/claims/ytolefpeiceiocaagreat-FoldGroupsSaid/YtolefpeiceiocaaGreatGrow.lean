/- ROWS OF VALUES IN A BLOCK: how they are read, laid, and told. No condition. -/
import Derived.Test.YtolefpeiceiocaaGreatGcomp
import Derived.Test.YtolefpeiceiocaaGreatPset
namespace Go.Proofs.YtolefpeiceiocaaGreat.Ps
open Go Go.RowKit Go.Proofs.YtolefpeiceiocaaGreatW.PrintWords Go.Proofs.YtolefpeiceiocaaGreatW.PrintLast Go.Lib Go.Sort Go.Proofs
set_option linter.unusedVariables false

/-- The values' cells, one behind the other. -/
def flatS (l : List Sv) : List Value := (flatK encS 3 l.toArray).toList
theorem flatS_len (l : List Sv) : (flatS l).length = l.length * 3 := by simp [flatS]
theorem flatS_get (l : List Sv) (j i : Nat) (hj : j < l.length) (hi : i < 3) : (flatS l)[j * 3 + i]? = (encS l[j])[i]? := by
  unfold flatS
  rw [Array.getElem?_toList]
  simp only [flatK, Array.getElem?_map, List.size_toArray]
  rw [Array.getElem?_eq_getElem (by simp; omega)]
  simp only [Array.getElem_range, Option.map_some, show (j * 3 + i) / 3 = j by omega, show (j * 3 + i) % 3 = i by omega]
  rw [getElem!_pos l.toArray j (by simpa using hj), List.getElem?_eq_getElem (by rw [encS_len]; exact hi), getElem!_pos _ i (by rw [encS_len]; exact hi)]
  simp
theorem flatS_split {l : List Sv} {j : Nat} {u : Value} (h : (flatS l)[j]? = some u) : ∃ hj : j / 3 < l.length, (encS l[j / 3])[j % 3]? = some u := by
  have hl := (List.getElem?_eq_some_iff.1 h).1
  rw [flatS_len] at hl
  have hj : j / 3 < l.length := by omega
  refine ⟨hj, ?_⟩
  rw [← flatS_get l (j / 3) (j % 3) hj (by omega), show j / 3 * 3 + j % 3 = j by omega]
  exact h
theorem flatS_one (l : List Sv) : ∀ u ∈ flatS l, u.oneCell' = true := by
  intro u hu
  obtain ⟨j, hj⟩ := List.mem_iff_getElem?.1 hu
  obtain ⟨h1, h2⟩ := flatS_split hj
  exact encS_one _ u (List.mem_iff_getElem?.2 ⟨_, h2⟩)
/-- What is read of a row of values. -/
theorem cells_C {w : World} {A : Option Addr} {n : Nat} {l : List Sv} (h : Kd.C k25 w A n l) : ∀ j u, (flatS l)[j]? = some u → ∃ ad, A = some ad ∧ w.cell? (ad.add j) = some u := by
  intro j u hu
  obtain ⟨h1, h2⟩ := flatS_split hu
  obtain ⟨ad, e, hc⟩ := h.2.2 (by have := h.1; omega)
  refine ⟨ad, e, ?_⟩
  obtain ⟨c, _, hK, hcell⟩ := hc (j / 3) _ (List.getElem?_eq_getElem h1)
  have hK' : c = encS l[j / 3] := k25_open hK
  subst hK'
  have h3 := hcell (j % 3) u h2
  have e3 : j / 3 * k25.sz + j % 3 = j := by
    show j / 3 * 3 + j % 3 = j
    omega
  rwa [e3] at h3
/-- A block of w's that holds values. -/
structure RowAt (w : World) (g cap : Nat) (l : List Sv) : Prop where
  out : ∃ cur, w.heap[g]? = some (.cells cur 25 (0, 0)) ∧ l.length ≤ cap ∧ cap ≤ maxLen ∧ cur.size = cap * 3 ∧ cur.toList.take (l.length * 3) = flatS l
theorem RowAt.of_own {w : World} {base n : Nat} {v : Value} {l : List Sv} (h : w.ownsRow base 25 3 v n (flatS l)) (hv : v ≠ .slice none 0 0) : ∃ g cap, v = .slice (some ⟨g, 0, none⟩) l.length cap ∧ base ≤ g ∧ n = l.length ∧ RowAt w g cap l := by
  have hn : n = l.length := by have := h.1; rw [flatS_len] at this; omega
  subst hn
  rcases h.2 with ⟨e0, _⟩ | ⟨g, cap, cur, rfl, hb, hg, h1, h2, h3, h4⟩
  · exact absurd e0 hv
  · exact ⟨g, cap, rfl, hb, rfl, ⟨cur, hg, h1, h2, h3, h4⟩⟩
theorem RowAt.own {w : World} {base g cap : Nat} {l : List Sv} (h : RowAt w g cap l) (hb : base ≤ g) : w.ownsRow base 25 3 (.slice (some ⟨g, 0, none⟩) l.length cap) l.length (flatS l) := by
  obtain ⟨cur, hg, h1, h2, h3, h4⟩ := h.out
  exact ⟨flatS_len l, .inr ⟨g, cap, cur, rfl, hb, hg, h1, h2, h3, h4⟩⟩
theorem RowAt.lt {w : World} {g cap : Nat} {l : List Sv} (h : RowAt w g cap l) : g < w.heap.size := by
  obtain ⟨cur, hg, _⟩ := h.out
  exact (Array.getElem?_eq_some_iff.1 hg).1
theorem reps_flat (w : World) (base : Nat) (ok : Nat → Prop) (l : List Sv) : Reps (k25.M w base ok) 3 l (flatS l) := by
  refine ⟨flatS_len l, fun j p hj => ?_⟩
  have hl := (List.getElem?_eq_some_iff.1 hj).1
  have hp := (List.getElem?_eq_some_iff.1 hj).2
  have : ((flatS l).drop (j * 3)).take 3 = encS p := by
    apply List.ext_getElem?
    intro i
    by_cases hi : i < 3
    · rw [List.getElem?_take_of_lt hi, List.getElem?_drop, flatS_get l j i hl hi, hp]
    · rw [List.getElem?_take_eq_none (by omega), List.getElem?_eq_none (by rw [encS_len]; omega)]
  rw [this]
  exact k25_mkM w base ok p
theorem R_of_own3 {w : World} {base n : Nat} {ok : Nat → Prop} {v : Value} {l : List Sv} (h : w.ownsRow base 25 3 v n (flatS l)) (hok : ∀ k, v.ownBlock = some k → ok k) : Kd.R k25 25 w base ok v l := by
  have hn : n = l.length := by have := h.1; rw [flatS_len] at this; omega
  subst hn
  exact ⟨hok, flatS l, h, reps_flat _ _ _ _⟩
theorem RowAt.holds {w : World} {g cap : Nat} {l : List Sv} (h : RowAt w g cap l) : HoldsK encS 3 w g 0 l.toArray := by
  obtain ⟨cur, hg, h1, h2, h3, h4⟩ := h.out
  intro t ht
  have ht' : t < l.length * 3 := by simpa using ht
  refine ⟨?_, by simp [World.frozen?, hg]⟩
  have e1 : (cur.toList.take (l.length * 3))[t]? = (flatS l)[t]? := by rw [h4]
  rw [List.getElem?_take_of_lt ht', Array.getElem?_toList] at e1
  simp only [World.cell?, hg, Nat.zero_add]
  simp only [Option.isSome_none, Bool.false_eq_true, if_false, e1]
  unfold flatS
  rw [Array.getElem?_toList, Array.getElem?_eq_getElem (by simpa using ht'), getElem!_pos _ t (by simpa using ht')]
  rfl
theorem RowAt.grow {w : World} {g cap : Nat} {l : List Sv} (h : RowAt w g cap l) (os : Array Obj) : RowAt (grow w os) g cap l := by
  have hlt := h.lt
  obtain ⟨cur, hg, h1, h2, h3, h4⟩ := h.out
  refine ⟨cur, ?_, h1, h2, h3, h4⟩
  simp only [Sort.grow, Array.getElem?_append]
  rw [if_pos hlt]; exact hg
theorem RowAt.step {w w' : World} {g cap : Nat} {l : List Sv} (h : RowAt w g cap l) (hw : w'.heap[g]? = w.heap[g]?) : RowAt w' g cap l := by
  obtain ⟨cur, hg, h1, h2, h3, h4⟩ := h.out
  exact ⟨cur, by rw [hw]; exact hg, h1, h2, h3, h4⟩
theorem RowAt.put {w : World} {g cap q : Nat} {l m : List Sv} {F : Array Value} (h : RowAt w g cap l) (hF : F.size = l.length * 3) (hm : m.length ≤ l.length) (hf : ∀ j, j < m.length → ∀ i, i < 3 → F[j * 3 + i]! = (encS m[j]!)[i]!) :
    RowAt (putRow id (Sort.ahead w q) g 0 F) g cap m := by
  obtain ⟨cur, hg, h1, h2, h3, h4⟩ := h.out
  refine ⟨putCells id 0 F cur, ?_, by omega, h2, by simpa [putCells] using h3, ?_⟩
  · simp [putRow, mapBlock, Sort.ahead, Array.getElem?_modify, hg, onCells]
  · apply List.ext_getElem?
    intro t
    by_cases ht : t < m.length * 3
    · rw [List.getElem?_take_of_lt ht, Array.getElem?_toList]
      have htc : t < cur.size := by omega
      simp only [putCells, Array.getElem?_mapIdx, Array.getElem?_eq_getElem htc, Option.map_some, Nat.sub_zero, Nat.zero_add]
      rw [if_pos (by omega)]
      have e1 := hf (t / 3) (by omega) (t % 3) (by omega)
      rw [show t / 3 * 3 + t % 3 = t by omega] at e1
      have e2 := flatS_get m (t / 3) (t % 3) (by omega) (by omega)
      rw [show t / 3 * 3 + t % 3 = t by omega] at e2
      rw [e2, id, e1, getElem!_pos m (t / 3) (by omega), List.getElem?_eq_getElem (by rw [encS_len]; omega), getElem!_pos _ _ (by rw [encS_len]; omega)]
    · rw [List.getElem?_take_eq_none (by omega), List.getElem?_eq_none (by rw [flatS_len]; omega)]
theorem RowAt.putK {w : World} {g cap q : Nat} {l : List Sv} {d : Array Sv} (h : RowAt w g cap l) (hd : d.size = l.length) : RowAt (putRowK encS 3 (Sort.ahead w q) g 0 d) g cap d.toList := by
  refine h.put (m := d.toList) (by simp [hd]) (by simp [hd]) (fun j hj i hi => ?_)
  simp only [Array.length_toList] at hj
  rw [get_flatK _ _ _ _ (by omega), show (j * 3 + i) / 3 = j by omega, show (j * 3 + i) % 3 = i by omega, getElem!_pos d j hj, getElem!_pos d.toList j (by simpa using hj)]
  simp
end Go.Proofs.YtolefpeiceiocaaGreat.Ps
