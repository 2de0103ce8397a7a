/- FoldWide: the plain law. -/
import Derived.Test.YtolefpeiceiocaaPs7
import Derived.Test.YtolefpeiceiocaaPaw
import Derived.Test.YtolefpeiceiocaaArgs1
namespace Go.Proofs.Ytolefpeiceiocaa.Ps
open Go Go.RowKit Go.Proofs.YtolefpeiceiocaaW.PrintWords Go.Proofs.YtolefpeiceiocaaW.PrintLast
set_option linter.unusedVariables false

def vI (n : Int) : Sv := ⟨1, n, emp⟩
def pairs (l : List Int) : List Sv := l.flatMap fun x => [vI x, vI (-x)]
/-- No number is another's, nor another's turned about. -/
def apart (n : Int) (l : List Int) : Prop := (∀ x ∈ l, inI x ∧ inI (-x) ∧ x ≠ 0 ∧ x ≠ n ∧ -x ≠ n) ∧ l.Pairwise fun a b => a ≠ b ∧ a ≠ -b
theorem vI_inj {a b : Int} (h : vI a = vI b) : a = b := by
  unfold vI at h
  injection h
theorem mem_pairs {x : Sv} {l : List Int} : x ∈ pairs l ↔ ∃ a ∈ l, x = vI a ∨ x = vI (-a) := by
  unfold pairs
  rw [List.mem_flatMap]
  simp
theorem pairs_sum : ∀ l : List Int, sumP (pairs l) = 0
  | [] => rfl
  | x :: l => by
    have h : pairs (x :: l) = [vI x, vI (-x)] ++ pairs l := by simp [pairs]
    have ih := pairs_sum l
    unfold sumP at ih ⊢
    rw [h, List.map_append, List.sum_append, ih]
    simp [vI]
    omega
theorem pairs_nodup (n : Int) : ∀ l : List Int, apart n l → (pairs l ++ [vI n]).Nodup
  | [], _ => by simp [pairs]
  | x :: l, h => by
    have hx := h.1 x (by simp)
    have hp := List.pairwise_cons.1 h.2
    have ih := pairs_nodup n l ⟨fun y hy => h.1 y (by simp [hy]), hp.2⟩
    have e : pairs (x :: l) ++ [vI n] = vI x :: vI (-x) :: (pairs l ++ [vI n]) := by simp [pairs]
    rw [e]
    have key : ∀ y, (y = x ∨ y = -x) → vI y ∉ pairs l ++ [vI n] := by
      intro y hy hm
      rcases List.mem_append.1 hm with hm | hm
      · obtain ⟨a, ha, h1⟩ := mem_pairs.1 hm
        have h2 := hp.1 a ha
        rcases h1 with h1 | h1 <;> have h3 := vI_inj h1 <;> rcases hy with rfl | rfl <;> omega
      · have h3 := vI_inj (List.mem_singleton.1 hm)
        rcases hy with rfl | rfl <;> omega
    refine List.nodup_cons.2 ⟨fun hm => ?_, List.nodup_cons.2 ⟨key _ (.inr rfl), ih⟩⟩
    rcases List.mem_cons.1 hm with h1 | h1
    · have := vI_inj h1; omega
    · exact key _ (.inl rfl) h1
theorem wide_sum (n : Int) (hn : inI n) (l : List Int) (h : apart n l) : ofP 2 (pairs l ++ [vI n]) = (vI n, 0) := by
  have hs : sumP (setL (pairs l ++ [vI n])) = n := by
    unfold setL
    rw [sum_perm (set_perm cmpS_ord (pairs_nodup n l h))]
    unfold sumP
    rw [List.map_append, List.sum_append]
    have := pairs_sum l
    unfold sumP at this
    rw [this]
    simp [vI]
  rw [of_sum (by simp) (fun x hx => ?_), hs, if_pos hn]
  · rfl
  · rcases List.mem_append.1 hx with hx | hx
    · obtain ⟨a, _, h1⟩ := mem_pairs.1 hx
      rcases h1 with rfl | rfl
      · exact ⟨_, rfl⟩
      · exact ⟨_, rfl⟩
    · exact ⟨n, List.mem_singleton.1 hx⟩
theorem pairs_len (l : List Int) : (pairs l).length = 2 * l.length := by
  induction l with
  | nil => rfl
  | cons x l ih =>
    have h : pairs (x :: l) = [vI x, vI (-x)] ++ pairs l := by simp [pairs]
    rw [h, List.length_append, ih]
    simp
    omega
theorem pairs_snoc (l : List Int) (x : Int) : pairs (l ++ [x]) = pairs l ++ [vI x, vI (-x)] := by simp [pairs]
theorem rd_int {l : List Int} {i : Nat} (h : i < l.length) : rd l (i : Int) = l[i] := by
  unfold rd
  rw [List.getD_eq_getElem?_getD, Int.toNat_natCast, List.getElem?_eq_getElem h]; rfl
theorem take_snoc_int {l : List Int} {i : Nat} (h : i < l.length) : l.take (i + 1) = l.take i ++ [l[i]] := by
  rw [List.take_succ_eq_append_getElem h]
theorem wrap_neg {x : Int} (h : inI x) (h2 : x ≠ -9223372036854775808) : wrap64 (-x) = -x ∧ inI (-x) := by
  unfold inI at h
  have : inI (-x) := by unfold inI; omega
  exact ⟨wrap_in this, this⟩
theorem apart_snoc {n : Int} {l : List Int} {x : Int} (h : apart n l) (hx : inI x ∧ inI (-x) ∧ x ≠ 0 ∧ x ≠ n ∧ -x ≠ n) (hp : ∀ a ∈ l, a ≠ x ∧ a ≠ -x) : apart n (l ++ [x]) := by
  refine ⟨fun y hy => ?_, List.pairwise_append.2 ⟨h.2, List.pairwise_singleton .., fun a ha b hb => ?_⟩⟩
  · rcases List.mem_append.1 hy with hy | hy
    · exact h.1 y hy
    · rw [List.mem_singleton.1 hy]; exact hx
  · rw [List.mem_singleton.1 hb]; exact hp a ha

theorem wide_loop (l : List Int) (n : Int) (hl : ∀ x ∈ l, inI x) (hn : inI n) (h20 : l.length ≤ 20) : ∀ (m k i : Nat), i + m = l.length → 30 * m + 50 < k → apart n (l.take i) →
    antecedentlaw20_FoldWide.l0 k l n (pairs (l.take i)) (l.length : Int) (i : Int) = some true := by
  intro m
  induction m with
  | zero =>
    intro k i hi hk ha
    obtain ⟨k, rfl⟩ : ∃ k', k = k' + 1 := ⟨k - 1, by omega⟩
    have hlen : (pairs (l.take i)).length ≤ 40 := by rw [pairs_len, List.length_take]; omega
    unfold antecedentlaw20_FoldWide.l0
    rw [if_neg (by omega), if_pos (by omega)]
    have hok : okL (pairs (l.take i) ++ [vI n]) := by
      refine ⟨by rw [List.length_append]; simp; omega, fun x hx => ?_⟩
      rcases List.mem_append.1 hx with hx | hx
      · obtain ⟨a, ha', h1⟩ := mem_pairs.1 hx
        have h2 := ha.1 a ha'
        rcases h1 with rfl | rfl
        · exact okS_int h2.1
        · exact okS_int h2.2.1
      · rw [List.mem_singleton.1 hx]; exact okS_int hn
    have e := Of_eq 2 (pairs (l.take i) ++ [vI n]) (by decide) hok k (by rw [List.length_append]; simp; omega)
    rw [wide_sum n hn _ ha] at e
    rw [show (⟨1, n, (⟨#[]⟩ : ByteArray)⟩ : Sv) = vI n from rfl, e, Option.bind_some]
    simp [four, vI, emp]
  | succ m ih =>
    intro k i hi hk ha
    obtain ⟨k, rfl⟩ : ∃ k', k = k' + 1 := ⟨k - 1, by omega⟩
    have hil : i < l.length := by omega
    have hx := hl l[i] (List.getElem_mem hil)
    unfold antecedentlaw20_FoldWide.l0
    rw [if_pos (by omega), if_pos (by omega), if_pos (by omega), rd_int hil]
    have stop : ∀ k' : Nat, antecedentlaw20_FoldWide.j1 (k' + 1) l n (pairs (l.take i)) (i : Int) (l.length : Int) (i : Int) true = some true := fun k' => by
      unfold antecedentlaw20_FoldWide.j1
      rw [if_pos rfl]
    obtain ⟨k, rfl⟩ : ∃ k', k = k' + 1 := ⟨k - 1, by omega⟩
    by_cases c1 : l[i] = -9223372036854775808
    · rw [if_pos c1, stop]
    rw [if_neg c1]
    by_cases c2 : l[i] = n
    · rw [if_pos c2, stop]
    rw [if_neg c2]
    by_cases c3 : l[i] = wrap64 (-n)
    · rw [if_pos c3, stop]
    rw [if_neg c3]
    by_cases c4 : l[i] = 0
    · rw [show (l[i] == 0) = true from by simp [c4], stop]
    rw [show (l[i] == 0) = false from by simp [c4]]
    have hneg := wrap_neg hx c1
    have hn2 : -l[i] ≠ n := by
      intro e
      apply c3
      have : wrap64 (-n) = -n := by
        refine wrap_in ?_
        rw [← e]
        unfold inI at hx ⊢
        omega
      rw [this]
      omega
    have hin : inI l[i] ∧ inI (-l[i]) ∧ l[i] ≠ 0 ∧ l[i] ≠ n ∧ -l[i] ≠ n := ⟨hx, hneg.2, c4, c2, hn2⟩
    unfold antecedentlaw20_FoldWide.j1
    rw [if_neg (by simp)]
    -- the inner loop
    have inner : ∀ (q k' j : Nat), j + q = i → q + 30 * m + 51 < k' → (∀ a ∈ l.take j, a ≠ l[i] ∧ a ≠ -l[i]) → antecedentlaw20_FoldWide.l1 k' l n (pairs (l.take i)) (i : Int) (l.length : Int) (i : Int) (i : Int) (j : Int) = some true := by
      intro q
      induction q with
      | zero =>
        intro k' j hj hk' hap
        obtain ⟨k', rfl⟩ : ∃ k'', k' = k'' + 1 := ⟨k' - 1, by omega⟩
        have e : j = i := by omega
        subst e
        have hlen : (pairs (l.take j)).length ≤ 40 := by rw [pairs_len, List.length_take]; omega
        unfold antecedentlaw20_FoldWide.l1
        rw [if_neg (by omega), if_pos (by omega), if_pos (by omega), rd_int hil, hneg.1, Option.bind_some, if_pos (by simp; omega), wrap_small (by omega)]
        have h := ih k' (j + 1) (by omega) (by omega) (by rw [take_snoc_int hil]; exact apart_snoc ha hin hap)
        rw [take_snoc_int hil, pairs_snoc] at h
        exact h
      | succ q ihq =>
        intro k' j hj hk' hap
        obtain ⟨k', rfl⟩ : ∃ k'', k' = k'' + 1 := ⟨k' - 1, by omega⟩
        have hjl : j < l.length := by omega
        unfold antecedentlaw20_FoldWide.l1
        rw [if_pos (by omega), if_pos (by omega), if_pos (by omega), if_pos (by omega), if_pos (by omega), rd_int hil, rd_int hjl, hneg.1]
        by_cases d1 : l[j] = l[i]
        · rw [if_pos d1]
        rw [if_neg d1]
        by_cases d2 : l[j] = -l[i]
        · rw [if_pos d2]
        rw [if_neg d2, wrap_small (by omega)]
        refine ihq k' (j + 1) (by omega) (by omega) (fun a ha' => ?_)
        rw [take_snoc_int hjl] at ha'
        rcases List.mem_append.1 ha' with ha' | ha'
        · exact hap a ha'
        · rw [List.mem_singleton.1 ha']; exact ⟨d1, d2⟩
    exact inner i k 0 (by omega) (by omega) (fun a ha' => by simp at ha')
theorem FoldWide_true (l : List Int) (n : Int) (hl : ∀ x ∈ l, inI x) (hn : inI n) : antecedentlaw20_FoldWide.f 1000 l n = some true := by
  unfold antecedentlaw20_FoldWide.f
  rw [awake_eq 1000 (by omega), Option.bind_some, if_pos rfl]
  by_cases h : (l.length : Int) > 20
  · rw [if_pos h, Option.bind_some, if_pos rfl]
  · rw [if_neg h]
    have := wide_loop l n hl hn (by omega) l.length 1000 0 (by omega) (by omega) ⟨fun x hx => by simp at hx, by simp⟩
    simpa [pairs] using this
theorem FoldWide_plain (l : List Int) (n : Int) (hl : l.length ≤ maxLen ∧ ∀ x ∈ l, (Lit.int .i64 x).wf = true) (hn : inI n) : ∃ k, antecedentlaw20_FoldWide.f k l n = some true := ⟨_, FoldWide_true l n (fun x hx => wf_i64 (hl.2 x hx)) hn⟩
end Go.Proofs.Ytolefpeiceiocaa.Ps
