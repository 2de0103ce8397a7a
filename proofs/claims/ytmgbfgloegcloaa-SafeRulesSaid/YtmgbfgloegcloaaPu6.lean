/- WHAT FOLLOWS OF AN ORDER OF LITERALS: each is taken once, and is ready; with more bound no fewer can be taken. No program in sight. -/
import Derived.Test.YtmgbfgloegcloaaPu4
namespace Go.Proofs.Ytmgbfgloegcloaa.Pu
open Go.RowKit Go.Proofs.YtmgbfgloegcloaaW.PrintWords Go.Proofs.YtmgbfgloegcloaaW.PrintLast Go.Proofs.Ytmgbfgloegcloaa.Ps AnteSet
def lv (body : List S43) (i : Nat) : List ByteArray := vars (terms (body.getD i z43))
def Chain (body : List S43) : List Bool → List ByteArray → List Nat → List ByteArray → Prop
  | _, l, [], v => v = l
  | taken, l, i :: r, v => i < body.length ∧ taken.getD i false = false ∧ ready (body.getD i z43) l = true ∧ Chain body (taken.set i true) (next (body.getD i z43) l) r v
theorem run_chain {body : List S43} : ∀ {n : Nat} {taken : List Bool} {l : List ByteArray} {out : List Nat} {o : List Nat} {v : List ByteArray}, run body n taken l out = some (o, v) → ∃ r, o = out ++ r ∧ r.length = n ∧ Chain body taken l r v
  | 0, taken, l, out, o, v, h => by
    have := Option.some.inj h
    cases this
    exact ⟨[], by simp, rfl, rfl⟩
  | n + 1, taken, l, out, o, v, h => by
    unfold run at h
    split at h
    · cases h
    · rename_i i hi
      obtain ⟨r, h1, h2, h3⟩ := run_chain h
      obtain ⟨_, p2, p3, p4, _⟩ := pick_spec hi
      exact ⟨i :: r, by rw [h1]; simp, by simp [h2], by omega, p3, p4, h3⟩
theorem mem_next {x : S43} {l : List ByteArray} {s : ByteArray} : s ∈ next x l ↔ s ∈ l ∨ s ∈ vars (terms x) := by
  unfold next
  rw [qy slo, List.mem_append]
theorem ready_mono {x : S43} {l m : List ByteArray} (hm : ∀ s ∈ l, s ∈ m) (h : ready x l = true) : ready x m = true := by
  have hb : ∀ v, isB v l = true → isB v m = true := fun v hv => by
    rw [isB_iff] at hv ⊢
    exact hv.imp id (hm v)
  unfold ready Ps.readyB at *
  split at h
  · rename_i k2
    rw [if_pos k2]
    simp only [Bool.and_eq_true, Bool.not_eq_true'] at h ⊢
    obtain ⟨⟨⟨h1, h2⟩, h3⟩, h4⟩ := h
    refine ⟨⟨⟨?_, hb _ h2⟩, hb _ h3⟩, hb _ h4⟩
    rw [List.any_eq_false] at h1 ⊢
    intro t ht
    have := h1 t ht
    rw [Bool.not_eq_true, Bool.not_eq_false'] at this ⊢
    exact hb _ this
  · rename_i k2
    rw [if_neg k2]
    split at h
    · rename_i k3
      rw [if_pos k3]
      simp only [Bool.or_eq_true, Bool.and_eq_true] at h ⊢
      rcases h with ⟨h1, h2⟩ | ⟨h1, h2⟩
      · exact .inl ⟨hb _ h1, hb _ h2⟩
      · exact .inr ⟨h1, h2.imp (hb _) (hb _)⟩
    · rename_i k3
      rw [if_neg k3]
      split at h
      · rename_i k4
        rw [if_pos k4]
        simp only [Bool.and_eq_true] at h ⊢
        exact ⟨hb _ h.1, hb _ h.2⟩
      · rename_i k4
        rw [if_neg k4]
theorem getD_set_ne {l : List Bool} {i j : Nat} (h : i ≠ j) : (l.set i true).getD j false = l.getD j false := by
  simp [List.getD, List.getElem?_set_ne h]
theorem getD_set_self {l : List Bool} {i : Nat} (h : i < l.length) : (l.set i true).getD i false = true := by
  simp [List.getD, h]
theorem chain_untaken {body : List S43} : ∀ {r : List Nat} {taken : List Bool} {l v : List ByteArray}, taken.length = body.length → Chain body taken l r v → ∀ i ∈ r, i < body.length ∧ taken.getD i false = false
  | [], _, _, _, _, _, i, hi => by simp at hi
  | j :: r, taken, l, v, hl, h, i, hi => by
    obtain ⟨h1, h2, h3, h4⟩ := h
    rcases List.mem_cons.1 hi with rfl | hi
    · exact ⟨h1, h2⟩
    · obtain ⟨k1, k2⟩ := chain_untaken (by simpa using hl) h4 i hi
      refine ⟨k1, ?_⟩
      by_cases e : j = i
      · subst e
        rw [getD_set_self (by omega)] at k2
        cases k2
      · rwa [getD_set_ne e] at k2
theorem chain_mem {body : List S43} : ∀ {r : List Nat} {taken : List Bool} {l v : List ByteArray}, Chain body taken l r v → ∀ s, s ∈ v ↔ s ∈ l ∨ ∃ i ∈ r, s ∈ lv body i
  | [], _, l, v, h, s => by
    have : v = l := h
    subst this
    simp
  | j :: r, taken, l, v, h, s => by
    obtain ⟨h1, h2, h3, h4⟩ := h
    rw [chain_mem h4 s, mem_next]
    simp only [List.mem_cons, exists_eq_or_imp]
    constructor
    · rintro ((h | h) | h)
      · exact .inl h
      · exact .inr (.inl h)
      · exact .inr (.inr h)
    · rintro (h | h | h)
      · exact .inl (.inl h)
      · exact .inl (.inr h)
      · exact .inr h
theorem chain_sorted {body : List S43} : ∀ {r : List Nat} {taken : List Bool} {l v : List ByteArray}, Ord l → Chain body taken l r v → Ord v
  | [], _, l, v, hl, h => by
    have : v = l := h
    subst this
    exact hl
  | j :: r, taken, l, v, hl, h => chain_sorted (qr slo _) h.2.2.2
theorem count_set {taken : List Bool} {i : Nat} (hi : i < taken.length) (h : taken.getD i false = false) : (taken.set i true).count false + 1 = taken.count false := by
  have e : taken[i] = false := by simpa [List.getD, List.getElem?_eq_getElem hi] using h
  have hm : 1 ≤ taken.count false := List.one_le_count_iff.2 (e ▸ List.getElem_mem hi)
  have := List.count_set (a := true) (b := false) hi
  rw [e] at this
  simp at this
  omega
theorem chain_all {body : List S43} : ∀ {r : List Nat} {taken : List Bool} {l v : List ByteArray}, taken.length = body.length → Chain body taken l r v → taken.count false = r.length → ∀ j, j < body.length → taken.getD j false = false → j ∈ r
  | [], taken, l, v, hl, h, hc, j, hj, ht => by
    have e : taken[j]'(by omega) = false := by simpa [List.getD, List.getElem?_eq_getElem (show j < taken.length by omega)] using ht
    have := List.count_eq_zero.1 (show taken.count false = 0 from hc)
    exact absurd (e ▸ List.getElem_mem (show j < taken.length by omega)) this
  | i :: r, taken, l, v, hl, h, hc, j, hj, ht => by
    obtain ⟨h1, h2, h3, h4⟩ := h
    by_cases e : i = j
    · subst e; simp
    · have := count_set (taken := taken) (i := i) (by omega) h2
      have hc' : (taken.set i true).count false = r.length := by simp at hc; omega
      exact List.mem_cons_of_mem _ (chain_all (by simpa using hl) h4 hc' j hj (by rwa [getD_set_ne e]))
theorem chain_ready {body : List S43} : ∀ {r : List Nat} {tk : List Bool} {l0 v : List ByteArray}, Chain body tk l0 r v → ∀ {taken : List Bool} {l : List ByteArray}, (∀ s ∈ l0, s ∈ l) → (∀ i, i < body.length → taken.getD i false = true → ∀ s ∈ lv body i, s ∈ l) →
    (∃ j ∈ r, taken.getD j false = false) → ∃ j, j < body.length ∧ taken.getD j false = false ∧ ready (body.getD j z43) l = true
  | [], _, _, _, _, _, _, _, _, h => by obtain ⟨j, hj, _⟩ := h; simp at hj
  | i :: r, tk, l0, v, hch, taken, l, hl, ht, hj => by
    obtain ⟨h1, h2, h3, h4⟩ := hch
    cases hti : taken.getD i false with
    | false => exact ⟨i, h1, hti, ready_mono hl h3⟩
    | true =>
      obtain ⟨j, hj1, hj2⟩ := hj
      rcases List.mem_cons.1 hj1 with rfl | hj1
      · rw [hti] at hj2; cases hj2
      · refine chain_ready h4 (fun s hs => ?_) ht ⟨j, hj1, hj2⟩
        rcases mem_next.1 hs with e | e
        · exact hl s e
        · exact ht i h1 hti s e
theorem run_goes {body : List S43} {r : List Nat} {tk : List Bool} {l0 v : List ByteArray} (hch : Chain body tk l0 r v) (hall : ∀ j, j < body.length → j ∈ r) : ∀ (n : Nat) (taken : List Bool) (l : List ByteArray) (out : List Nat), taken.length = body.length → taken.count false = n →
    (∀ s ∈ l0, s ∈ l) → (∀ i, i < body.length → taken.getD i false = true → ∀ s ∈ lv body i, s ∈ l) → ∃ o w, run body n taken l out = some (o, w)
  | 0, taken, l, out, _, _, _, _ => ⟨out, l, rfl⟩
  | n + 1, taken, l, out, hl, hc, h1, h2 => by
    unfold run
    cases hp : pick body taken l body.length 0 with
    | none =>
      exfalso
      have hm : false ∈ taken := List.one_le_count_iff.1 (by omega)
      obtain ⟨j, hj, hj2⟩ := List.getElem_of_mem hm
      have hj3 : taken.getD j false = false := by simp [List.getD, List.getElem?_eq_getElem hj, hj2]
      obtain ⟨m, m1, m2, m3⟩ := chain_ready hch h1 h2 ⟨j, hall j (by omega), hj3⟩
      rcases pick_none hp m (Nat.zero_le _) (by omega) with e | e
      · rw [m2] at e; cases e
      · rw [m3] at e; cases e
    | some i =>
      obtain ⟨_, p2, p3, p4, _⟩ := pick_spec hp
      have hi : i < body.length := by omega
      have hcs := count_set (taken := taken) (i := i) (by omega) p3
      refine run_goes hch hall n (taken.set i true) (next (body.getD i z43) l) (out ++ [i]) (by simpa using hl) (by omega) (fun s hs => mem_next.2 (.inl (h1 s hs))) (fun j hj ht s hs => ?_)
      by_cases e : i = j
      · subst e; exact mem_next.2 (.inr hs)
      · rw [getD_set_ne e] at ht
        exact mem_next.2 (.inl (h2 j hj ht s hs))
theorem qx (n j : Nat) : (List.replicate n false).getD j false = false := by
  simp [List.getD, List.getElem?_replicate]
  split <;> rfl
theorem qt {body : List S43} {bound : List ByteArray} {o : List Nat} {v : List ByteArray} (h : order body bound = some (o, v)) :
    o.length = body.length ∧ Chain body (List.replicate body.length false) (names bound) o v ∧ (∀ j, j < body.length → j ∈ o) ∧ v = names (bound ++ (List.range body.length).flatMap (lv body)) := by
  obtain ⟨r, h1, h2, h3⟩ := run_chain h
  rw [List.nil_append] at h1
  subst h1
  have hall : ∀ j, j < body.length → j ∈ o := fun j hj => chain_all (by simp) h3 (by rw [List.count_replicate_self, h2]) j hj (qx _ _)
  refine ⟨h2, h3, hall, uniq slo (chain_sorted (qr slo _) h3) (qr slo _) (fun s => ?_)⟩
  rw [chain_mem h3, qy slo, qy slo, List.mem_append, List.mem_flatMap]
  constructor
  · rintro (e | ⟨i, hi, e⟩)
    · exact .inl e
    · exact .inr ⟨i, List.mem_range.2 (chain_untaken (by simp) h3 i hi).1, e⟩
  · rintro (e | ⟨i, hi, e⟩)
    · exact .inl e
    · exact .inr ⟨i, hall i (List.mem_range.1 hi), e⟩
end Go.Proofs.Ytmgbfgloegcloaa.Pu
namespace Go.Proofs.Ytmgbfgloegcloaa.Pu
open Go.RowKit Go.Proofs.YtmgbfgloegcloaaW.PrintWords Go.Proofs.YtmgbfgloegcloaaW.PrintLast Go.Proofs.Ytmgbfgloegcloaa.Ps AnteSet
theorem rd51_nat {l : List S51} {i : Nat} (h : i < l.length) : zq l (i : Int) = l[i] := by
  unfold zq; simp [List.getD, List.getElem?_eq_getElem h]
def nX : ByteArray := ⟨#[88]⟩
def tX : S40 := ⟨nX, ⟨0, 0, ⟨#[]⟩⟩⟩
def tO : S40 := ⟨⟨#[]⟩, ⟨0, 0, ⟨#[]⟩⟩⟩
def lit0 : S43 := ⟨3, ⟨⟨#[]⟩, []⟩, ⟨#[60]⟩, tX, tX, tO, []⟩
def lit1 : S43 := ⟨1, ⟨⟨#[113]⟩, [tX]⟩, ⟨#[]⟩, tO, tO, tO, []⟩
theorem list_nX : nX.toList = [88] := ByteArray.toList_mk [88]
theorem vars_lit0 : vars (terms lit0) = [nX, nX] := by
  simp [terms, lit0, vars_cons, tX, tO, list_nX]; rfl
theorem vars_lit1 : vars (terms lit1) = [nX] := by
  simp [terms, lit1, vars_cons, tX, tO, list_nX]; rfl
theorem names_XX : names [nX, nX] = [nX] := by simp [nset, ins, blt, list_nX, Op.bytesLess]
theorem names_X : names [nX] = [nX] := by simp [nset, ins]
theorem names_XXX : names [nX, nX, nX] = [nX] := by simp [nset, ins, blt, list_nX, Op.bytesLess]
theorem ready0_no : ready lit0 [] = false := by
  simp [ready, Ps.readyB, lit0, isB, tX, list_nX, containsS_inB, inB]
theorem ready0_yes : ready lit0 [nX] = true := by
  simp [ready, Ps.readyB, lit0, isB, tX, list_nX, containsS_inB, inB]
theorem ready1 (l : List ByteArray) : ready lit1 l = true := by simp [ready, Ps.readyB, lit1]
theorem awake_order : order [lit0, lit1] [] = some ([1, 0], [nX]) := by
  have n1 : next lit1 [] = [nX] := by unfold next; rw [vars_lit1]; exact names_X
  have n0 : next lit0 [nX] = [nX] := by unfold next; rw [vars_lit0]; exact names_XXX
  have p1 : pick [lit0, lit1] [false, false] [] 2 0 = some 1 := by simp [pick, ready0_no, ready1]
  have p2 : pick [lit0, lit1] [false, true] [nX] 2 0 = some 0 := by simp [pick, ready0_yes]
  unfold order
  show run [lit0, lit1] 2 [false, false] [] [] = _
  unfold run
  rw [show [lit0, lit1].length = 2 from rfl, p1]
  show run [lit0, lit1] 1 [false, true] (next lit1 []) [1] = _
  rw [n1]
  unfold run
  rw [show [lit0, lit1].length = 2 from rfl, p2]
  show run [lit0, lit1] 0 [true, true] (next lit0 [nX]) [1, 0] = _
  rw [n0]
  rfl
theorem small_none : Small [] := ⟨by simp, by simp⟩
theorem order_none (bound : List ByteArray) : order [] bound = some ([], names bound) := rfl
theorem heads_tX : qj.f [tX] [] = some true := by decide +kernel
theorem rule_none : Ev (fun k => zW.f k ⟨#[112]⟩ [tX] 0 []) (⟨#[]⟩, [], 0, [], 7) := by
  have h := safe_Order_ev [] small_none [] (by simp)
  rw [order_none] at h
  refine Ev.congr (fun k => ?_) (Ev.bind (f := fun k (b : List Int × List ByteArray × Int) => if b.2.2 = 0 then ((qj.f [tX] b.2.1).bind fun t => if t = true then some ((⟨#[]⟩ : ByteArray), ([] : List S40), (0 : Int), ([] : List S43), (7 : Int)) else zW.l0 k b.1 (b.1.length : Int) 0 ⟨#[112]⟩ [tX] 0 [] ⟨#[112]⟩ [tX] 0 []) else some ((⟨#[]⟩ : ByteArray), ([] : List S40), (0 : Int), ([] : List S43), b.2.2)) h ?_)
  · rfl
  · refine Ev.congr (fun k => ?_) (Ev.now _)
    show (if (0 : Int) = 0 then (qj.f [tX] []).bind _ else _) = _
    rw [if_pos rfl, heads_tX]
    rfl
theorem awake_ev : Ev (fun k => zT.f k) true := by
  have hs : Small [lit0, lit1] := ⟨by simp, by simp [lit0, lit1, tX]⟩
  have h1 := safe_Order_ev [lit0, lit1] hs [] (by simp)
  rw [awake_order] at h1
  have h3 : Ev (fun k => zE.f k [nX] [nX]) true := by
    have := same_ev [nX] [nX] (by simp)
    rwa [decide_eq_true rfl] at this
  have h4 := safe_Vars_ev lit0 (by simp [lit0])
  rw [vars_lit0, names_XX] at h4
  obtain ⟨k1, e1⟩ := h1
  obtain ⟨k2, e2⟩ := rule_none
  obtain ⟨k3, e3⟩ := h3
  obtain ⟨k4, e4⟩ := h4
  refine ⟨k1 + k2 + k3 + k4, fun k hk => ?_⟩
  unfold zT.f
  refine (congrArg (fun t => Option.bind t _) (e1 k (by omega))).trans ?_
  rw [Option.bind_some]
  refine (congrArg (fun t => Option.bind t _) (e2 k (by omega))).trans ?_
  rw [Option.bind_some]
  show (if (0 : Int) = 0 then (if (2 : Int) = 2 then (if (0 : Int) < 2 then (if (1 : Int) = 1 then (zE.f k [nX] [nX]).bind _ else _) else _) else _) else _) = _
  rw [if_pos rfl, if_pos rfl, if_pos (by omega), if_pos rfl]
  refine (congrArg (fun t => Option.bind t _) (e3 k (by omega))).trans ?_
  rw [Option.bind_some, if_pos rfl]
  show (if (7 : Int) = 7 then (if (0 : Int) < 2 then Option.bind _ _ else _) else _) = _
  rw [if_pos rfl, if_pos (by omega)]
  refine (congrArg (fun t => Option.bind t _) (e4 k (by omega))).trans ?_
  rfl
end Go.Proofs.Ytmgbfgloegcloaa.Pu
