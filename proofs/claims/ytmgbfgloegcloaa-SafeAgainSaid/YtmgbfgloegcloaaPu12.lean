/- SafeAgain: what the law computes is true. No program's memory in sight. -/
import Derived.Test.YtmgbfgloegcloaaPu11
namespace Go.Proofs.Ytmgbfgloegcloaa.Pu
open Go.RowKit Go.Proofs.YtmgbfgloegcloaaW.PrintWords Go.Proofs.YtmgbfgloegcloaaW.PrintLast Go.Proofs.Ytmgbfgloegcloaa.Ps AnteSet

/-- a body turned about -/
def rotS (b : List S43) (by_ : Nat) (m : Nat) : List S43 := (List.range m).map fun i => b.getD ((i + by_) % b.length) z43
theorem rotS_succ (b : List S43) (by_ m : Nat) : rotS b by_ (m + 1) = rotS b by_ m ++ [b.getD ((m + by_) % b.length) z43] := by
  unfold rotS
  rw [List.range_succ, List.map_append, List.map_singleton]
theorem rotS_length (b : List S43) (by_ m : Nat) : (rotS b by_ m).length = m := by simp [rotS]
theorem rotS_mem {b : List S43} {by_ m : Nat} {x : S43} (h : x ∈ rotS b by_ m) (hb : 0 < b.length) : x ∈ b := by
  unfold rotS at h
  obtain ⟨i, _, rfl⟩ := List.mem_map.1 h
  have hlt : (i + by_) % b.length < b.length := Nat.mod_lt _ hb
  have : b.getD ((i + by_) % b.length) z43 = b[(i + by_) % b.length] := by simp [List.getD, List.getElem?_eq_getElem hlt]
  rw [this]
  exact List.getElem_mem hlt
theorem rotS_getD {b : List S43} {by_ m i : Nat} (h : i < m) : (rotS b by_ m).getD i z43 = b.getD ((i + by_) % b.length) z43 := by
  simp [rotS, List.getD, h]
def again_g (n by_ : Nat) (i : Nat) : Nat := (i + (n - by_ % n)) % n
theorem again_g1 {n by_ i : Nat} (h : i < n) : again_g n by_ i < n ∧ (again_g n by_ i + by_) % n = i := by
  have hn : 0 < n := by omega
  refine ⟨Nat.mod_lt _ hn, ?_⟩
  unfold again_g
  have h1 : by_ % n < n := Nat.mod_lt _ hn
  rw [Nat.add_mod, Nat.mod_mod, ← Nat.add_mod]
  have e : i + (n - by_ % n) + by_ = i + n + (by_ - by_ % n) := by
    have : by_ % n ≤ by_ := Nat.mod_le _ _
    omega
  rw [e]
  have hd : by_ - by_ % n = n * (by_ / n) := by
    have := Nat.div_add_mod by_ n
    omega
  rw [hd, Nat.add_mul_mod_self_left, Nat.add_mod_right, Nat.mod_eq_of_lt h]
theorem again_g2 {n by_ j : Nat} (h : j < n) : again_g n by_ ((j + by_) % n) = j := by
  have hn : 0 < n := by omega
  unfold again_g
  have h1 : by_ % n < n := Nat.mod_lt _ hn
  rw [Nat.add_mod, Nat.mod_mod, ← Nat.add_mod]
  have e : j + by_ + (n - by_ % n) = j + n + (by_ - by_ % n) := by
    have : by_ % n ≤ by_ := Nat.mod_le _ _
    omega
  rw [e]
  have hd : by_ - by_ % n = n * (by_ / n) := by
    have := Nat.div_add_mod by_ n
    omega
  rw [hd, Nat.add_mul_mod_self_left, Nat.add_mod_right, Nat.mod_eq_of_lt h]
theorem order_rot {b : List S43} (by_ : Nat) {bound : List ByteArray} {o : List Nat} {v : List ByteArray} (h : order b bound = some (o, v)) : ∃ o', order (rotS b by_ b.length) bound = some (o', v) := by
  refine order_turned (rotS_length _ _ _) (again_g b.length by_) (fun i hi => ?_) (fun i j hi hj e => ?_) (fun j hj => ?_) h
  · obtain ⟨g1, g2⟩ := again_g1 (by_ := by_) hi
    refine ⟨by rw [rotS_length]; exact g1, ?_⟩
    rw [rotS_getD g1, g2]
  · rw [← (again_g1 (by_ := by_) hi).2, ← (again_g1 (by_ := by_) hj).2, e]
  · rw [rotS_length] at hj
    exact ⟨(j + by_) % b.length, Nat.mod_lt _ (by omega), again_g2 hj⟩
theorem order_rot_back {b : List S43} (by_ : Nat) {bound : List ByteArray} {o : List Nat} {v : List ByteArray} (h : order (rotS b by_ b.length) bound = some (o, v)) : ∃ o', order b bound = some (o', v) := by
  refine order_turned (rotS_length _ _ _).symm (fun i => (i + by_) % b.length) (fun i hi => ?_) (fun i j hi hj e => ?_) (fun j hj => ?_) h
  · rw [rotS_length] at hi
    refine ⟨Nat.mod_lt _ (by omega), ?_⟩
    rw [rotS_getD hi]
  · rw [rotS_length] at hi hj
    have e : (i + by_) % b.length = (j + by_) % b.length := e
    rw [← again_g2 (by_ := by_) hi, ← again_g2 (by_ := by_) hj, e]
  · obtain ⟨g1, g2⟩ := again_g1 (by_ := by_) hj
    exact ⟨again_g b.length by_ j, by rw [rotS_length]; exact g1, g2⟩
theorem wrap_small (i j : Nat) (h : i + j < 4611686018427387904) : wrap64 ((i : Int) + wrap64 (j : Int)) = ((i + j : Nat) : Int) := by
  unfold wrap64; omega
theorem again_loop (p : ByteArray) (a : List S40) (f : Int) (b : List S43) (hb : b.length ≤ 13) (by_ : Nat) (hby : by_ ≤ 255) (e : Int) (y0 : ByteArray) (y1 : List S40) (y2 : Int) (y3 : List S43) (R : Bool)
    (h : Ev (fun k => (safe_Rule.f k p a f (rotS b by_ b.length)).bind fun bt454 => (if e = bt454.2.2.2.2 then (if e = 0 then ((safe_Rule.f k y0 y1 y2 y3).bind fun bt464 => (if bt464.2.2.2.2 = 0 then ((antecedentref09_SameRuleB.f k y0 y1 y2 y3 bt464.1 bt464.2.1 bt464.2.2.1 bt464.2.2.2.1).bind fun t474 => (some t474)) else (none))) else ((antecedentref09_SameRuleB.f k y0 y1 y2 y3 (⟨#[]⟩ : ByteArray) ([] : List (S40)) 0 ([] : List (S43))).bind fun t475 => (some t475))) else (none))) R) (d : Nat) :
    ∀ i : Nat, i + d = b.length → Ev (fun k => antecedentlaw11_SafeAgainB.l0 k (by_ : Int) e (b.length : Int) (i : Int) p a f b y0 y1 y2 y3 p a f (rotS b by_ i)) R := by
  induction d with
  | zero =>
    intro i hi
    obtain rfl : i = b.length := by omega
    refine Ev.step (fun k => ?_) h
    simp only [antecedentlaw11_SafeAgainB.l0]
    rw [if_neg (nlt_cast (by omega))]
  | succ d ih =>
    intro i hi
    have hlt : i < b.length := by omega
    have hm : (i + by_) % b.length < b.length := Nat.mod_lt _ (by omega)
    have eg : b.getD ((i + by_) % b.length) z43 = b[(i + by_) % b.length] := by simp [List.getD, List.getElem?_eq_getElem hm]
    have h1 := ih (i + 1) (by omega)
    rw [rotS_succ, eg] at h1
    refine Ev.step (f := fun k => antecedentlaw11_SafeAgainB.l0 k (by_ : Int) e (b.length : Int) ((i + 1 : Nat) : Int) p a f b y0 y1 y2 y3 p a f (rotS b by_ i ++ [b[(i + by_) % b.length]])) (fun k => ?_) h1
    have et : Int.tmod ((i + by_ : Nat) : Int) (b.length : Int) = (((i + by_) % b.length : Nat) : Int) := Int.ofNat_tmod _ _
    simp only [antecedentlaw11_SafeAgainB.l0]
    rw [if_pos (lt_cast hlt), if_neg (by omega), wrap_small i by_ (by omega), et, if_pos (nn_cast _), if_pos (lt_cast hm), if_pos (by rw [rotS_length]; omega), rd43_nat hm, wrap_succ i (by omega)]
theorem again_map (b : List S43) (o : List Nat) : (List.range o.length).map (fun i => (o.map fun i => b.getD i z43).getD i z43) = o.map fun i => b.getD i z43 := by
  apply List.ext_getElem
  · simp
  · intro i h1 h2
    have h3 : i < o.length := by simpa using h2
    simp [List.getD, h3]
theorem ruleS_none (p : ByteArray) (a : List S40) (f : Int) {b : List S43} (h : order b [] = none) : ruleS p a f b = (⟨#[]⟩, [], 0, [], 7) := by
  unfold ruleS; rw [h]
theorem ruleS_free (p : ByteArray) (a : List S40) (f : Int) {b : List S43} {o : List Nat} {v : List ByteArray} (h : order b [] = some (o, v)) (hf : headsFree a v = true) : ruleS p a f b = (⟨#[]⟩, [], 0, [], 7) := by
  unfold ruleS; rw [h]; exact if_pos hf
theorem ruleS_some (p : ByteArray) (a : List S40) (f : Int) {b : List S43} {o : List Nat} {v : List ByteArray} (h : order b [] = some (o, v)) (hf : headsFree a v = false) : ruleS p a f b = (p, a, f, o.map (fun i => b.getD i z43), 0) := by
  unfold ruleS; rw [h]; exact if_neg (by rw [hf]; decide)
theorem SafeAgain_plain (p : ByteArray) (a : List S40) (f : Int) (b : List S43) (by_ : Nat) (hby : by_ ≤ 255) : ∃ k, antecedentlaw11_SafeAgainB.f k p a f b (by_ : Int) = some true := by
  obtain ⟨t, hw, hP⟩ := few_evP b []
  obtain ⟨k1, h1⟩ := awake_ev
  obtain ⟨k2, h2⟩ := hw
  have asleep : ∃ k, (antecedentlaw11_SafeAgainB.j0 k (by_ : Int) true p a f b) = some true ∧ k1 + k2 ≤ k := by
    refine ⟨k1 + k2 + 1, ?_, by omega⟩
    simp only [antecedentlaw11_SafeAgainB.j0]
    rw [if_pos trivial]
    refine (congrArg (fun t => Option.bind t _) (h1 _ (by omega))).trans ?_
    rfl
  cases t with
  | false =>
    obtain ⟨k, hk, hl⟩ := asleep
    refine ⟨k, ?_⟩
    unfold antecedentlaw11_SafeAgainB.f
    refine (congrArg (fun t => Option.bind t _) (h1 _ (by omega))).trans ?_
    rw [Option.bind_some, if_pos rfl]
    refine (congrArg (fun t => Option.bind t _) (h2 _ (by omega))).trans ?_
    rw [Option.bind_some, if_neg (by decide)]
    exact hk
  | true =>
    obtain ⟨hs, hp6, hl⟩ := hP rfl
    have hb := hs.1
    by_cases ha : (a.length : Int) > 10
    · obtain ⟨k, hk, hl⟩ := asleep
      refine ⟨k, ?_⟩
      unfold antecedentlaw11_SafeAgainB.f
      refine (congrArg (fun t => Option.bind t _) (h1 _ (by omega))).trans ?_
      rw [Option.bind_some, if_pos rfl]
      refine (congrArg (fun t => Option.bind t _) (h2 _ (by omega))).trans ?_
      rw [Option.bind_some, if_pos rfl, decide_eq_true ha]
      exact hk
    · have hsr : Small (rotS b by_ b.length) := ⟨by rw [rotS_length]; exact hb, fun x hx => by
        rcases Nat.eq_zero_or_pos b.length with h0 | h0
        · have e0 : rotS b by_ b.length = [] := List.eq_nil_of_length_eq_zero (by rw [rotS_length]; exact h0)
          rw [e0] at hx; simp at hx
        · exact hs.2 x (rotS_mem hx h0)⟩
      obtain ⟨k3, h3⟩ := safe_Rule_ev p a f b hs
      have h4 := safe_Rule_ev p a f (rotS b by_ b.length) hsr
      have key : ∃ y0 y1 y2 y3 e, ruleS p a f b = (y0, y1, y2, y3, e) ∧ Ev (fun k => (safe_Rule.f k p a f (rotS b by_ b.length)).bind fun bt454 => (if e = bt454.2.2.2.2 then (if e = 0 then ((safe_Rule.f k y0 y1 y2 y3).bind fun bt464 => (if bt464.2.2.2.2 = 0 then ((antecedentref09_SameRuleB.f k y0 y1 y2 y3 bt464.1 bt464.2.1 bt464.2.2.1 bt464.2.2.2.1).bind fun t474 => (some t474)) else (none))) else ((antecedentref09_SameRuleB.f k y0 y1 y2 y3 (⟨#[]⟩ : ByteArray) ([] : List (S40)) 0 ([] : List (S43))).bind fun t475 => (some t475))) else (none))) true := by
        have bad : ruleS p a f b = (⟨#[]⟩, [], 0, [], 7) → ruleS p a f (rotS b by_ b.length) = (⟨#[]⟩, [], 0, [], 7) → ∃ y0 y1 y2 y3 e, ruleS p a f b = (y0, y1, y2, y3, e) ∧ Ev (fun k => (safe_Rule.f k p a f (rotS b by_ b.length)).bind fun bt454 => (if e = bt454.2.2.2.2 then (if e = 0 then ((safe_Rule.f k y0 y1 y2 y3).bind fun bt464 => (if bt464.2.2.2.2 = 0 then ((antecedentref09_SameRuleB.f k y0 y1 y2 y3 bt464.1 bt464.2.1 bt464.2.2.1 bt464.2.2.2.1).bind fun t474 => (some t474)) else (none))) else ((antecedentref09_SameRuleB.f k y0 y1 y2 y3 (⟨#[]⟩ : ByteArray) ([] : List (S40)) 0 ([] : List (S43))).bind fun t475 => (some t475))) else (none))) true := by
          intro e1 e2
          refine ⟨⟨#[]⟩, [], 0, [], 7, e1, ?_⟩
          rw [e2] at h4
          obtain ⟨k4, h4⟩ := h4
          obtain ⟨k5, h5⟩ := sameRule_self ⟨#[]⟩ [] 0 [] (by simp) (by simp) (by simp)
          refine ⟨k4 + k5, fun k hk => ?_⟩
          refine (congrArg (fun t => Option.bind t _) (h4 k (by omega))).trans ?_
          rw [Option.bind_some, if_pos rfl, if_neg (by decide)]
          refine (congrArg (fun t => Option.bind t _) (h5 k (by omega))).trans ?_
          rfl
        cases ho : order b [] with
        | none =>
          have hr : order (rotS b by_ b.length) [] = none := by
            cases hr : order (rotS b by_ b.length) [] with
            | none => rfl
            | some ov =>
              obtain ⟨o', v'⟩ := ov
              obtain ⟨_, hc⟩ := order_rot_back by_ hr
              rw [ho] at hc; cases hc
          exact bad (ruleS_none p a f ho) (ruleS_none p a f hr)
        | some ov =>
          obtain ⟨o, v⟩ := ov
          obtain ⟨o', hr⟩ := order_rot by_ ho
          cases hf : headsFree a v with
          | true => exact bad (ruleS_free p a f ho hf) (ruleS_free p a f hr hf)
          | false =>
            have e1 := ruleS_some p a f ho hf
            have e2 := ruleS_some p a f hr hf
            have ol := (order_chain ho).1
            have hmem : ∀ x ∈ o.map (fun i => b.getD i z43), x ∈ b := fun x hx => by
              obtain ⟨i, hi, rfl⟩ := List.mem_map.1 hx
              have hib := order_lt ho i hi
              have : b.getD i z43 = b[i] := by simp [List.getD, List.getElem?_eq_getElem hib]
              rw [this]
              exact List.getElem_mem hib
            have hsy : Small (o.map fun i => b.getD i z43) := ⟨by rw [List.length_map]; omega, fun x hx => hs.2 x (hmem x hx)⟩
            have e3 : ruleS p a f (o.map fun i => b.getD i z43) = (p, a, f, o.map (fun i => b.getD i z43), 0) := by
              rw [ruleS_some p a f (order_again ho) hf, again_map]
            refine ⟨p, a, f, _, 0, e1, ?_⟩
            rw [e2] at h4
            obtain ⟨k4, h4⟩ := h4
            have h5 := safe_Rule_ev p a f (o.map fun i => b.getD i z43) hsy
            rw [e3] at h5
            obtain ⟨k5, h5⟩ := h5
            obtain ⟨k6, h6⟩ := sameRule_self p a f (o.map fun i => b.getD i z43) (by omega) (by rw [List.length_map]; omega) (fun x hx => ⟨hs.2 x (hmem x hx), hp6 x (hmem x hx)⟩)
            refine ⟨k4 + k5 + k6, fun k hk => ?_⟩
            refine (congrArg (fun t => Option.bind t _) (h4 k (by omega))).trans ?_
            rw [Option.bind_some, if_pos rfl, if_pos rfl]
            refine (congrArg (fun t => Option.bind t _) (h5 k (by omega))).trans ?_
            rw [Option.bind_some, if_pos rfl]
            refine (congrArg (fun t => Option.bind t _) (h6 k (by omega))).trans ?_
            rfl
      obtain ⟨y0, y1, y2, y3, e, er, hE⟩ := key
      rw [er] at h3
      obtain ⟨k4, h4⟩ := again_loop p a f b hb by_ hby e y0 y1 y2 y3 true hE b.length 0 (by omega)
      refine ⟨k1 + k2 + k3 + k4 + 1, ?_⟩
      unfold antecedentlaw11_SafeAgainB.f
      refine (congrArg (fun t => Option.bind t _) (h1 _ (by omega))).trans ?_
      rw [Option.bind_some, if_pos rfl]
      refine (congrArg (fun t => Option.bind t _) (h2 _ (by omega))).trans ?_
      rw [Option.bind_some, if_pos rfl, decide_eq_false ha]
      simp only [antecedentlaw11_SafeAgainB.j0]
      rw [if_neg (by decide)]
      refine (congrArg (fun t => Option.bind t _) (h3 _ (by omega))).trans ?_
      exact h4 _ (by omega)
end Go.Proofs.Ytmgbfgloegcloaa.Pu
