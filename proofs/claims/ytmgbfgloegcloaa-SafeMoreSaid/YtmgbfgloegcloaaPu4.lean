/- WHAT Order ANSWERS, the document's and the program's: literal by literal the first one that is ready. No program's memory in sight. -/
import Derived.Test.YtmgbfgloegcloaaPu3
namespace Go.Proofs.Ytmgbfgloegcloaa.Pu
open Go.RowKit Go.Proofs.YtmgbfgloegcloaaW.PrintWords Go.Proofs.YtmgbfgloegcloaaW.PrintLast Go.Proofs.Ytmgbfgloegcloaa.Ps AnteSet

/-- bodies of a size that is looked at -/
def Small (body : List S43) : Prop := body.length ≤ 13 ∧ ∀ x ∈ body, x.f1.f1.length ≤ 10
theorem rd43_nat {l : List S43} {i : Nat} (h : i < l.length) : rd_T43 l (i : Int) = l[i] := by
  unfold rd_T43; simp [List.getD, List.getElem?_eq_getElem h]
theorem rdOf_bool {l : List Bool} {i : Nat} (h : i < l.length) : rdOf false l (i : Int) = l[i] := rdOf_nat _ _ _ h
/-- what is bound behind a literal -/
def next (x : S43) (l : List ByteArray) : List ByteArray := names (l ++ vars (terms x))
theorem next_length (x : S43) (l : List ByteArray) (h : x.f1.f1.length ≤ 10) : (next x l).length ≤ l.length + 13 := by
  have h1 := length_nset slo (l ++ vars (terms x))
  have h2 := vars_length (terms x)
  rw [terms_length] at h2
  unfold next
  show (nset blt (l ++ vars (terms x))).length ≤ _
  rw [List.length_append] at h1
  omega
/-- the first literal from a place on that isn't taken and is ready -/
def pick (body : List S43) (taken : List Bool) (l : List ByteArray) : Nat → Nat → Option Nat
  | 0, _ => none
  | d + 1, i => if taken.getD i false = true then pick body taken l d (i + 1) else if ready (body.getD i z43) l = true then some i else pick body taken l d (i + 1)
theorem pick_spec {body : List S43} {taken : List Bool} {l : List ByteArray} : ∀ {d i j : Nat}, pick body taken l d i = some j → i ≤ j ∧ j < i + d ∧ taken.getD j false = false ∧ ready (body.getD j z43) l = true ∧ ∀ m, i ≤ m → m < j → taken.getD m false = true ∨ ready (body.getD m z43) l = false
  | 0, i, j, h => by simp [pick] at h
  | d + 1, i, j, h => by
    unfold pick at h
    split at h
    · rename_i ht
      obtain ⟨h1, h2, h3, h4, h5⟩ := pick_spec h
      refine ⟨by omega, by omega, h3, h4, fun m hm hj => ?_⟩
      rcases Nat.eq_or_lt_of_le hm with rfl | hm
      · exact .inl ht
      · exact h5 m hm hj
    · rename_i ht
      split at h
      · rename_i hr
        obtain rfl := Option.some.inj h
        exact ⟨Nat.le_refl _, by omega, by simpa using ht, hr, fun m h1 h2 => by omega⟩
      · rename_i hr
        obtain ⟨h1, h2, h3, h4, h5⟩ := pick_spec h
        refine ⟨by omega, by omega, h3, h4, fun m hm hj => ?_⟩
        rcases Nat.eq_or_lt_of_le hm with rfl | hm
        · exact .inr (by simpa using hr)
        · exact h5 m hm hj
theorem pick_none {body : List S43} {taken : List Bool} {l : List ByteArray} : ∀ {d i : Nat}, pick body taken l d i = none → ∀ m, i ≤ m → m < i + d → taken.getD m false = true ∨ ready (body.getD m z43) l = false
  | 0, i, _, m, h1, h2 => by omega
  | d + 1, i, h, m, h1, h2 => by
    unfold pick at h
    split at h
    · rename_i ht
      rcases Nat.eq_or_lt_of_le h1 with rfl | h1
      · exact .inl ht
      · exact pick_none h m h1 (by omega)
    · split at h
      · cases h
      · rename_i hr
        rcases Nat.eq_or_lt_of_le h1 with rfl | h1
        · exact .inr (by simpa using hr)
        · exact pick_none h m h1 (by omega)
/-- n literals more are taken -/
def run (body : List S43) : Nat → List Bool → List ByteArray → List Nat → Option (List Nat × List ByteArray)
  | 0, _, l, out => some (out, l)
  | n + 1, taken, l, out =>
    match pick body taken l body.length 0 with
    | none => none
    | some i => run body n (taken.set i true) (next (body.getD i z43) l) (out ++ [i])
def order (body : List S43) (bound : List ByteArray) : Option (List Nat × List ByteArray) := run body body.length (List.replicate body.length false) (names bound) []
def told : Option (List Nat × List ByteArray) → List Int × List ByteArray × Int
  | none => ([], [], 7)
  | some (o, l) => (o.map Int.ofNat, l, 0)

/-! ### the program's -/
theorem safe_l1 (body : List S43) (hs : Small body) (l : List ByteArray) (taken : List Bool) (out : List Nat) (ht : taken.length = body.length) (hl : l.length < 100000) (ho : out.length < 1000) (R : Option (List Nat × List ByteArray)) (d : Nat) :
    ∀ i : Nat, i + d = body.length → (pick body taken l d i = none → R = none) →
    (∀ j, pick body taken l d i = some j → Ev (fun k => safe_Order.l0 k body (next (body.getD j z43) l) (taken.set j true) (out.map Int.ofNat ++ [(j : Int)])) (told R)) →
    Ev (fun k => safe_Order.l1 k body l taken (out.map Int.ofNat) body (body.length : Int) (i : Int)) (told R) := by
  have hb := hs.1
  induction d with
  | zero =>
    intro i hi hn _
    rw [hn rfl]
    refine Ev.step (f := fun _ => some ([], [], 7)) (fun k => ?_) (Ev.now _)
    simp only [safe_Order.l1]
    rw [if_neg (nlt_cast (by omega))]
  | succ d ih =>
    intro i hi hn hj
    have hlt : i < body.length := by omega
    have hlt2 : i < taken.length := by omega
    have eb : body.getD i z43 = body[i] := by simp [List.getD, List.getElem?_eq_getElem hlt]
    have et : taken.getD i false = taken[i] := by simp [List.getD, List.getElem?_eq_getElem hlt2]
    unfold pick at hn hj
    rw [et, eb] at hn hj
    have step : (pick body taken l d (i + 1) = none → R = none) → (∀ j, pick body taken l d (i + 1) = some j → Ev (fun k => safe_Order.l0 k body (next (body.getD j z43) l) (taken.set j true) (out.map Int.ofNat ++ [(j : Int)])) (told R)) →
        Ev (fun k => safe_Order.l1 k body l taken (out.map Int.ofNat) body (body.length : Int) ((i + 1 : Nat) : Int)) (told R) := ih (i + 1) (by omega)
    cases htk : taken[i] with
    | true =>
      rw [htk] at hn hj
      refine Ev.step (f := fun k => safe_Order.l1 k body l taken (out.map Int.ofNat) body (body.length : Int) ((i + 1 : Nat) : Int)) (fun k => ?_) (step (by simpa using hn) (by simpa using hj))
      simp only [safe_Order.l1]
      rw [if_pos (lt_cast hlt), if_pos (nn_cast i), if_pos (lt_cast hlt), if_pos (lt_cast hlt2), rdOf_bool hlt2, htk, if_pos rfl, wrap_succ i (by omega)]
    | false =>
      rw [htk] at hn hj
      simp only [Bool.false_eq_true, if_false] at hn hj
      cases hr : ready body[i] l with
      | false =>
        rw [hr] at hn hj
        refine Ev.step (f := fun k => safe_Order.l1 k body l taken (out.map Int.ofNat) body (body.length : Int) ((i + 1 : Nat) : Int)) (fun k => ?_) (step (by simpa using hn) (by simpa using hj))
        simp only [safe_Order.l1]
        rw [if_pos (lt_cast hlt), if_pos (nn_cast i), if_pos (lt_cast hlt), if_pos (lt_cast hlt2), rdOf_bool hlt2, htk, if_neg (by decide), rd43_nat hlt, safe_ready_eq, hr, Option.bind_some, if_neg (by decide), wrap_succ i (by omega)]
      | true =>
        rw [hr] at hn hj
        have h1 := hj i (by simp)
        rw [eb] at h1
        refine Ev.step (f := fun k => (safe_Binds.f k (body[i].f0) (body[i].f1.f0) (body[i].f1.f1) (body[i].f2) (body[i].f3.f0) (body[i].f3.f1.f0) (body[i].f3.f1.f1) (body[i].f3.f1.f2) (body[i].f4.f0) (body[i].f4.f1.f0) (body[i].f4.f1.f1) (body[i].f4.f1.f2) (body[i].f5.f0) (body[i].f5.f1.f0) (body[i].f5.f1.f1) (body[i].f5.f1.f2) (body[i].f6) l).bind fun t => safe_Order.l0 k body t (taken.set i true) (out.map Int.ofNat ++ [(i : Int)])) (fun k => ?_)
          (Ev.bind (f := fun k t => safe_Order.l0 k body t (taken.set i true) (out.map Int.ofNat ++ [(i : Int)])) (safe_Binds_ev body[i] l (by have := hs.2 body[i] (List.getElem_mem hlt); omega) (by omega)) h1)
        simp only [safe_Order.l1]
        rw [if_pos (lt_cast hlt), if_pos (nn_cast i), if_pos (lt_cast hlt), if_pos (lt_cast hlt2), rdOf_bool hlt2, htk, if_neg (by decide), rd43_nat hlt, safe_ready_eq, hr, Option.bind_some, if_pos rfl, if_pos (by simp; omega)]
        rfl
theorem safe_l0 (body : List S43) (hs : Small body) (n : Nat) : ∀ (l : List ByteArray) (taken : List Bool) (out : List Nat), out.length + n = body.length → taken.length = body.length → l.length + 13 * n < 100000 →
    Ev (fun k => safe_Order.l0 k body l taken (out.map Int.ofNat)) (told (run body n taken l out)) := by
  have hb := hs.1
  induction n with
  | zero =>
    intro l taken out ho ht hl
    refine Ev.step (f := fun _ => some (out.map Int.ofNat, l, 0)) (fun k => ?_) (Ev.now _)
    simp only [safe_Order.l0]
    rw [if_neg (by simp; omega)]
  | succ n ih =>
    intro l taken out ho ht hl
    refine Ev.step (f := fun k => safe_Order.l1 k body l taken (out.map Int.ofNat) body (body.length : Int) 0) (fun k => ?_) ?_
    · simp only [safe_Order.l0]
      rw [if_pos (by simp; omega)]
    · refine safe_l1 body hs l taken out ht (by omega) (by omega) _ body.length 0 (by omega) (fun h => ?_) (fun j h => ?_)
      · unfold run; rw [h]
      · unfold run
        rw [h]
        obtain ⟨_, h2, _⟩ := pick_spec h
        have hj : j < body.length := by omega
        have eb : body.getD j z43 = body[j] := by simp [List.getD, List.getElem?_eq_getElem hj]
        have hlen := next_length (body.getD j z43) l (by rw [eb]; exact hs.2 _ (List.getElem_mem hj))
        have := ih (next (body.getD j z43) l) (taken.set j true) (out ++ [j]) (by simp; omega) (by simpa using ht) (by omega)
        simpa using this
theorem safe_Order_ev (body : List S43) (hs : Small body) (bound : List ByteArray) (hl : bound.length < 90000) : Ev (fun k => safe_Order.f k body bound) (told (order body bound)) := by
  have hb := hs.1
  have hn : (names bound).length ≤ bound.length := length_nset slo bound
  have h1 := safe_names_ev [] bound (by simp) (by omega)
  have e : bound ++ vars [] = bound := by simp [vars]
  rw [e] at h1
  refine Ev.congr (fun k => ?_) (Ev.bind (f := fun k t => safe_Order.l0 k body t (List.replicate body.length false) []) h1 (safe_l0 body hs body.length (names bound) (List.replicate body.length false) [] (by simp) (by simp) (by omega)))
  unfold safe_Order.f
  congr 1
  funext t
  rw [if_pos (by omega), if_pos (by simp; omega)]
  simp

/-! ### the document's -/
theorem ref_l1b (body : List S43) (hs : Small body) (l : List ByteArray) (taken : List Bool) (outI : List Int) (ht : taken.length = body.length) (hl : l.length < 100000) (ho : outI.length < 1000) (j : Nat) (hjb : j < body.length) (R : List Int × List ByteArray × Int)
    (h : Ev (fun k => antecedentref11_Order.l0 k body (next (body.getD j z43) l) (outI ++ [(j : Int)]) (taken.set j true)) R) (d : Nat) :
    ∀ i : Nat, i + d = body.length → Ev (fun k => antecedentref11_Order.l1 k body l outI taken (j : Int) (body.length : Int) (i : Int)) R := by
  have hb := hs.1
  have eb : body.getD j z43 = body[j] := by simp [List.getD, List.getElem?_eq_getElem hjb]
  rw [eb] at h
  induction d with
  | zero =>
    intro i hi
    refine Ev.step (f := fun k => (antecedentref11_Binds.f k (body[j].f0) (body[j].f1.f0) (body[j].f1.f1) (body[j].f2) (body[j].f3.f0) (body[j].f3.f1.f0) (body[j].f3.f1.f1) (body[j].f3.f1.f2) (body[j].f4.f0) (body[j].f4.f1.f0) (body[j].f4.f1.f1) (body[j].f4.f1.f2) (body[j].f5.f0) (body[j].f5.f1.f0) (body[j].f5.f1.f1) (body[j].f5.f1.f2) (body[j].f6) l).bind fun t => antecedentref11_Order.l0 k body t (outI ++ [(j : Int)]) (taken.set j true)) (fun k => ?_)
      (Ev.bind (f := fun k t => antecedentref11_Order.l0 k body t (outI ++ [(j : Int)]) (taken.set j true)) (ref_Binds_ev body[j] l (by have := hs.2 body[j] (List.getElem_mem hjb); omega) (by omega)) h)
    simp only [antecedentref11_Order.l1]
    rw [if_neg (nlt_cast (by omega)), if_neg (by omega), if_pos (nn_cast j), if_pos (by omega), if_pos (by omega), if_pos (lt_cast hjb), rd43_nat hjb]
    rfl
  | succ d ih =>
    intro i hi
    have hlt : i < body.length := by omega
    refine Ev.step (f := fun k => antecedentref11_Order.l1 k body l outI taken (j : Int) (body.length : Int) ((i + 1 : Nat) : Int)) (fun k => ?_) (ih (i + 1) (by omega))
    simp only [antecedentref11_Order.l1]
    rw [if_pos (lt_cast hlt), if_neg (by omega), wrap_succ i (by omega)]
theorem ref_l1 (body : List S43) (hs : Small body) (l : List ByteArray) (taken : List Bool) (out : List Nat) (ht : taken.length = body.length) (hl : l.length < 100000) (ho : out.length < 1000) (R : Option (List Nat × List ByteArray)) (d : Nat) :
    ∀ i : Nat, i + d = body.length → (pick body taken l d i = none → R = none) →
    (∀ j, pick body taken l d i = some j → Ev (fun k => antecedentref11_Order.l0 k body (next (body.getD j z43) l) (out.map Int.ofNat ++ [(j : Int)]) (taken.set j true)) (told R)) →
    Ev (fun k => antecedentref11_Order.l1 k body l (out.map Int.ofNat) taken (-1) (body.length : Int) (i : Int)) (told R) := by
  have hb := hs.1
  induction d with
  | zero =>
    intro i hi hn _
    rw [hn rfl]
    refine Ev.step (f := fun _ => some ([], [], 7)) (fun k => ?_) (Ev.now _)
    simp only [antecedentref11_Order.l1]
    rw [if_neg (nlt_cast (by omega)), if_pos (by decide)]
  | succ d ih =>
    intro i hi hn hj
    have hlt : i < body.length := by omega
    have hlt2 : i < taken.length := by omega
    have eb : body.getD i z43 = body[i] := by simp [List.getD, List.getElem?_eq_getElem hlt]
    have et : taken.getD i false = taken[i] := by simp [List.getD, List.getElem?_eq_getElem hlt2]
    unfold pick at hn hj
    rw [et, eb] at hn hj
    have step : (pick body taken l d (i + 1) = none → R = none) → (∀ j, pick body taken l d (i + 1) = some j → Ev (fun k => antecedentref11_Order.l0 k body (next (body.getD j z43) l) (out.map Int.ofNat ++ [(j : Int)]) (taken.set j true)) (told R)) →
        Ev (fun k => antecedentref11_Order.l1 k body l (out.map Int.ofNat) taken (-1) (body.length : Int) ((i + 1 : Nat) : Int)) (told R) := ih (i + 1) (by omega)
    cases htk : taken[i] with
    | true =>
      rw [htk] at hn hj
      refine Ev.step (f := fun k => antecedentref11_Order.l1 k body l (out.map Int.ofNat) taken (-1) (body.length : Int) ((i + 1 : Nat) : Int)) (fun k => ?_) (step (by simpa using hn) (by simpa using hj))
      simp only [antecedentref11_Order.l1]
      rw [if_pos (lt_cast hlt), if_pos (by decide), if_pos (nn_cast i), if_pos (lt_cast hlt2), rdOf_bool hlt2, htk, if_pos rfl, wrap_succ i (by omega)]
    | false =>
      rw [htk] at hn hj
      simp only [Bool.false_eq_true, if_false] at hn hj
      have hargs := hs.2 body[i] (List.getElem_mem hlt)
      refine Ev.step (f := fun k => (antecedentref11_Ready.f k (body[i].f0) (body[i].f1.f0) (body[i].f1.f1) (body[i].f2) (body[i].f3.f0) (body[i].f3.f1.f0) (body[i].f3.f1.f1) (body[i].f3.f1.f2) (body[i].f4.f0) (body[i].f4.f1.f0) (body[i].f4.f1.f1) (body[i].f4.f1.f2) (body[i].f5.f0) (body[i].f5.f1.f0) (body[i].f5.f1.f1) (body[i].f5.f1.f2) (body[i].f6) l).bind fun t => if t = true then antecedentref11_Order.l1 k body l (out.map Int.ofNat) taken (i : Int) (body.length : Int) ((i + 1 : Nat) : Int) else antecedentref11_Order.l1 k body l (out.map Int.ofNat) taken (-1) (body.length : Int) ((i + 1 : Nat) : Int)) (fun k => ?_)
        (Ev.bind (f := fun k t => if t = true then antecedentref11_Order.l1 k body l (out.map Int.ofNat) taken (i : Int) (body.length : Int) ((i + 1 : Nat) : Int) else antecedentref11_Order.l1 k body l (out.map Int.ofNat) taken (-1) (body.length : Int) ((i + 1 : Nat) : Int)) (ref_Ready_ev body[i] l (by omega) (by omega)) ?_)
      · simp only [antecedentref11_Order.l1]
        rw [if_pos (lt_cast hlt), if_pos (by decide), if_pos (nn_cast i), if_pos (lt_cast hlt2), rdOf_bool hlt2, htk, if_neg (by decide), if_pos (lt_cast hlt), rd43_nat hlt, wrap_succ i (by omega)]
      · cases hr : ready body[i] l with
        | false =>
          rw [hr] at hn hj
          simpa using step (by simpa using hn) (by simpa using hj)
        | true =>
          rw [hr] at hn hj
          have h1 := hj i (by simp)
          simpa using ref_l1b body hs l taken (out.map Int.ofNat) ht hl (by simpa using ho) i hlt _ h1 d (i + 1) (by omega)
theorem ref_l0 (body : List S43) (hs : Small body) (n : Nat) : ∀ (l : List ByteArray) (taken : List Bool) (out : List Nat), out.length + n = body.length → taken.length = body.length → l.length + 13 * n < 100000 →
    Ev (fun k => antecedentref11_Order.l0 k body l (out.map Int.ofNat) taken) (told (run body n taken l out)) := by
  have hb := hs.1
  induction n with
  | zero =>
    intro l taken out ho ht hl
    refine Ev.step (f := fun _ => some (out.map Int.ofNat, l, 0)) (fun k => ?_) (Ev.now _)
    simp only [antecedentref11_Order.l0]
    rw [if_neg (by simp; omega)]
  | succ n ih =>
    intro l taken out ho ht hl
    refine Ev.step (f := fun k => antecedentref11_Order.l1 k body l (out.map Int.ofNat) taken (-1) (body.length : Int) 0) (fun k => ?_) ?_
    · simp only [antecedentref11_Order.l0]
      rw [if_pos (by simp; omega)]
    · refine ref_l1 body hs l taken out ht (by omega) (by omega) _ body.length 0 (by omega) (fun h => ?_) (fun j h => ?_)
      · unfold run; rw [h]
      · unfold run
        rw [h]
        obtain ⟨_, h2, _⟩ := pick_spec h
        have hj : j < body.length := by omega
        have eb : body.getD j z43 = body[j] := by simp [List.getD, List.getElem?_eq_getElem hj]
        have hlen := next_length (body.getD j z43) l (by rw [eb]; exact hs.2 _ (List.getElem_mem hj))
        have := ih (next (body.getD j z43) l) (taken.set j true) (out ++ [j]) (by simp; omega) (by simpa using ht) (by omega)
        simpa using this
theorem ref_Order_ev (body : List S43) (hs : Small body) (bound : List ByteArray) (hl : bound.length < 90000) : Ev (fun k => antecedentref11_Order.f k body bound) (told (order body bound)) := by
  have hb := hs.1
  have hn : (names bound).length ≤ bound.length := length_nset slo bound
  have h1 := names_ev [] bound (by simp) (by omega)
  have e : bound ++ vars [] = bound := by simp [vars]
  rw [e] at h1
  refine Ev.congr (fun k => ?_) (Ev.bind (f := fun k t => antecedentref11_Order.l0 k body t [] (List.replicate body.length false)) h1 (ref_l0 body hs body.length (names bound) (List.replicate body.length false) [] (by simp) (by simp) (by omega)))
  unfold antecedentref11_Order.f
  congr 1
  funext t
  rw [if_pos (by omega), if_pos (by simp; omega)]
  simp
end Go.Proofs.Ytmgbfgloegcloaa.Pu
