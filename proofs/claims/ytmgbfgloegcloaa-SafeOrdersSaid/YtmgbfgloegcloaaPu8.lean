/- SafeOrders: what the law computes is true. No program's memory in sight. -/
import Derived.Test.YtmgbfgloegcloaaPu6
namespace Go.Proofs.Ytmgbfgloegcloaa.Pu
open Go.RowKit Go.Proofs.YtmgbfgloegcloaaW.PrintWords Go.Proofs.YtmgbfgloegcloaaW.PrintLast Go.Proofs.Ytmgbfgloegcloaa.Ps AnteSet

theorem chain_length8 {body : List S43} (hs : Small body) : ∀ {r : List Nat} {taken : List Bool} {l v : List ByteArray}, Chain body taken l r v → v.length ≤ l.length + 13 * r.length
  | [], _, _, _, h => by
    have h : _ = _ := h
    rw [h]; simp
  | i :: r, taken, l, v, h => by
    obtain ⟨h1, _, _, h4⟩ := h
    have := chain_length8 hs h4
    have eb : body.getD i z43 = body[i] := by simp [List.getD, List.getElem?_eq_getElem h1]
    have hn := next_length (body.getD i z43) l (by rw [eb]; exact hs.2 _ (List.getElem_mem h1))
    rw [List.length_cons]
    omega
theorem order_length8 {body : List S43} (hs : Small body) {bound : List ByteArray} {o : List Nat} {v : List ByteArray} (h : order body bound = some (o, v)) : v.length ≤ bound.length + 13 * body.length := by
  unfold order at h
  obtain ⟨r, _, hr, hc⟩ := run_chain h
  have := chain_length8 hs hc
  have hn : (names bound).length ≤ bound.length := length_nset slo bound
  rw [hr] at this
  omega
theorem orders_l0 (body : List S43) (hs : Small body) (bound : List ByteArray) (hb : bound.length ≤ 20) (o : List Int) (ho : o.length ≤ body.length) (d : Nat) :
    ∀ i : Nat, i + d = o.length → Ev (fun k => antecedentlaw11_SafeOrders.l0 k body bound o o (o.length : Int) (i : Int)) true := by
  have hbl := hs.1
  induction d with
  | zero =>
    intro i hi
    refine Ev.step (f := fun _ => some true) (fun k => ?_) (Ev.now _)
    simp only [antecedentlaw11_SafeOrders.l0]
    rw [if_neg (nlt_cast (by omega))]
  | succ d ih =>
    intro i hi
    have hlt : i < o.length := by omega
    have hlb : i < body.length := by omega
    have hx := hs.2 _ (List.getElem_mem hlb)
    have hv : (names (vars (terms body[i]))).length ≤ (vars (terms body[i])).length := length_nset slo _
    have hv2 := vars_length (terms body[i])
    rw [terms_length] at hv2
    have hw : (names (bound ++ vars (terms body[i]))).length ≤ (bound ++ vars (terms body[i])).length := length_nset slo _
    rw [List.length_append] at hw
    have e3 := same_ev (names (vars (terms body[i]))) (names (vars (terms body[i]))) (by omega)
    have e6 := same_ev (names (bound ++ vars (terms body[i]))) (names (bound ++ vars (terms body[i]))) (by omega)
    rw [decide_eq_true rfl] at e3 e6
    obtain ⟨k1, e1⟩ := safe_Vars_ev body[i] (by omega)
    obtain ⟨k2, e2⟩ := ref_Vars_ev body[i] (by omega)
    obtain ⟨k3, e3⟩ := e3
    obtain ⟨k4, e4⟩ := safe_Binds_ev body[i] bound (by omega) (by omega)
    obtain ⟨k5, e5⟩ := ref_Binds_ev body[i] bound (by omega) (by omega)
    obtain ⟨k6, e6⟩ := e6
    obtain ⟨k7, e7⟩ := ih (i + 1) (by omega)
    refine ⟨k1 + k2 + k3 + k4 + k5 + k6 + k7 + 1, fun k hk => ?_⟩
    obtain ⟨k, rfl⟩ : ∃ j, k = j + 1 := ⟨k - 1, by omega⟩
    simp only [antecedentlaw11_SafeOrders.l0]
    rw [if_pos (lt_cast hlt), if_pos (nn_cast i), if_pos (lt_cast hlt), if_pos (lt_cast hlt), if_pos trivial, if_pos (lt_cast hlb), rd43_nat hlb]
    refine (congrArg (fun t => Option.bind t _) (e1 k (by omega))).trans ?_
    refine (congrArg (fun t => Option.bind t _) (e2 k (by omega))).trans ?_
    refine (congrArg (fun t => Option.bind t _) (e3 k (by omega))).trans ?_
    rw [Option.bind_some, if_pos rfl]
    refine (congrArg (fun t => Option.bind t _) (e4 k (by omega))).trans ?_
    refine (congrArg (fun t => Option.bind t _) (e5 k (by omega))).trans ?_
    refine (congrArg (fun t => Option.bind t _) (e6 k (by omega))).trans ?_
    rw [Option.bind_some, if_pos rfl, wrap_succ i (by omega)]
    exact e7 k (by omega)
theorem SafeOrders_plain (l0 : List S43) (l1 : List ByteArray) : ∃ k, antecedentlaw11_SafeOrders.f k l0 l1 = some true := by
  obtain ⟨t, hb, hP⟩ := few_ev l0 l1
  obtain ⟨k1, h1⟩ := awake_ev
  obtain ⟨k2, h2⟩ := hb
  cases t with
  | false =>
    refine ⟨k1 + k2, ?_⟩
    unfold antecedentlaw11_SafeOrders.f
    refine (congrArg (fun t => Option.bind t _) (h1 (k1 + k2) (by omega))).trans ?_
    rw [Option.bind_some, if_pos rfl]
    refine (congrArg (fun t => Option.bind t _) (h2 (k1 + k2) (by omega))).trans ?_
    rw [Option.bind_some, if_neg (by decide)]
    refine (congrArg (fun t => Option.bind t _) (h1 (k1 + k2) (by omega))).trans ?_
    rfl
  | true =>
    obtain ⟨hs, hl⟩ := hP rfl
    have hbl := hs.1
    have ⟨ho, hv⟩ : (told (order l0 l1)).1.length ≤ l0.length ∧ (told (order l0 l1)).2.1.length ≤ 2000 := by
      cases ho : order l0 l1 with
      | none => exact ⟨Nat.zero_le _, Nat.zero_le _⟩
      | some ov =>
        obtain ⟨o, v⟩ := ov
        have hv := order_length8 hs ho
        unfold order at ho
        obtain ⟨r, e, hr, _⟩ := run_chain ho
        refine ⟨?_, ?_⟩
        · show (o.map Int.ofNat).length ≤ _
          rw [List.length_map, e, List.nil_append, hr]
          exact Nat.le_refl _
        · show v.length ≤ 2000
          omega
    obtain ⟨k3, e1⟩ := safe_Order_ev l0 hs l1 (by omega)
    obtain ⟨k4, e2⟩ := ref_Order_ev l0 hs l1 (by omega)
    have e3 := same_ev (told (order l0 l1)).2.1 (told (order l0 l1)).2.1 (by omega)
    rw [decide_eq_true rfl] at e3
    obtain ⟨k5, e3⟩ := e3
    obtain ⟨k6, e4⟩ := orders_l0 l0 hs l1 hl (told (order l0 l1)).1 ho (told (order l0 l1)).1.length 0 (by omega)
    refine ⟨k1 + k2 + k3 + k4 + k5 + k6 + 1, ?_⟩
    unfold antecedentlaw11_SafeOrders.f
    refine (congrArg (fun t => Option.bind t _) (h1 _ (by omega))).trans ?_
    rw [Option.bind_some, if_pos rfl]
    refine (congrArg (fun t => Option.bind t _) (h2 _ (by omega))).trans ?_
    rw [Option.bind_some, if_pos rfl]
    refine (congrArg (fun t => Option.bind t _) (e1 _ (by omega))).trans ?_
    refine (congrArg (fun t => Option.bind t _) (e2 _ (by omega))).trans ?_
    rw [Option.bind_some, if_pos rfl, if_pos rfl]
    refine (congrArg (fun t => Option.bind t _) (e3 _ (by omega))).trans ?_
    rw [Option.bind_some]
    simp only [antecedentlaw11_SafeOrders.j0]
    rw [if_neg (by decide)]
    exact e4 _ (by omega)
end Go.Proofs.Ytmgbfgloegcloaa.Pu
