/- HOW A LAW'S WALK IS LIFTED INTO ITS ROW, WHATEVER THE PROGRAM: it returns true, and nothing that was there has turned. No condition. -/
import Derived.WalkKit
import Derived.ProofKit
import Derived.OpenShut
import Derived.Carry
import Derived.Test.YtmgbfgloegcloaaPs0
import Derived.Test.YtmgbfgloegcloaaOpens
import Derived.Test.YtmgbfgloegcloaaPu6
import Derived.Test.YtmgbfgloegcloaaRows
import Derived.Test.YtmgbfgloegcloaaPs24
namespace Go.LawKit
open Go.ChangeShapes Go.RowKit
variable {H : Type} {enc : TypeId × Value → H} {P : Program}

/-- what all arguments read as, they read as behind a call that has turned nothing -/
theorem trodAll_below (hl : laidOutB P = true) {W W' : World} (hb : Below W.heap.size W W') :
    ∀ {ts : List TypeId} {vs : List Value} {ds : List (DataW H)} {ps : List MemPlace}, (ts.all fun t => P.readableRec t && decide (t < P.types.size)) = true →
      DataW.TrodAll enc P W 0 (fun _ => true) true ts vs ds ps → (∀ x ∈ ps, x.block < W.heap.size) →
      DataW.TrodAll enc P W' 0 (fun b => decide (b < W.heap.size)) true ts vs ds ps
  | [], [], [], _, _, h, _ => h
  | [], [], _ :: _, _, _, h, _ => h.elim
  | [], _ :: _, [], _, _, h, _ => h.elim
  | [], _ :: _, _ :: _, _, _, h, _ => h.elim
  | _ :: _, [], [], _, _, h, _ => h.elim
  | _ :: _, [], _ :: _, _, _, h, _ => h.elim
  | _ :: _, _ :: _, [], _, _, h, _ => h.elim
  | t :: ts, v :: vs, d :: ds, ps, hr, h, hlt => by
    obtain ⟨p, q, h1, h2, rfl⟩ := h
    simp only [List.all_cons, Bool.and_eq_true, decide_eq_true_eq] at hr
    exact ⟨p, q, Below.trod hl hr.1.1 hr.1.2 h1 hb (fun x hx => hlt x (List.mem_append_left _ hx)),
      trodAll_below hl hb (by simpa using hr.2) h2 (fun x hx => hlt x (List.mem_append_right _ hx)), rfl⟩

/-- A LAW's POST: it returned true; each argument reads as it did. -/
theorem post_law {f : Func} {s : ChangeSpec} {W W' : World} {args : Array Value} {ds gs : List (DataW H)} {before : List MemPlace} {b : TypeId}
    (hl : laidOutB P = true) (hps : (f.params.toList.all fun t => P.readableRec t && decide (t < P.types.size)) = true)
    (hres : f.resultTypes = #[b]) (hb : P.underlying b = some .bool) (hv : s.vars = [])
    (hW : DataW.Whole enc P f.params.toList s.vars false W args.toList ds gs before)
    (hsp : (s.fn H (ds ++ [])).results = [.lit (.bool true)] ∧ (s.fn H (ds ++ [])).args = ds ∧ (s.fn H (ds ++ [])).vars = [])
    (hg : Below W.heap.size W W') : s.post enc P f false true false false W args (.bool true) W' := by
  have hlt := hW.lt
  have hW0 := hW
  obtain ⟨p, q, hA, hV, rfl, hfz, hnd⟩ := hW
  rw [hv] at hV
  obtain ⟨rfl, rfl⟩ := trodVars_none hV
  refine ⟨ds, [], p ++ [], [], p, [], hW0, ?_, ?_, ?_, hg.frame _, fun h => by cases h⟩
  · rw [hsp.1, hres]
    have : (Value.bool true).resultList #[b].size = [.bool true] := rfl
    rw [this]
    exact trodAll_mk1 (shut_bool hb true)
  · rw [hsp.2.1]
    exact trodAll_below hl hg hps hA (fun x hx => hlt x (by simpa using hx))
  · rw [hsp.2.2, hv]; rfl
end Go.LawKit

/- HOW THE ARGUMENTS OF THE LAWS ARE READ: literals and names. No condition. -/
namespace Go.Proofs.Ytmgbfgloegcloaa.Ps
open Go.RowKit Go.ChangeShapes Go.WideShapes Go.Proofs.YtmgbfgloegcloaaW.PrintWords Go.Proofs.YtmgbfgloegcloaaW.Opens

theorem opens38 : ∃ Wf, Opens Try.prog 38 k38 Wf := by
  apply Exists.intro
  apply Opens.struct (g := fun x => ⟨x.1, x.2.1, x.2.2⟩) Try.underlying38 (by kernel_rfl) (fun _ => rfl)
  apply OpensAt.cons
  · rfl
  · kernel_rfl
  · exact @Opens.int _ _ _ Try.underlying3
  apply OpensAt.cons
  · rfl
  · kernel_rfl
  · exact @Opens.int _ _ _ Try.underlying2
  apply OpensAt.last
  · rfl
  · kernel_rfl
  · exact @Opens.string _ _ Try.underlying9
theorem opens82 : ∃ Wf, Opens Try.prog 82 k82 Wf := by
  apply Exists.intro
  apply Opens.struct (g := fun x => ⟨x.1, x.2⟩) Try.underlying82 (by kernel_rfl) (fun _ => rfl)
  apply OpensAt.cons
  · rfl
  · kernel_rfl
  · exact @Opens.int _ _ _ Try.underlying3
  apply OpensAt.last
  · rfl
  · kernel_rfl
  · exact @Opens.string _ _ Try.underlying9
theorem opens40 : ∃ Wf, Opens Try.prog 40 k40 Wf := by
  obtain ⟨_, h38⟩ := opens38
  apply Exists.intro
  apply Opens.struct (g := fun x => ⟨x.1, x.2⟩) Try.underlying40 (by kernel_rfl) (fun _ => rfl)
  apply OpensAt.cons
  · rfl
  · kernel_rfl
  · exact @Opens.string _ _ Try.underlying9
  apply OpensAt.last
  · rfl
  · kernel_rfl
  · exact @h38
theorem opens36 : ∃ Wf, Opens Try.prog 36 k36 Wf := by
  obtain ⟨_, h40⟩ := opens40
  apply Exists.intro
  apply Opens.struct (g := fun x => ⟨x.1, x.2⟩) Try.underlying36 (by kernel_rfl) (fun _ => rfl)
  apply OpensAt.cons
  · rfl
  · kernel_rfl
  · exact @Opens.string _ _ Try.underlying9
  apply OpensAt.last
  · rfl
  · kernel_rfl
  · exact @Opens.slice _ _ _ _ _ _ Try.underlying34 (by kernel_rfl) @h40
theorem opens43 : ∃ Wf, Opens Try.prog 43 k43 Wf := by
  obtain ⟨_, h40⟩ := opens40
  obtain ⟨_, h36⟩ := opens36
  obtain ⟨_, h82⟩ := opens82
  apply Exists.intro
  apply Opens.struct (g := fun x => ⟨x.1, x.2.1, x.2.2.1, x.2.2.2.1, x.2.2.2.2.1, x.2.2.2.2.2.1, x.2.2.2.2.2.2⟩) Try.underlying43 (by kernel_rfl) (fun _ => rfl)
  apply OpensAt.cons
  · rfl
  · kernel_rfl
  · exact @Opens.int _ _ _ Try.underlying3
  apply OpensAt.cons
  · rfl
  · kernel_rfl
  · exact @h36
  apply OpensAt.cons
  · rfl
  · kernel_rfl
  · exact @Opens.string _ _ Try.underlying9
  apply OpensAt.cons
  · rfl
  · kernel_rfl
  · exact @h40
  apply OpensAt.cons
  · rfl
  · kernel_rfl
  · exact @h40
  apply OpensAt.cons
  · rfl
  · kernel_rfl
  · exact @h40
  apply OpensAt.last
  · rfl
  · kernel_rfl
  · exact @Opens.slice _ _ _ _ _ _ Try.underlying41 (by kernel_rfl) @h82
theorem opens22 : ∃ Wf, Opens Try.prog 22 (Kd.slice 43 k43) Wf := by
  obtain ⟨_, h⟩ := opens43
  apply Exists.intro
  exact @Opens.slice _ _ _ _ _ _ Try.underlying22 (by kernel_rfl) @h
theorem opens23 : ∃ Wf, Opens Try.prog 23 (Kd.slice 9 Kd.string) Wf := by
  apply Exists.intro
  exact @Opens.slice _ _ _ _ _ _ Try.underlying23 (by kernel_rfl) (@Opens.string _ _ Try.underlying9)

/-- an argument that is a slice, read -/
theorem open_slice_of {P : Program} {α : Type} {H : Type} {enc : TypeId × Value → H} {w : World} {r : Reach} {b base : Nat} {sp : Nat → Bool} {held : Bool} {t e : TypeId} {d : Kd α} {v : Value} {x : DataW H} {ps : List MemPlace}
    (ho : ∃ Wf, Opens P t (Kd.slice e d) Wf) (ht : P.underlying t = some (.slice e)) (hval : Value.okWide P w r b t v) (hd : DataW.Trod enc P w base sp held t v x ps) :
    ∃ (A : Option Addr) (c : Nat) (l : List α), v = .slice A l.length c ∧ l.length ≤ c ∧ Kd.C d w A l.length l := by
  obtain ⟨Wf, ho⟩ := ho
  obtain ⟨a0, len, cap, rfl⟩ := okWide_slice ht hval
  obtain ⟨fuel, hf⟩ := hd
  obtain ⟨l, ⟨A, c, e1, hl, hC⟩, _⟩ := ho enc w base sp held fuel _ _ hf
  simp [Value.cells] at e1
  obtain ⟨rfl, rfl, rfl⟩ := e1
  exact ⟨_, _, l, rfl, hl, hC⟩
end Go.Proofs.Ytmgbfgloegcloaa.Ps

/- SafeMore: what the law computes is true. No program's memory in sight. -/
namespace Go.Proofs.Ytmgbfgloegcloaa.Pu
open Go.RowKit Go.Proofs.YtmgbfgloegcloaaW.PrintWords Go.Proofs.YtmgbfgloegcloaaW.PrintLast Go.Proofs.Ytmgbfgloegcloaa.Ps AnteSet

theorem chain_length {body : List S43} (hs : Small body) : ∀ {r : List Nat} {taken : List Bool} {l v : List ByteArray}, Chain body taken l r v → v.length ≤ l.length + 13 * r.length
  | [], _, _, _, h => by
    have h : _ = _ := h
    rw [h]; simp
  | i :: r, taken, l, v, h => by
    obtain ⟨h1, _, _, h4⟩ := h
    have := chain_length hs h4
    have eb : body.getD i z43 = body[i] := by simp [List.getD, List.getElem?_eq_getElem h1]
    have hn := next_length (body.getD i z43) l (by rw [eb]; exact hs.2 _ (List.getElem_mem h1))
    rw [List.length_cons]
    omega
theorem order_length {body : List S43} (hs : Small body) {bound : List ByteArray} {o : List Nat} {v : List ByteArray} (h : order body bound = some (o, v)) : v.length ≤ bound.length + 13 * body.length := by
  unfold order at h
  obtain ⟨r, _, hr, hc⟩ := run_chain h
  have := chain_length hs hc
  have hn : (names bound).length ≤ bound.length := length_nset slo bound
  rw [hr] at this
  omega
theorem more_asleep (l0 : List S43) (l1 l2 : List ByteArray) : Ev (fun k => antecedentlaw11_SafeMore.j0 k l0 l1 l2 true) true := by
  refine Ev.step (f := fun k => (antecedentlaw11_awake.f k).bind fun t => some t) (fun k => ?_) (Ev.bind awake_ev (Ev.now _))
  simp only [antecedentlaw11_SafeMore.j0]
  first | rw [if_pos rfl] | simp
theorem more_awake (l0 : List S43) (l1 l2 : List ByteArray) (hs : Small l0) (h1 : l1.length ≤ 20) (h2 : l2.length ≤ 20) : Ev (fun k => antecedentlaw11_SafeMore.j0 k l0 l1 l2 false) true := by
  have e1 := safe_Order_ev l0 hs l1 (by omega)
  have e2 := safe_Order_ev l0 hs (l1 ++ l2) (by rw [List.length_append]; omega)
  obtain ⟨k1, e1⟩ := e1
  obtain ⟨k2, e2⟩ := e2
  cases ho : order l0 l1 with
  | none =>
    rw [ho] at e1
    refine ⟨k1 + k2 + 1, fun k hk => ?_⟩
    obtain ⟨k, rfl⟩ : ∃ j, k = j + 1 := ⟨k - 1, by omega⟩
    simp only [antecedentlaw11_SafeMore.j0]
    rw [if_neg (by decide)]
    refine (congrArg (fun t => Option.bind t _) (e1 k (by omega))).trans ?_
    refine (if_pos (show (0 : Nat) + l1.length < 8796093022208 by omega)).trans ?_
    refine (if_pos (show l1.length + l2.length < 8796093022208 by omega)).trans ?_
    refine (congrArg (fun t => Option.bind t _) (e2 k (by omega))).trans ?_
    rfl
  | some ov =>
    obtain ⟨o, v⟩ := ov
    obtain ⟨o', w, hw, rfl⟩ := order_more (more := l2) ho
    have hv := order_length hs ho
    have hb := hs.1
    have e3 := names_ev [] (v ++ l2) (by simp) (by rw [List.length_append]; omega)
    have e : v ++ l2 ++ vars [] = v ++ l2 := by simp [vars]
    rw [e] at e3
    have hn : (names (v ++ l2)).length ≤ (v ++ l2).length := length_nset slo (v ++ l2)
    rw [List.length_append] at hn
    have e4 := same_ev (names (v ++ l2)) (names (v ++ l2)) (by omega)
    rw [decide_eq_true rfl] at e4
    obtain ⟨k3, e3⟩ := e3
    obtain ⟨k4, e4⟩ := e4
    rw [ho] at e1
    rw [hw] at e2
    refine ⟨k1 + k2 + k3 + k4 + 1, fun k hk => ?_⟩
    obtain ⟨k, rfl⟩ : ∃ j, k = j + 1 := ⟨k - 1, by omega⟩
    simp only [antecedentlaw11_SafeMore.j0]
    rw [if_neg (by decide)]
    refine (congrArg (fun t => Option.bind t _) (e1 k (by omega))).trans ?_
    refine (if_pos (show (0 : Nat) + l1.length < 8796093022208 by omega)).trans ?_
    refine (if_pos (show l1.length + l2.length < 8796093022208 by omega)).trans ?_
    refine (congrArg (fun t => Option.bind t _) (e2 k (by omega))).trans ?_
    rw [Option.bind_some, if_pos (show (told (some (o, v))).2.2 = 0 from rfl), if_pos (show (told (some (o', names (v ++ l2)))).2.2 = 0 from rfl), Option.bind_some,
      if_pos (show ([] : List ByteArray).length + (told (some (o, v))).2.1.length < 8796093022208 by show 0 + v.length < _; omega), Option.bind_some,
      if_pos (show ([] ++ (told (some (o, v))).2.1 : List ByteArray).length + l2.length < 8796093022208 by show v.length + l2.length < _; omega)]
    refine (congrArg (fun t => Option.bind t _) (e3 k (by omega))).trans ?_
    refine (congrArg (fun t => Option.bind t _) (e4 k (by omega))).trans ?_
    rfl
theorem SafeMore_plain (l0 : List S43) (l1 l2 : List ByteArray) : ∃ k, antecedentlaw11_SafeMore.f k l0 l1 l2 = some true := by
  obtain ⟨b, hb, hP⟩ := few_ev l0 l1
  refine Ev.rounds (g := fun k => antecedentlaw11_SafeMore.f k l0 l1 l2) ?_
  refine Ev.congr (fun k => ?_) (Ev.bind (f := fun k t => if t = true then ((antecedentlaw11_few.f k l0 l1).bind fun t382 => (if t382 = true then (antecedentlaw11_SafeMore.j0 k l0 l1 l2 (decide ((l2.length : Int) > 20))) else (antecedentlaw11_SafeMore.j0 k l0 l1 l2 true))) else (antecedentlaw11_SafeMore.j0 k l0 l1 l2 true)) awake_ev ?_)
  · rfl
  · refine Ev.congr (fun k => ?_) (Ev.bind (f := fun k t => (if t = true then (antecedentlaw11_SafeMore.j0 k l0 l1 l2 (decide ((l2.length : Int) > 20))) else (antecedentlaw11_SafeMore.j0 k l0 l1 l2 true))) hb ?_)
    · show (if true = true then _ else _) = _
      rw [if_pos rfl]
    · cases b with
      | false => exact Ev.congr (fun k => by show (if false = true then _ else _) = _; rw [if_neg (by decide)]) (more_asleep l0 l1 l2)
      | true =>
        obtain ⟨hs, h1⟩ := hP rfl
        by_cases h2 : (l2.length : Int) > 20
        · exact Ev.congr (fun k => by show (if true = true then _ else _) = _; rw [if_pos rfl, decide_eq_true h2]) (more_asleep l0 l1 l2)
        · exact Ev.congr (fun k => by show (if true = true then _ else _) = _; rw [if_pos rfl, decide_eq_false h2]) (more_awake l0 l1 l2 hs h1 (by omega))
end Go.Proofs.Ytmgbfgloegcloaa.Pu

/- SafeMore: THE STATEMENT: what the law's code computes, and that this is true, joined. -/
namespace Go.Proofs.Ytmgbfgloegcloaa.safeMore
open Go.ChangeShapes Go.WideShapes Go.ChangeAt Go.RowKit Go.Proofs.YtmgbfgloegcloaaW.PrintWords

theorem own : ownKnob Try.prog.godebug = none := by kernel_rfl
theorem laid_out : laidOutB Try.prog = true := by kernel_rfl

set_option maxRecDepth 100000 in
theorem lifted (os : Os) (started : os.Started) (H : Type) (enc : TypeId × Value → H) :
    ReturnsInHanded {} Try.checked os 5 .any (Rows.safeMoreSpec.pre6 enc Try.prog Try.f5 Rows.safeMoreRow.domain false) (Rows.safeMoreSpec.post enc Try.prog Try.f5 false true false false) := by
  refine returnsInHanded_of_change (C := Try.checked) own started (by kernel_rfl) Try.func5
    (ChangeSpec.witness6 (enc := enc) (C := Try.checked) false ⟨#[], #[.slice none 0 0, .slice none 0 0, .slice none 0 0], []⟩ 8 (by kernel_rfl) (by kernel_rfl) (by kernel_rfl) (by kernel_rfl)) ?_
  intro W base args ds gs before hval0 hW hcnd _
  have hval : ∀ (j : Nat) t v, Try.f5.params[j]? = some t → args[j]? = some v → Value.okWide Try.prog W .any base t v := hval0
  have hW' := hW
  obtain ⟨p, q, hA0, hV, rfl, hfz, hnd⟩ := hW
  have hA : DataW.TrodAll enc Try.prog W 0 (fun _ => true) true Try.f5.params.toList args.toList ds p := hA0
  rw [Try.params5] at hA hval
  obtain ⟨v0, vs0, d0, ds0, p0, q0, hargs, rfl, rfl, h0, r0⟩ := trodAll_cons hA
  obtain ⟨v1, vs1, d1, ds1, p1, q1, rfl, rfl, rfl, h1, r1⟩ := trodAll_cons r0
  obtain ⟨v2, vs2, d2, ds2, p2, q2, rfl, rfl, rfl, h2, r2⟩ := trodAll_cons r1
  obtain ⟨rfl, rfl, rfl⟩ := trodAll_nil r2
  obtain rfl : args = #[v0, v1, v2] := by cases args; simp_all
  obtain ⟨rfl, rfl⟩ := trodVars_none hV
  obtain ⟨A0, c0, l0, rfl, e0, g0⟩ := Ps.open_slice_of Ps.opens22 Try.underlying22 (hval 0 22 v0 rfl rfl) h0
  obtain ⟨A1, c1, l1, rfl, e1, g1⟩ := Ps.open_slice_of Ps.opens23 Try.underlying23 (hval 1 23 v1 rfl rfl) h1
  obtain ⟨A2, c2, l2, rfl, e2, g2⟩ := Ps.open_slice_of Ps.opens23 Try.underlying23 (hval 2 23 v2 rfl rfl) h2
  clear hA0 hval0
  obtain ⟨k, hk⟩ := Pu.SafeMore_plain l0 l1 l2
  refine (Ps.antecedentlaw11_SafeMore.calls k A0 c0 l0 A1 c1 l1 A2 c2 l2 true W g0 e0 g1 e1 g2 e2 hk).mono fun e W' ⟨he, hg⟩ => ?_
  subst he
  exact ⟨_, rfl, LawKit.post_law laid_out (by kernel_rfl) rfl Try.underlying4 rfl hW' ⟨rfl, rfl, rfl⟩ hg⟩

theorem over : Rows.safeMoreRow.holds Try.pinned (OpenSpec.ofChange Rows.safeMoreSpec) :=
  OpenClaim.holds_of_wide 5 Try.f5 rfl rfl rfl rfl rfl rfl rfl ⟨rfl, rfl, rfl, rfl, rfl⟩ rfl rfl rfl rfl rfl (by kernel_rfl) Try.func5 (by kernel_rfl)
    (of_decide_eq_true (by kernel_rfl)) (by unfold Func.isWrapper; first | (rw [if_pos (by decide +kernel)]; kernel_rfl) | (rw [if_neg (by decide +kernel)]; exact ⟨rfl, rfl⟩))
    (fun os started H enc _ => lifted os started H enc)

/-- THE STATEMENT -/
theorem proved : Rows.SafeMoreSaid := over
end Go.Proofs.Ytmgbfgloegcloaa.safeMore
