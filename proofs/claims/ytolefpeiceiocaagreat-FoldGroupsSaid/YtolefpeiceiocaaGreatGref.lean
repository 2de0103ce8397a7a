/- ref20.Of: WHAT VALUES ARE FOLDED TO, BY THE DOCUMENT: what fold.Of computes. Condition: values as Go may have them, fewer than a million. -/
import Derived.Test.YtolefpeiceiocaaGreatPrsum
import Derived.Test.YtolefpeiceiocaaGreatPof
import Derived.Test.YtolefpeiceiocaaGreatV3
import Derived.Test.YtolefpeiceiocaaGreatW5
namespace AnteFlo
theorem alike_back {b : Nat} (hb : b < 18446744073709551616) : alike b (back (code b)) := by
  rcases word_cases hb with h | ⟨s, r, hr, rfl⟩
  · refine .inr ⟨h, ?_⟩
    rw [code_nan h, isNan_back]
    simp
  · refine .inl ?_
    rw [code_word s hr, back_code s hr]
end AnteFlo
namespace Go.Proofs.YtolefpeiceiocaaGreat.Ps
open Go Go.RowKit Go.Proofs.YtolefpeiceiocaaGreatW.PrintWords Go.Proofs.YtolefpeiceiocaaGreatW.PrintLast AnteFlo
set_option linter.unusedVariables false

def antecedentref20_Of.f (kind : Int) (l : List Sv) : Option (Int × Int × ByteArray × Int) := if okL l ∧ inI kind then some (four (ofP kind l)) else none

/-- What the walk keeps: the set's values, and the result's box, empty. -/
structure RS (w0 w : World) (g : Nat) (A : Option Addr) (S : List Sv) : Prop where
  C : Kd.C k25 w A S.length S
  B : w.heap[g]? = some (.cells #[.int .i64 0, .int .i64 0, .string (⟨#[]⟩ : ByteArray)] 25 (0, 0))
  hb : Below w0.heap.size w0 w
  ge : w0.heap.size ≤ g
theorem RS.below {w0 w w' : World} {g : Nat} {A : Option Addr} {S : List Sv} (h : RS w0 w g A S) (hb : Below w.heap.size w w') : RS w0 w' g A S :=
  ⟨Kd.C_below h.C hb, blk_below h.B hb, h.hb.trans (hb.mono h.hb.size), h.ge⟩
theorem RS.cells {w0 w : World} {g : Nat} {A : Option Addr} {S : List Sv} (h : RS w0 w g A S) :
    (w.cell? ⟨g, 0, none⟩ = some (.int .i64 0) ∧ w.cell? ⟨g, 1, none⟩ = some (.int .i64 0) ∧ w.cell? ⟨g, 2, none⟩ = some (.string (⟨#[]⟩ : ByteArray))) ∧ w.frozen? ⟨g, 0, none⟩ = false ∧ w.frozen? ⟨g, 1, none⟩ = false ∧ w.frozen? ⟨g, 2, none⟩ = false :=
  ⟨⟨blk_cell h.B 0, blk_cell h.B 1, blk_cell h.B 2⟩, blk_frozen h.B 0, blk_frozen h.B 1, blk_frozen h.B 2⟩
/-- A value's cells. -/
theorem RS.at {w0 w : World} {g : Nat} {A : Option Addr} {S : List Sv} (h : RS w0 w g A S) (i : Nat) (hi : i < S.length) :
    ∃ ad, A = some ad ∧ w.cell? (ad.add (i * 3)) = some (.int .i64 S[i].f0) ∧ w.cell? ⟨(ad.add (i * 3)).block, (ad.add (i * 3)).off + 1, none⟩ = some (.int .i64 S[i].f1) ∧ w.cell? ⟨(ad.add (i * 3)).block, (ad.add (i * 3)).off + 2, none⟩ = some (.string S[i].f2) := by
  have := at_T25 h.C (i : Int) (by omega) (by omega)
  rw [rd_get hi, Int.toNat_natCast] at this
  exact this

theorem RS.head {w0 w : World} {g : Nat} {A : Option Addr} {S : List Sv} (h : RS w0 w g A S) (hi : 0 < S.length) :
    ∃ ad, A = some ad ∧ w.cell? ad = some (.int .i64 S[0].f0) ∧ w.cell? ⟨ad.block, ad.off + 1, none⟩ = some (.int .i64 S[0].f1) ∧ w.cell? ⟨ad.block, ad.off + 2, none⟩ = some (.string S[0].f2) := by
  obtain ⟨ad, e, h0, h1, h2⟩ := h.at 0 hi
  have e0 : ad.add (0 * 3) = ad := by unfold Addr.add; simp
  rw [e0] at h0 h1 h2
  exact ⟨ad, e, h0, h1, h2⟩
theorem rof_end {w0 w : World} {g : Nat} {A : Option Addr} {S : List Sv} (h : RS w0 w g A S) (x : Sv) (n : Int) {tmps : Array Value} (hp : tmps.getD 4 undef = .pointer (some ⟨g, 0, none⟩)) (hn : tmps.getD 5 undef = .int .i64 n) :
    bodyPost Tryz.prog Tryz.f7 (fun e w' => e = .returned (.tuple #[.agg #[.int .i64 x.f0, .int .i64 x.f1, .string x.f2], .int .i64 n]) ∧ Below w0.heap.size w0 w') Exit.ret { tmps := tmps, defers := [] }
      (((w.setCell ⟨g, 0, none⟩ (.int .i64 x.f0)).setCell ⟨g, 1, none⟩ (.int .i64 x.f1)).setCell ⟨g, 2, none⟩ (.string x.f2)) := by
  refine bodyPost_ret (results_ct rfl tmps _ g 25 #[.int .i64 x.f0, .int .i64 x.f1, .string x.f2] (0, 0) _ hp (blk_put (blk_put (blk_put h.B 0 _ rfl) 1 _ rfl) 2 _ rfl) Tryz.underlying25 rfl (by kernel_rfl)) rfl ?_
  rw [hn]
  exact ⟨rfl, ((h.hb.setCell h.ge _).setCell h.ge _).setCell h.ge _⟩
theorem rof_endD {w0 w : World} {g : Nat} {A : Option Addr} {S : List Sv} (h : RS w0 w g A S) (x : Sv) (n : Int) {tmps : Array Value} (hp : tmps.getD 4 undef = .pointer (some ⟨g, 0, none⟩)) (hn : tmps.getD 5 undef = .int .i64 n) :
    bodyPost Tryz.prog Tryz.f7 (fun e w' => e = .returned (.tuple #[.agg #[.int .i64 x.f0, .int .i64 x.f1, .string x.f2], .int .i64 n]) ∧ Below w0.heap.size w0 w') Exit.ret { tmps := tmps, defers := [] }
      (((w.setCell ⟨g, 0, none⟩ (.int .i64 x.f0)).setCell ⟨g, 1, none⟩ (.int .i64 x.f1)).setCell ⟨g, 2, none⟩ (.string x.f2)).drew := by
  refine bodyPost_ret (results_ct rfl tmps _ g 25 #[.int .i64 x.f0, .int .i64 x.f1, .string x.f2] (0, 0) _ hp (blk_drew (blk_put (blk_put (blk_put h.B 0 _ rfl) 1 _ rfl) 2 _ rfl)) Tryz.underlying25 rfl (by kernel_rfl)) rfl ?_
  rw [hn]
  exact ⟨rfl, (((h.hb.setCell h.ge _).setCell h.ge _).setCell h.ge _).drew⟩
theorem num_of {x : Sv} (h : rightS x = true) (h3 : x.f0 ≠ 3) : x.f0 = 1 ∨ (x.f0 = 2 ∧ right x.f1 = true) := by
  unfold rightS vright toV at h
  dsimp only at h
  by_cases e1 : x.f0 = 1
  · exact .inl e1
  · rw [if_neg e1] at h
    by_cases e2 : x.f0 = 2
    · rw [if_pos e2, Bool.and_eq_true] at h
      exact .inr ⟨e2, h.2⟩
    · rw [if_neg e2, if_neg h3] at h
      cases h
theorem RS.fw {w0 w : World} {g : Nat} {A : Option Addr} {S : List Sv} (h : RS w0 w g A S) (op x y : Nat) : RS w0 (fworld op x y w) g A S := by
  obtain ⟨n, e⟩ := fworld_drewN op x y w
  rw [e]
  exact h.below (below_drewN (Below.refl _ _) n)
theorem fop_code (op : Nat) {x y : Nat} (hx : x < 18446744073709551616) (hy : y < 18446744073709551616) (w : World) : code (fbits op x y w) = ocode (fop op (back (code x)) (back (code y))) := by
  rw [fbits_code, fop_alike op hx hy (back_lt _) (back_lt _) (alike_back hx) (alike_back hy)]
theorem setP_bad {kind n : Int} {S : List Sv} (h : wrongP kind S = n) (hn : n ≠ 0) : setP kind S = (z25, n) := by
  unfold setP
  rw [if_pos (by rw [h]; exact hn), h]
theorem wrong_kind {kind : Int} {S : List Sv} (h : kind < 1 ∨ 5 < kind) : wrongP kind S = 1 := by
  unfold wrongP
  rw [if_pos (by rcases h with h | h <;> simp [h])]
theorem wrong_right {kind : Int} {S : List Sv} {i : Nat} (hi : i < S.length) (h : rightS S[i] = false) : wrongP kind S = 1 := by
  unfold wrongP
  rw [if_pos (.inr (.inr (List.any_eq_true.2 ⟨S[i], List.getElem_mem hi, by rw [h]; rfl⟩)))]
/-- All values are right. -/
def Rights (S : List Sv) (n : Nat) : Prop := ∀ j (h : j < S.length), j < n → rightS S[j] = true
theorem no_wrong {kind : Int} {S : List Sv} (hk : 1 ≤ kind ∧ kind ≤ 5) (h : Rights S S.length) : ¬ (kind < 1 ∨ 5 < kind ∨ (S.any fun x => !rightS x) = true) := by
  rintro (h1 | h1 | h1)
  · omega
  · omega
  · obtain ⟨x, hx, h2⟩ := List.any_eq_true.1 h1
    obtain ⟨j, hj, rfl⟩ := List.mem_iff_getElem.1 hx
    rw [h j hj hj] at h2
    cases h2
theorem wrong_none' {kind : Int} {S : List Sv} (hk : 1 ≤ kind ∧ kind ≤ 5) (h : Rights S S.length) (h0 : S = []) : wrongP kind S = 12 := by
  unfold wrongP
  rw [if_neg (no_wrong hk h), if_pos h0]
theorem wrong_odd {kind : Int} {S : List Sv} (hk : 1 ≤ kind ∧ kind ≤ 5) (h : Rights S S.length) {i : Nat} (hi : i < S.length) (ho : oddS kind S S[i] = true) : wrongP kind S = 6 := by
  unfold wrongP
  rw [if_neg (no_wrong hk h), if_neg (fun e => by rw [e] at hi; simp at hi), if_pos (List.any_eq_true.2 ⟨S[i], List.getElem_mem hi, ho⟩)]
def Evens (kind : Int) (S : List Sv) (n : Nat) : Prop := ∀ j (h : j < S.length), j < n → oddS kind S S[j] = false
theorem wrong_fine {kind : Int} {S : List Sv} (hk : 1 ≤ kind ∧ kind ≤ 5) (h : Rights S S.length) (h0 : S ≠ []) (he : Evens kind S S.length) : wrongP kind S = 0 := by
  unfold wrongP
  rw [if_neg (no_wrong hk h), if_neg h0, if_neg]
  intro h1
  obtain ⟨x, hx, h2⟩ := List.any_eq_true.1 h1
  obtain ⟨j, hj, rfl⟩ := List.mem_iff_getElem.1 hx
  rw [he j hj hj] at h2
  cases h2

set_option maxHeartbeats 4000000 in
set_option maxRecDepth 100000 in
theorem rof_any (kind : Int) (A : Option Addr) (c : Nat) (l : List Sv) (w : World) (hr : Kd.C k25 w A l.length l) (hc : l.length ≤ c) (hok : okL l) (hk : inI kind) :
    Calls Tryz.prog 7 #[.int .i64 kind, .slice A l.length c] w fun e w' => e = .returned (.tuple #[.agg #[.int .i64 (ofP kind l).1.f0, .int .i64 (ofP kind l).1.f1, .string (ofP kind l).1.f2], .int .i64 (ofP kind l).2]) ∧ Below w.heap.size w w' := by
  have mixed : Tryz.prog.follows Departure.mixedOrders = true := by kernel_rfl
  have HR := Aside0.mk hr
  have HC := Aside0.mk hc
  have HSET := Aside0.mk (rset_eq l hok _ (Nat.le_refl _))
  have HOKS := Aside0.mk (okL_set hok)
  obtain ⟨S, hS⟩ : ∃ S, S = setL l := ⟨_, rfl⟩
  have HP : ∃ p : Sv × Int, p = ofP kind l := ⟨_, rfl⟩
  obtain ⟨p, hp⟩ := HP
  rw [← hp]
  have HP : Aside0 (p = setP kind S) := ⟨by rw [hp, hS]; rfl⟩
  rw [← hS] at HSET HOKS
  have hSlen := HOKS.out.1
  have HL := Aside0.mk hSlen
  clear hS hp hr hc hok hSlen
  go_enter Tryz.func7, Tryz.ntmps7
  go_wp2_with fail
  refine (antecedentref20_Set.calls _ A c l S _ (Kd.C_below HR.out ((Below.refl _ _).alloc (Nat.le_refl _) _)) HC.out HSET.out).mono ?_
  rintro e w1 ⟨v, rfl, hR, hb⟩
  obtain ⟨As, cs, rfl, hcs, hC⟩ := Kd.R_reads hR
  have J : Aside0 (RS w w1 w.heap.size As S) := ⟨⟨hC, blk_below (blk_new w _) hb, ((Below.refl _ _).alloc (Nat.le_refl _) _).trans (hb.mono (by simp)), Nat.le_refl _⟩⟩
  have HCS := Aside0.mk hcs
  clear hR hb hC hcs HR HC HSET
  generalize w.heap.size = g at J ⊢
  by_cases hk1 : kind < 1
  · have b1 : decide (kind < 1) = true := decide_eq_true hk1
    obtain ⟨⟨c1, c2, c3⟩, f1, f2, f3⟩ := J.out.cells
    obtain rfl : p = (z25, 1) := by rw [HP.out]; exact setP_bad (wrong_kind (.inl hk1)) (by decide)
    clear HP
    go_wp2_with fail
    exact rof_end J.out z25 1 rfl rfl
  by_cases hk2 : 5 < kind
  · have b1 : decide (kind < 1) = false := decide_eq_false hk1
    have b2 : decide (5 < kind) = true := decide_eq_true hk2
    obtain ⟨⟨c1, c2, c3⟩, f1, f2, f3⟩ := J.out.cells
    obtain rfl : p = (z25, 1) := by rw [HP.out]; exact setP_bad (wrong_kind (.inr hk2)) (by decide)
    clear HP
    go_wp2_with fail
    exact rof_end J.out z25 1 rfl rfl
  have b1 : decide (kind < 1) = false := decide_eq_false hk1
  have b2 : decide (5 < kind) = false := decide_eq_false hk2
  have HK := Aside0.mk (show 1 ≤ kind ∧ kind ≤ 5 by omega)
  clear hk1 hk2 hk
  go_upto_region 4 with fail
  clear b1 b2
  go_wp2
  go_loopg [25] S.length (fun kq v25 wr => ∃ i : Nat, v25 = .int .i64 (i : Int) ∧ Aside0 (i + kq = S.length) ∧ Aside0 (Rights S i) ∧ Aside0 (RS w wr g As S))
  case atStart => exact ⟨0, rfl, ⟨by omega⟩, ⟨fun j h hj => absurd hj (by omega)⟩, J⟩
  case round =>
    clear J
    obtain ⟨i, rfl, HI, HRT, J⟩ := hrel
    by_cases hlt : i < S.length
    · have HLT := Aside0.mk hlt
      obtain ⟨ad, rfl, c0, c1, c2⟩ := J.out.at i hlt
      have hx := (HOKS.out.2 S[i] (List.getElem_mem hlt)).2.2
      have HV := fun w => refVright_any (toV S[i]) hx w
      have HV := Aside0.mk HV
      have hi0 : (0 : Int) ≤ (i : Int) := by omega
      clear hx
      go_wp2_with fail
      refine (HV.out _).mono ?_
      rintro e w2 ⟨rfl, hb⟩
      have J2 := Aside0.mk (J.out.below hb)
      clear J hb HV c0 c1 c2
      have J := J2
      clear J2
      obtain ⟨bb, hbb⟩ : ∃ bb, bb = vright (toV S[i]) := ⟨_, rfl⟩
      rw [← hbb]
      have HBB := Aside0.mk hbb
      clear hbb
      cases bb with
      | true =>
        go_wp2
        go_roundg (S.length - (i + 1))
        case measure => have := HI.out; omega
        case rel =>
          refine ⟨i + 1, congrArg (Value.int .i64) (by unfold wrap64; have := HL.out; have := HLT.out; omega), ⟨by have := HI.out; have := HLT.out; omega⟩, ⟨fun j h hj => ?_⟩, J⟩
          rcases Nat.lt_or_ge j i with h2 | h2
          · exact HRT.out j h h2
          · obtain rfl : j = i := by omega
            exact HBB.out.symm
      | false =>
        obtain ⟨⟨c1, c2, c3⟩, f1, f2, f3⟩ := J.out.cells
        obtain rfl : p = (z25, 1) := by rw [HP.out]; exact setP_bad (wrong_right hlt HBB.out.symm) (by decide)
        clear HP
        go_wp2
        exact rof_end J.out z25 1 rfl rfl
    · obtain rfl : i = S.length := by have := HI.out; omega
      clear HI hlt
      go_upto_region 10 with fail
      by_cases h0 : S = []
      · obtain ⟨⟨c1, c2, c3⟩, f1, f2, f3⟩ := J.out.cells
        obtain rfl : p = (z25, 12) := by rw [HP.out]; exact setP_bad (wrong_none' HK.out HRT.out h0) (by decide)
        clear HP
        subst h0
        go_wp2
        exact rof_end J.out z25 12 rfl rfl
      have H0 := Aside0.mk h0
      have hne : ((S.length : Int) == 0) = false := beq_eq_false_iff_ne.2 (by have := List.length_pos_iff.2 h0; omega)
      have hne2 : 0 < S.length := List.length_pos_iff.2 h0
      clear h0
      go_upto_region 12 with fail
      clear hne
      go_wp2
      go_loopg [42] S.length (fun kq v42 wr => ∃ i : Nat, v42 = .int .i64 (i : Int) ∧ Aside0 (i + kq = S.length) ∧ Aside0 (Evens kind S i) ∧ Aside0 (RS w wr g As S))
      case atStart => exact ⟨0, rfl, ⟨by omega⟩, ⟨fun j h hj => absurd hj (by omega)⟩, J⟩
      case round =>
        clear J
        obtain ⟨i, rfl, HI, HEV, J⟩ := hrel
        by_cases hlt : i < S.length
        · obtain ⟨ad, rfl, c0, _, _⟩ := J.out.at i hlt
          obtain ⟨ad', e, d0, _, _⟩ := J.out.head hne2
          cases e
          have hi0 : (0 : Int) ≤ (i : Int) := by omega
          have HO : Aside0 (oddS kind S S[i] = (!(S[i].f0 == S[0].f0) || ((kind == 2 || kind == 5) && S[i].f0 == 3))) := ⟨by
            have e : S.headD z25 = S[0] := by
              obtain ⟨x, r, e⟩ := List.exists_cons_of_ne_nil H0.out
              subst e; rfl
            unfold oddS
            rw [e, Bool.eq_iff_iff, decide_eq_true_iff]
            simp only [Bool.or_eq_true, Bool.and_eq_true, beq_iff_eq, Bool.not_eq_true', beq_eq_false_iff_ne, ne_eq]
            constructor
            · rintro (h | ⟨h1, h2⟩)
              · exact .inl h
              · exact .inr ⟨h2, h1⟩
            · rintro (h | ⟨h1, h2⟩)
              · exact .inl h
              · exact .inr ⟨h2, h1⟩⟩
          have HLT := Aside0.mk hlt
          go_upto_region 15 with fail
          have key : ∀ (x y : Int), ((x == y) = true ∧ (x != y) = false) ∨ ((x == y) = false ∧ (x != y) = true) := fun x y => by
            by_cases h : x = y
            · exact .inl ⟨beq_iff_eq.2 h, bne_eq_false_iff_eq.2 h⟩
            · exact .inr ⟨beq_eq_false_iff_ne.2 h, bne_iff_ne.2 h⟩
          have HX : (∃ b, Aside0 (oddS kind S S[i] = b) ∧ ((S[i].f0 == S[0].f0) = false ∧ (S[i].f0 != S[0].f0) = true ∧ b = true ∨ (S[i].f0 == S[0].f0) = true ∧ (S[i].f0 != S[0].f0) = false ∧
              ((kind == 2) = true ∧ (S[i].f0 == 3) = b ∨ (kind == 2) = false ∧ (kind == 5) = true ∧ (S[i].f0 == 3) = b ∨ (kind == 2) = false ∧ (kind == 5) = false ∧ b = false))) := by
            refine ⟨_, ⟨HO.out⟩, ?_⟩
            rcases key S[i].f0 S[0].f0 with ⟨a1, a1'⟩ | ⟨a1, a1'⟩
            · refine .inr ⟨a1, a1', ?_⟩
              rw [a1]
              rcases key kind 2 with ⟨a2, _⟩ | ⟨a2, _⟩
              · exact .inl ⟨a2, by rw [a2]; simp⟩
              · rcases key kind 5 with ⟨a3, _⟩ | ⟨a3, _⟩
                · exact .inr (.inl ⟨a2, a3, by rw [a2, a3]; simp⟩)
                · exact .inr (.inr ⟨a2, a3, by rw [a2, a3]; simp⟩)
            · exact .inl ⟨a1, a1', by rw [a1]; simp⟩
          obtain ⟨b, HOB, HX⟩ := HX
          clear key HO
          have fin0 : Aside0 (b = true → p = (z25, 6)) := ⟨fun e => by rw [HP.out]; exact setP_bad (wrong_odd HK.out HRT.out hlt (by rw [HOB.out, e])) (by decide)⟩
          have JD := Aside0.mk (J.out.below ((Below.refl _ _).drew))
          obtain ⟨⟨c1, c2, c3⟩, f1, f2, f3⟩ := J.out.cells
          have step : Aside0 (b = false → Evens kind S (i + 1)) := ⟨fun e j h hj => by
            rcases Nat.lt_or_ge j i with h2 | h2
            · exact HEV.out j h h2
            · obtain rfl : j = i := by omega
              rw [HOB.out, e]⟩
          clear HOB
          rcases HX with ⟨a1, a2, rfl⟩ | ⟨a1, a2, (⟨a3, a4⟩ | ⟨a3, a4, a5⟩ | ⟨a3, a4, rfl⟩)⟩
          · obtain rfl := fin0.out rfl
            clear HP fin0 step
            go_big_region_o
            all_goals go_wp2
            exact rof_endD J.out z25 6 rfl rfl
          · cases b with
            | true =>
              obtain rfl := fin0.out rfl
              clear HP fin0 step
              go_big_region_o
              all_goals go_wp2
              exact rof_endD J.out z25 6 rfl rfl
            | false =>
              have HEV2 := Aside0.mk (step.out rfl)
              clear fin0 step
              go_big_region_o
              all_goals go_wp2
              go_roundg (S.length - (i + 1))
              case measure => have := HI.out; omega
              case rel => exact ⟨i + 1, congrArg (Value.int .i64) (by unfold wrap64; have := HL.out; have := HLT.out; omega), ⟨by have := HI.out; have := HLT.out; omega⟩, HEV2, JD⟩
          · cases b with
            | true =>
              obtain rfl := fin0.out rfl
              clear HP fin0 step
              go_big_region_o
              all_goals go_wp2
              exact rof_endD J.out z25 6 rfl rfl
            | false =>
              have HEV2 := Aside0.mk (step.out rfl)
              clear fin0 step
              go_big_region_o
              all_goals go_wp2
              go_roundg (S.length - (i + 1))
              case measure => have := HI.out; omega
              case rel => exact ⟨i + 1, congrArg (Value.int .i64) (by unfold wrap64; have := HL.out; have := HLT.out; omega), ⟨by have := HI.out; have := HLT.out; omega⟩, HEV2, JD⟩
          · have HEV2 := Aside0.mk (step.out rfl)
            clear fin0 step
            go_big_region_o
            all_goals go_wp2
            go_roundg (S.length - (i + 1))
            case measure => have := HI.out; omega
            case rel => exact ⟨i + 1, congrArg (Value.int .i64) (by unfold wrap64; have := HL.out; have := HLT.out; omega), ⟨by have := HI.out; have := HLT.out; omega⟩, HEV2, JD⟩
        · obtain rfl : i = S.length := by have := HI.out; omega
          clear HI hlt
          have HW := Aside0.mk (wrong_fine HK.out HRT.out H0.out HEV.out)
          obtain ⟨ad, rfl, d0, d1, d2⟩ := J.out.head hne2
          obtain ⟨⟨c1, c2, c3⟩, f1, f2, f3⟩ := J.out.cells
          have hk5 := HK.out
          obtain rfl | rfl | rfl | (hk' : kind = 2 ∨ kind = 5) : kind = 1 ∨ kind = 3 ∨ kind = 4 ∨ (kind = 2 ∨ kind = 5) := by omega
          · obtain rfl : p = (⟨1, S.length, emp⟩, 0) := by rw [HP.out]; unfold setP; rw [if_neg (by rw [HW.out]; decide), if_pos rfl]
            clear HP hk5
            go_wp2
            exact rof_end J.out ⟨1, S.length, emp⟩ 0 rfl rfl
          · obtain rfl : p = (S[0], 0) := by
              rw [HP.out]; unfold setP; rw [if_neg (by rw [HW.out]; decide), if_neg (by decide), if_pos rfl]
              obtain ⟨x, r, e⟩ := List.exists_cons_of_ne_nil H0.out
              subst e; rfl
            clear HP hk5
            go_wp2
            exact rof_end J.out S[0] 0 rfl rfl
          · clear hk5 d0 d1 d2
            obtain ⟨ad', e, d0, d1, d2⟩ := J.out.at (S.length - 1) (by omega)
            cases e
            obtain rfl : p = (S[S.length - 1], 0) := by
              rw [HP.out]; unfold setP; rw [if_neg (by rw [HW.out]; decide), if_neg (by decide), if_neg (by decide), if_pos rfl]
              rw [List.getLastD_eq_getLast?, List.getLast?_eq_getElem?, List.getElem?_eq_getElem (by omega)]; rfl
            have e1 : wrap64 ((S.length : Int) - 1) = ((S.length - 1 : Nat) : Int) := by have := HL.out; unfold wrap64; omega
            have e2 : IntKind.i64.wrap ((S.length : Int) - 1) = ((S.length - 1 : Nat) : Int) := by rw [IntKind.wrap_i64]; have := HL.out; omega
            have e3 : ((S.length - 1 : Nat) : Int) < (S.length : Int) := by omega
            have e4 : S.length - 1 < S.length := by omega
            clear HP
            go_wp2
            exact rof_end J.out S[S.length - 1] 0 rfl rfl
          · have hd : S.headD z25 = S[0] := by
              obtain ⟨x, r, e⟩ := List.exists_cons_of_ne_nil H0.out
              subst e; rfl
            have HD := Aside0.mk hd
            clear hd hk5
            by_cases hs : kind = 2 ∧ S[0].f0 = 1
            · obtain ⟨rfl, h1⟩ := hs
              have b1 : (S[0].f0 == 1) = true := beq_iff_eq.2 h1
              have HPP : Aside0 (p = if inI (sumP S) then (⟨1, sumP S, emp⟩, 0) else (z25, 10)) := ⟨by
                rw [HP.out]; unfold setP; rw [if_neg (by rw [HW.out]; decide), if_neg (by decide), if_neg (by decide), if_neg (by decide), if_neg (by decide), HD.out, if_pos h1]⟩
              clear hk' HP h1
              by_cases hin : inI (sumP S)
              · have HSUM := Aside0.mk (rsum_eq S HOKS.out _ (Nat.le_refl _))
                rw [show sumR (sumP S) = (sumP S, true) from if_pos hin] at HSUM
                obtain rfl : p = (⟨1, sumP S, emp⟩, 0) := by rw [HPP.out, if_pos hin]
                clear HPP
                clear hin
                go_wp2_with fail
                refine (antecedentref20_sum.calls _ (some ad) cs S (sumP S) true _ J.out.C HCS.out HSUM.out).mono ?_
                rintro e w2 ⟨rfl, hb⟩
                have J2 := Aside0.mk (J.out.below hb)
                clear J hb c1 c2 c3 f1 f2 f3 d0 d1 d2 b1
                obtain ⟨⟨c1, c2, c3⟩, f1, f2, f3⟩ := J2.out.cells
                go_wp2_with fail
                exact rof_end J2.out ⟨1, sumP S, emp⟩ 0 rfl rfl
              · have HSUM := Aside0.mk (rsum_eq S HOKS.out _ (Nat.le_refl _))
                rw [show sumR (sumP S) = (0, false) from if_neg hin] at HSUM
                obtain rfl : p = (z25, 10) := by rw [HPP.out, if_neg hin]
                clear HPP hin
                go_wp2_with fail
                refine (antecedentref20_sum.calls _ (some ad) cs S 0 false _ J.out.C HCS.out HSUM.out).mono ?_
                rintro e w2 ⟨rfl, hb⟩
                have J2 := Aside0.mk (J.out.below hb)
                clear J hb c1 c2 c3 f1 f2 f3 d0 d1 d2 b1
                obtain ⟨⟨c1, c2, c3⟩, f1, f2, f3⟩ := J2.out.cells
                go_wp2_with fail
                exact rof_end J2.out z25 10 rfl rfl
            · have HFL : Aside0 (p = if kind = 5 then (⟨2, AnteFlo.gDiv (pointsP S) (AnteFlo.gOf S.length), emp⟩, 0) else (⟨2, pointsP S, emp⟩, 0)) := ⟨by
                rw [HP.out]; unfold setP
                rw [if_neg (by rw [HW.out]; decide), if_neg (by omega), if_neg (by omega), if_neg (by omega), HD.out]
                rcases hk' with rfl | rfl
                · rw [if_neg (by decide), if_neg (fun h => hs ⟨rfl, h⟩), if_neg (by decide)]
                · rfl⟩
              have hg : (kind == 2) = false ∨ ((kind == 2) = true ∧ (S[0].f0 == 1) = false) := by
                rcases hk' with rfl | rfl
                · exact .inr ⟨rfl, beq_eq_false_iff_ne.2 (fun h => hs ⟨rfl, h⟩)⟩
                · exact .inl rfl
              have k1 : (kind == 1) = false := beq_eq_false_iff_ne.2 (by omega)
              have k3 : (kind == 3) = false := beq_eq_false_iff_ne.2 (by omega)
              have k4 : (kind == 4) = false := beq_eq_false_iff_ne.2 (by omega)
              have HKK := Aside0.mk hk'
              clear hs HP hk'
              go_upto_region 25 with fail
              go_cut [100] (fun v100 wc => v100 = .bool false ∧ Aside0 (RS w wc g (some ad) S))
              case first =>
                rcases hg with hg | ⟨hg, hg2⟩
                · go_wp2
                  go_meet
                  case rel => exact ⟨rfl, J⟩
                · go_wp2
                  go_meet
                  case rel => exact ⟨rfl, J⟩
              case rest =>
                clear J c1 c2 c3 f1 f2 f3 d0 d1 d2 hg k1 k3 k4
                obtain ⟨rfl, J⟩ := hcut
                have ho := float_of_
                have hf := @run_fadd Tryz.prog
                have hq := @run_fdiv Tryz.prog
                go_wp2
                go_loopg [113, 11] S.length (fun kq v113 v11 wr => ∃ (i : Nat) (b : Nat), v113 = .int .i64 (i : Int) ∧ v11 = .float .f64 b ∧ Aside0 (i + kq = S.length) ∧ Aside0 (b < 18446744073709551616 ∧ (0 < i → code b = pointsP (S.take i))) ∧ Aside0 (RS w wr g (some ad) S))
                case atStart => exact ⟨0, 0, rfl, rfl, ⟨by omega⟩, ⟨by omega, fun h => absurd h (by omega)⟩, J⟩
                case round =>
                  clear J
                  obtain ⟨i, b, rfl, rfl, HI, HB, J⟩ := hrel
                  by_cases hlt : i < S.length
                  · have HLT := Aside0.mk hlt
                    obtain ⟨ad', e, c0, c1, c2⟩ := J.out.at i hlt
                    cases e
                    have hi0 : (0 : Int) ≤ (i : Int) := by omega
                    have hx := HOKS.out.2 S[i] (List.getElem_mem hlt)
                    have HNUM : Aside0 (S[i].f0 = 1 ∨ (S[i].f0 = 2 ∧ right S[i].f1 = true)) := ⟨num_of (HRT.out i hlt hlt) (fun e3 => by
                      have h2 := HEV.out i hlt hlt
                      unfold oddS at h2
                      exact (of_decide_eq_false h2) (.inr ⟨e3, HKK.out⟩))⟩
                    have HPN : Aside0 (pointsP (S.take (i + 1)) = if i = 0 then numS S[i] else AnteFlo.gAdd (pointsP (S.take i)) (numS S[i])) := ⟨by
                      rw [take_one hlt]
                      by_cases h0 : i = 0
                      · subst h0; rw [if_pos rfl]; rfl
                      · rw [if_neg h0, pointsP_snoc (List.ne_nil_of_length_pos (by rw [List.length_take]; omega))]⟩
                    go_wp2_with fail
                    refine (refBack_any _ hx.2.1 _).mono ?_
                    rintro e w2 ⟨xb, rfl, hxa, hxl, n, rfl⟩
                    have J2 := Aside0.mk (J.out.below (below_drewN (Below.refl _ _) n))
                    have HX := Aside0.mk (And.intro hxa hxl)
                    clear J hxa hxl hx
                    obtain ⟨ad', e, d0, d1, d2⟩ := J2.out.at i hlt
                    cases e
                    clear c0 c1 c2
                    have hxi : (i = 0 ∧ ((i : Int) == 0) = true) ∨ (0 < i ∧ ((i : Int) == 0) = false) := by
                      rcases Nat.eq_zero_or_pos i with h | h
                      · exact .inl ⟨h, by subst h; rfl⟩
                      · exact .inr ⟨h, beq_eq_false_iff_ne.2 (by omega)⟩
                    have hnum : (S[i].f0 == 1) = true ∧ Aside0 (numS S[i] = code (ofInt S[i].f1)) ∨ (S[i].f0 == 1) = false ∧ Aside0 (numS S[i] = code xb) := by
                      rcases HNUM.out with h | ⟨h, h2⟩
                      · refine .inl ⟨beq_iff_eq.2 h, ⟨?_⟩⟩
                        unfold numS
                        rw [if_pos h]; rfl
                      · refine .inr ⟨beq_eq_false_iff_ne.2 (by omega), ⟨?_⟩⟩
                        unfold numS
                        rw [if_neg (by omega), HX.out.1.code, code_back h2]
                    have HI2 := Aside0.mk hxi
                    clear hxi
                    rcases hnum with ⟨g1, HN⟩ | ⟨g1, HN⟩
                    · rcases HI2.out with ⟨h0, g2⟩ | ⟨h0, g2⟩
                      · have H0' := Aside0.mk h0
                        clear h0 HI2
                        go_wp2
                        go_roundg (S.length - (i + 1))
                        case measure => have := HI.out; have := HLT.out; omega
                        case rel =>
                          refine ⟨i + 1, ofInt S[i].f1, congrArg (Value.int .i64) (by unfold wrap64; have := HL.out; have := HLT.out; omega), rfl, ⟨by have := HI.out; have := HLT.out; omega⟩, ⟨ofInt_lt_ _, fun _ => ?_⟩, J2⟩
                          rw [HPN.out, if_pos H0'.out, HN.out]
                      · have H0' := Aside0.mk h0
                        clear h0 HI2
                        go_wp2
                        go_roundg (S.length - (i + 1))
                        case measure => have := HI.out; have := HLT.out; omega
                        case rel =>
                          refine ⟨i + 1, fbits 0 b (ofInt S[i].f1) (wr.drewN n), congrArg (Value.int .i64) (by unfold wrap64; have := HL.out; have := HLT.out; omega), rfl, ⟨by have := HI.out; have := HLT.out; omega⟩, ⟨fbits_lt _ _ _ _, fun _ => ?_⟩, ⟨J2.out.fw _ _ _⟩⟩
                          rw [HPN.out, if_neg (Nat.ne_of_gt H0'.out), HN.out, ← HB.out.2 H0'.out]
                          exact fop_code 0 HB.out.1 (ofInt_lt_ _) _
                    · rcases HI2.out with ⟨h0, g2⟩ | ⟨h0, g2⟩
                      · have H0' := Aside0.mk h0
                        clear h0 HI2
                        go_wp2
                        go_roundg (S.length - (i + 1))
                        case measure => have := HI.out; have := HLT.out; omega
                        case rel =>
                          refine ⟨i + 1, xb, congrArg (Value.int .i64) (by unfold wrap64; have := HL.out; have := HLT.out; omega), rfl, ⟨by have := HI.out; have := HLT.out; omega⟩, ⟨HX.out.2, fun _ => ?_⟩, J2⟩
                          rw [HPN.out, if_pos H0'.out, HN.out]
                      · have H0' := Aside0.mk h0
                        clear h0 HI2
                        go_wp2
                        go_roundg (S.length - (i + 1))
                        case measure => have := HI.out; have := HLT.out; omega
                        case rel =>
                          refine ⟨i + 1, fbits 0 b xb (wr.drewN n), congrArg (Value.int .i64) (by unfold wrap64; have := HL.out; have := HLT.out; omega), rfl, ⟨by have := HI.out; have := HLT.out; omega⟩, ⟨fbits_lt _ _ _ _, fun _ => ?_⟩, ⟨J2.out.fw _ _ _⟩⟩
                          rw [HPN.out, if_neg (Nat.ne_of_gt H0'.out), HN.out, ← HB.out.2 H0'.out]
                          exact fop_code 0 HB.out.1 HX.out.2 _
                  · obtain rfl : i = S.length := by have := HI.out; omega
                    have HB2 := Aside0.mk (HB.out.2 hne2)
                    rw [List.take_of_length_le (Nat.le_refl _)] at HB2
                    clear HI hlt
                    rcases HKK.out with rfl | rfl
                    · obtain rfl : p = (⟨2, code b, emp⟩, 0) := by rw [HFL.out, if_neg (by decide), HB2.out]
                      clear HFL
                      go_wp2_with fail
                      refine (refCode_any HB.out.1 _).mono ?_
                      rintro e w2 ⟨rfl, rfl⟩
                      obtain ⟨⟨c1, c2, c3⟩, f1, f2, f3⟩ := J.out.cells
                      go_wp2_with fail
                      exact rof_end J.out ⟨2, code b, emp⟩ 0 rfl rfl
                    · have hp : ∀ w, p = (⟨2, code (fbits 3 b (ofInt S.length) w), emp⟩, 0) := fun w => by
                        rw [HFL.out, if_pos rfl, ← HB2.out, fop_code 3 HB.out.1 (ofInt_lt_ _)]; rfl
                      have HPW := Aside0.mk hp
                      clear HFL hp
                      go_wp2_with fail
                      refine (refCode_any (fbits_lt _ _ _ _) _).mono ?_
                      rintro e w2 ⟨rfl, rfl⟩
                      obtain ⟨⟨c1, c2, c3⟩, f1, f2, f3⟩ := (J.out.fw 3 b (ofInt S.length)).cells
                      go_wp2_with fail
                      obtain rfl := HPW.out wr
                      exact rof_end (J.out.fw 3 b (ofInt S.length)) ⟨2, code (fbits 3 b (ofInt S.length) wr), emp⟩ 0 rfl rfl
theorem antecedentref20_Of.calls (a0 : Int) (A1 : Option Addr) (c1 : Nat) (l1 : List Sv) (r1 r2 : Int) (r3 : ByteArray) (r4 : Int) (w : World) (hr1 : Kd.C k25 w A1 l1.length l1) (hc1 : l1.length ≤ c1) (h : antecedentref20_Of.f a0 l1 = some (r1, r2, r3, r4)) :
    Calls Tryz.prog 7 #[.int .i64 a0, .slice A1 l1.length c1] w fun e w' => e = .returned (.tuple #[.agg #[.int .i64 r1, .int .i64 r2, .string r3], .int .i64 r4]) ∧ Below w.heap.size w w' := by
  unfold antecedentref20_Of.f at h
  split at h
  · rename_i hh
    have h2 := Option.some.inj h
    unfold four at h2
    simp only [Prod.mk.injEq] at h2
    obtain ⟨rfl, rfl, rfl, rfl⟩ := h2
    exact rof_any a0 A1 c1 l1 w hr1 hc1 hh.1 hh.2
  · cases h
end Go.Proofs.YtolefpeiceiocaaGreat.Ps
