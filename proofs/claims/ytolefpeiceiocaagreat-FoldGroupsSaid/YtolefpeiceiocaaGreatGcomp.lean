/- THE WALK OF slices.Compact at values: what is kept lies at the row's head. Condition: the row is the call's own; fewer than 2^62 elements. -/
import Derived.Test.YtolefpeiceiocaaGreatGval
import Derived.Deep.LoopGhost
import Derived.Deep.QuietTactic
namespace Go.Proofs.YtolefpeiceiocaaGreat.Ps
open Go Go.RowKit Go.Proofs.YtolefpeiceiocaaGreatW.PrintWords Go.Lib Go.Sort Go.Proofs
set_option linter.unusedVariables false

theorem neqS : NeqAt Tryz.prog 25 (fun x => .agg (encS x).toArray) eqB := by
  refine ⟨fun x y w => ?_, eqlS.2⟩
  have h := eqlS.1 x y w
  simp only [binOp] at h ⊢
  revert h
  cases hr : (Op.equal 25 (.agg (encS x).toArray) (.agg (encS y).toArray)).run Tryz.prog w with
  | ok v w1 => simp [hr]
  | _ => simp [hr]

/-- One element of a row of cells. -/
theorem set_flat (dk : Array Sv) (i : Nat) (x : Sv) (hi : i < dk.size) : setMany (flatK encS 3 dk) (i * 3) (encS x) = flatK encS 3 (dk.setIfInBounds i x) := by
  refine ext_get! (by simp) fun t ht => ?_
  have ht' : t < dk.size * 3 := by simpa using ht
  rw [get_setMany _ _ _ t (by simpa using ht'), get_flatK _ _ _ t ht', get_flatK _ _ _ t (by simpa using ht'), encS_len]
  by_cases a : t / 3 = i
  · rw [if_pos (by omega), show t - i * 3 = t % 3 by omega, a]
    simp [hi]
  · rw [if_neg (by omega)]
    simp [Array.getElem!_eq_getD, Array.getD]
    by_cases h : t / 3 < dk.size <;> simp [h, Ne.symm a]

theorem zero_one (n : Nat) : ∀ v ∈ (Builtin.zeroCells #[(.int .i64 0 : Value), .int .i64 0, .string ⟨#[]⟩] n).toList, v.oneCell' = true := by
  intro v hv
  unfold Builtin.zeroCells at hv
  simp only [Array.toList_map, List.mem_map] at hv
  obtain ⟨j, _, rfl⟩ := hv
  have : j % 3 = 0 ∨ j % 3 = 1 ∨ j % 3 = 2 := by omega
  rcases this with h | h | h <;> simp [h, Value.oneCell']
theorem run_clear_k (w : World) (ty : TypeId) (b o n c : Nat) (hn : 0 < n)
    (hc : ∀ j, j < n * 3 → (w.cell? ⟨b, o + j, none⟩).isSome = true) (hf : ∀ j, j < n * 3 → w.frozen? ⟨b, o + j, none⟩ = false) :
    (Builtin.clear_ #[22] ty #[.slice (some ⟨b, o, none⟩) n c]).run Tryz.prog w = .ok (.tuple #[]) (w.setCells b o (Builtin.zeroCells #[(.int .i64 0 : Value), .int .i64 0, .string ⟨#[]⟩] n).toList) := by
  have hz := Tryz.zeroValue25
  have hsz : (Builtin.zeroCells #[(.int .i64 0 : Value), .int .i64 0, .string ⟨#[]⟩] n).toList.length = n * 3 := by simp [Builtin.zeroCells]
  have hst := run_storeCells_cells (P := Tryz.prog) b o (Builtin.zeroCells #[(.int .i64 0 : Value), .int .i64 0, .string ⟨#[]⟩] n).toList 0 w (by rw [hsz]; simpa using hc) (by rw [hsz]; simpa using hf) (zero_one n)
  simp only [Nat.add_zero] at hst
  obtain ⟨m, rfl⟩ : ∃ m, n = m + 1 := ⟨n - 1, by omega⟩
  simp [Builtin.clear_, run_underlying Tryz.underlying22, hz, Value.cells, hst]

theorem cells3 {W : World} {blk off : Nat} {d : Array Sv} (h : HoldsK encS 3 W blk off d) {i : Nat} (hi : i < d.size) :
    W.cell? ⟨blk, off + i * 3, none⟩ = some (.int .i64 d[i]!.f0) ∧ W.cell? ⟨blk, off + i * 3 + 1, none⟩ = some (.int .i64 d[i]!.f1) ∧ W.cell? ⟨blk, off + i * 3 + 2, none⟩ = some (.string d[i]!.f2) := by
  have h0 := HoldsK.cells h encS_len hi
  exact ⟨by simpa [Addr.add_lit] using h0 0 _ rfl, by simpa [Addr.add_lit] using h0 1 _ rfl, by simpa [Addr.add_lit] using h0 2 _ rfl⟩
theorem same_all {w : World} {blk off : Nat} {d : Array Sv} (q : Nat) (hH : HoldsK encS 3 w blk off d) (hall : ∀ j, j < d.size → keeps d j = true) : (compactUpTo d d.size).length = d.size ∧
    ∃ F, w.drewN q = putRow id (Sort.ahead w q) blk off F ∧ F.size = d.size * 3 ∧ ∀ j, j < (compactUpTo d d.size).length → ∀ i, i < 3 → F[j * 3 + i]! = (encS (compactUpTo d d.size)[j]!)[i]! := by
  have e : compactUpTo d d.size = d.toList := by rw [compactUpTo_all d _ hall, range_map_get]
  rw [e]
  refine ⟨by simp, flatK encS 3 d, (putRowK_self encS 3 (Sort.ahead w q) blk off d (holdsK_ahead encS 3 w q blk off d hH)).symm, by simp, fun j hj i hi => ?_⟩
  rw [get_flatK _ _ _ _ (by simp at hj; omega), show (j * 3 + i) / 3 = j by omega, show (j * 3 + i) % 3 = i by omega]
  simp at hj
  rw [getElem!_pos d j hj, getElem!_pos d.toList j (by simpa using hj)]
  simp
set_option maxHeartbeats 4000000 in
set_option maxRecDepth 1000000 in
theorem compactS (blk off cap : Nat) (d : Array Sv) (w : World) (hH : HoldsK encS 3 w blk off d) (hsz : d.size ≤ 9223372036854775807) (hcap : d.size ≤ cap) :
    Calls Tryz.prog 28 #[.slice (some ⟨blk, off, none⟩) d.size cap] w fun e w' => e = .returned (.slice (some ⟨blk, off, none⟩) (compactUpTo d d.size).length cap) ∧
      ∃ q F, w' = putRow id (Sort.ahead w q) blk off F ∧ F.size = d.size * 3 ∧ ∀ j, j < (compactUpTo d d.size).length → ∀ i, i < 3 → F[j * 3 + i]! = (encS (compactUpTo d d.size)[j]!)[i]! := by
  have heq' : ∀ (x y : Sv) (w : World), Sem.run Tryz.prog (binOp .eql 25 (.agg (encS x).toArray) (.agg (encS y).toArray)) w = .ok (.bool (eqB x y)) w := eqlS.1
  have hne' : ∀ (x y : Sv) (w : World), Sem.run Tryz.prog (binOp .neq 25 (.agg (encS x).toArray) (.agg (encS y).toArray)) w = .ok (.bool (!eqB x y)) w := neqS.1
  have hgd' : ∀ (op : BinOp) (a b : Operand) (x y : Sv) (w : World), Sem.run Tryz.prog (eqGuard op 25 a b (.agg (encS x).toArray) (.agg (encS y).toArray)) w = .ok () w := neqS.2
  have mixed : Tryz.prog.follows Departure.mixedOrders = true := by kernel_rfl
  by_cases h2 : d.size < 2
  · have HH : Aside0 (HoldsK encS 3 w blk off d) := ⟨hH⟩
    clear hH
    go_enter Tryz.func28, Tryz.ntmps28
    go_wp2
    go_ret
    obtain ⟨e1, F, e2, e3, e4⟩ := same_all (w := w) 0 HH.out (fun j hj => keeps_lt_one d j (by omega))
    exact ⟨by rw [e1]; rfl, 0, F, e2, e3, e4⟩
  · go_enter Tryz.func28, Tryz.ntmps28
    go_wp2
    go_loopg [3] d.size (fun g s3 wr => ∃ k q : Nat, 1 ≤ k ∧ k ≤ d.size ∧ d.size - k ≤ g ∧ s3 = .int .i64 k ∧ wr = w.drewN q ∧ ∀ j, j < k → keeps d j = true)
    case atStart => exact ⟨1, 0, Nat.le_refl _, by omega, by omega, rfl, rfl, keeps_lt_one d⟩
    case round =>
      obtain ⟨k, q, hk1, hk, hg, rfl, rfl, hall⟩ := hrel
      by_cases hlt : k < d.size
      · have A : Aside0 (∀ j, j < k → keeps d j = true) := ⟨hall⟩
        have HH : Aside0 (HoldsK encS 3 w blk off d) := ⟨hH⟩
        have g1 := cells3 (W := w.drewN q) HH.out hlt
        have g2 := cells3 (W := w.drewN q) HH.out (show k - 1 < d.size by omega)
        clear hall hH
        generalize hx : d[k]! = x at g1
        generalize hy : d[k - 1]! = y at g2
        generalize hwq : w.drewN q = wq at g1 g2 ⊢
        obtain ⟨x0, x1, x2⟩ := g1
        obtain ⟨y0, y1, y2⟩ := g2
        have B : Aside0 (d[k]! = x ∧ d[k - 1]! = y) := ⟨hx, hy⟩
        clear hx hy
        have e1 := heq' x y
        have e2 := fun op a b => hgd' op a b x y
        simp only [encS] at e1 e2
        have hne'' := hne'
        have hgd'' := hgd'
        clear heq' hne' hgd'
        have wk : IntKind.i64.wrap ((k : Int) - 1) = ((k - 1 : Nat) : Int) := by rw [IntKind.wrap_i64]; omega
        have wl : ((k - 1 : Nat) : Int) < (d.size : Int) := by omega
        cases hxy : eqB x y with
        | true =>
          rw [hxy] at e1
          go_wp2_with fail
          go_quiet_o (fail)
          go_wp2
          have hxy' : Aside0 (x = y) := ⟨of_decide_eq_true hxy⟩
          clear x0 x1 x2 y0 y1 y2 e1 e2 wk wl
          go_loopg [3, 5] d.size (fun g s3 s5 wr => ∃ (kk k2 q2 : Nat) (dk : Array Sv), s3 = .int .i64 kk ∧ s5 = .int .i64 k2 ∧ 1 ≤ k2 ∧ k + k2 ≤ d.size ∧ d.size - (k + k2) ≤ g ∧ wr = putRowK encS 3 (Sort.ahead w q2) blk off dk ∧ CompInv d (k + k2) kk dk)
          case atStart =>
            refine ⟨k, 1, q + nq, d, rfl, rfl, Nat.le_refl _, by omega, by omega, ?_, CompInv.start A.out (keeps_neg (by omega) (by rw [B.out.1, B.out.2]; exact hxy'.out))⟩
            rw [← hwq, World.drewN_drewN]
            exact (putRowK_self encS 3 (Sort.ahead w (q + nq)) blk off d (holdsK_ahead encS 3 w (q + nq) blk off d HH.out)).symm
          case round =>
            obtain ⟨kk, k2, q2, dk, rfl, rfl, h1, hle, hg2, hwr, hI⟩ := hrel
            have hkk := hI.lt
            have hds := hI.size
            have hHk : HoldsK encS 3 wr blk off dk := by rw [hwr]; exact holdsK_putRowK encS 3 _ blk off d dk (holdsK_ahead encS 3 w q2 blk off d HH.out) hds
            have W2 : Aside0 (wr = putRowK encS 3 (Sort.ahead w q2) blk off dk) := ⟨hwr⟩
            have I2 : Aside0 (CompInv d (k + k2) kk dk) := ⟨hI⟩
            have HK2 : Aside0 (HoldsK encS 3 wr blk off dk) := ⟨hHk⟩
            clear hwr
            by_cases hlt2 : k + k2 < d.size
            · have cm := cells3 hHk (show k + k2 < dk.size by omega)
              have cp := cells3 hHk (show k + k2 - 1 < dk.size by omega)
              have ck := cells3 hHk (show kk < dk.size by omega)
              have fk0 := (HoldsK.cell (c := 0) hHk (show kk < dk.size by omega) (by omega)).2
              have fk1 := (HoldsK.cell (c := 1) hHk (show kk < dk.size by omega) (by omega)).2
              have fk2 := (HoldsK.cell (c := 2) hHk (show kk < dk.size by omega) (by omega)).2
              rw [hI.high (k + k2) (by omega), show off + (k + k2) * 3 = off + k * 3 + k2 * 3 by omega] at cm
              rw [hI.high (k + k2 - 1) (by omega), show off + (k + k2 - 1) * 3 = off + k * 3 + (k2 - 1) * 3 by omega] at cp
              rw [Nat.add_zero] at fk0
              clear hHk hI
              generalize hu : d[k + k2]! = u at cm
              generalize hv : d[k + k2 - 1]! = v at cp
              generalize dk[kk]! = old at ck
              have C : Aside0 (d[k + k2]! = u ∧ d[k + k2 - 1]! = v) := ⟨hu, hv⟩
              clear hu hv
              obtain ⟨m0, m1, m2⟩ := cm
              obtain ⟨p0, p1, p2⟩ := cp
              obtain ⟨k0, k1, k2'⟩ := ck
              have e1 := hne'' u v
              have e2 := fun op a b => hgd'' op a b u v
              simp only [encS] at e1 e2
              clear hne'' hgd''
              have wk : IntKind.i64.wrap ((k2 : Int) - 1) = ((k2 - 1 : Nat) : Int) := by rw [IntKind.wrap_i64]; omega
              have wl : ((k2 - 1 : Nat) : Int) < ((d.size - k : Nat) : Int) := by omega
              have wl1 : (k2 : Int) < ((d.size - k : Nat) : Int) := by omega
              cases huv : eqB u v with
              | true =>
                rw [huv] at e1
                go_wp2_with fail
                go_quiet_o (fail)
                go_wp2
                go_roundg (d.size - (k + (k2 + 1)))
                case measure => omega
                case rel => exact ⟨kk, k2 + 1, q2 + nq, dk, rfl, by go_num, by omega, by omega, Nat.le_refl _, by rw [W2.out, putRowK_drewN], I2.out.skip (keeps_neg (by omega) (by rw [C.out.1, C.out.2]; exact of_decide_eq_true huv))⟩
              | false =>
                rw [huv] at e1
                go_wp2_with fail
                go_quiet_o (fail)
                go_wp2
                go_roundg (d.size - (k + (k2 + 1)))
                case measure => omega
                case rel =>
                  refine ⟨kk + 1, k2 + 1, q2 + nq, dk.setIfInBounds kk u, by go_num, by go_num, by omega, by omega, Nat.le_refl _, ?_, by have := I2.out.keep hlt2 (keeps_pos (by rw [C.out.1, C.out.2]; exact of_decide_eq_false huv)); rwa [C.out.1] at this⟩
                  show (wr.drewN nq).setCells blk (off + kk * 3) (encS u) = _
                  rw [W2.out, putRowK_drewN, putRowK, setCells_putRow _ _ _ _ _ _ (by rw [size_flatK, encS_len]; omega), set_flat dk kk u (by omega)]
                  rfl
            · have hend : k + k2 = d.size := by omega
              have hcl : ∀ ty, (Builtin.clear_ #[22] ty #[.slice (some ⟨blk, off + kk * 3, none⟩) (d.size - kk) (cap - kk)]).run Tryz.prog wr = .ok (.tuple #[]) (wr.setCells blk (off + kk * 3) (Builtin.zeroCells #[(.int .i64 0 : Value), .int .i64 0, .string ⟨#[]⟩] (d.size - kk)).toList) := fun ty => by
                refine run_clear_k wr ty blk (off + kk * 3) (d.size - kk) (cap - kk) (by omega) (fun j hj => ?_) (fun j hj => ?_)
                · have h3 := hHk (kk * 3 + j) (by rw [size_flatK]; omega)
                  rw [← Nat.add_assoc] at h3
                  rw [h3.1]; rfl
                · have h3 := hHk (kk * 3 + j) (by rw [size_flatK]; omega)
                  rw [← Nat.add_assoc] at h3
                  exact h3.2
              clear hHk hI hne'' hgd''
              go_wp2
              go_ret
              have hI := I2.out
              rw [hend] at hI
              refine ⟨by rw [hI.len]; rfl, q2, setMany (flatK encS 3 dk) (kk * 3) (Builtin.zeroCells #[(.int .i64 0 : Value), .int .i64 0, .string ⟨#[]⟩] (d.size - kk)).toList, ?_, by simp [hds], ?_⟩
              · rw [W2.out, putRowK, setCells_putRow _ _ _ _ _ _ (by simp [Builtin.zeroCells]; omega)]
              · intro j hj i hi
                rw [hI.len] at hj
                have h5 := hI.low j hj
                rw [get_setMany _ _ _ _ (by rw [size_flatK]; omega), if_neg (by omega), get_flatK _ _ _ _ (by omega), show (j * 3 + i) / 3 = j by omega, show (j * 3 + i) % 3 = i by omega]
                rw [getElem!_pos (compactUpTo d d.size) j (by rw [hI.len]; exact hj)]
                rw [List.getElem?_eq_getElem (by rw [hI.len]; exact hj)] at h5
                rw [Option.some.inj h5]
        | false =>
          rw [hxy] at e1
          clear hne'' hgd''
          go_wp2_with fail
          go_quiet_o (fail)
          go_wp2
          go_roundg (d.size - (k + 1))
          case measure => omega
          case rel =>
            refine ⟨k + 1, q + nq, by omega, by omega, Nat.le_refl _, by go_num, by rw [← hwq, World.drewN_drewN], fun j hj => ?_⟩
            by_cases e : j = k
            · subst e
              exact keeps_pos (by rw [B.out.1, B.out.2]; exact of_decide_eq_false hxy)
            · exact A.out j (by omega)
      · have : k = d.size := by omega
        subst this
        have HH : Aside0 (HoldsK encS 3 w blk off d) := ⟨hH⟩
        clear hH
        go_wp2
        go_ret
        obtain ⟨e1, F, e2, e3, e4⟩ := same_all (w := w) q HH.out hall
        exact ⟨by rw [e1]; rfl, q, F, e2, e3, e4⟩
end Go.Proofs.YtolefpeiceiocaaGreat.Ps
