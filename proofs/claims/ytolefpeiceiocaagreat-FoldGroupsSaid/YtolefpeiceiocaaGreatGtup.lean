/- tuple.Compare OF TWO TUPLES BY THEIR FIRST COLUMNS: the walks of Pick, DeleteFunc, mapped, CompareFunc and the closures. Condition: fewer than a million columns. -/
import Derived.Test.YtolefpeiceiocaaGreatGwrong
import Derived.Laws.MakeOwn
namespace Go.Proofs.YtolefpeiceiocaaGreat.Ps
open Go Go.RowKit Go.Proofs.YtolefpeiceiocaaGreatW.PrintWords Go.Proofs.YtolefpeiceiocaaGreatW.PrintLast Go.Lib Go.Sort Go.Proofs Go.Shelf
set_option linter.unusedVariables false

/-- A column that is none. -/
def outB (n : Nat) (x : Int) : Bool := decide (x < 0) || decide ((n : Int) ≤ x)
set_option maxHeartbeats 1000000 in
set_option maxRecDepth 100000 in
theorem pick1 (bt : Nat) (A : Option Addr) (n c : Nat) (x : Int) (W : World) (hbt : W.cell? ⟨bt, 0, none⟩ = some (.slice A n c)) :
    FnGives Tryz.prog 100 #[.pointer (some ⟨bt, 0, none⟩)] #[.int .i64 x] (.bool (outB n x)) W := by
  show Calls Tryz.prog 100 #[.int .i64 x, .pointer (some ⟨bt, 0, none⟩)] W _
  unfold outB
  by_cases h : x < 0
  · have g : decide (x < 0) = true := by simp [h]
    clear h
    go_enter Tryz.func100, Tryz.ntmps100
    go_wp2
    go_ret
    exact ⟨ret_bool (by rw [g]; rfl), 0, rfl⟩
  · have g : decide (x < 0) = false := by simp [h]
    clear h
    go_enter Tryz.func100, Tryz.ntmps100
    go_wp2
    go_ret
    exact ⟨ret_bool (by rw [g]; rfl), 0, rfl⟩

set_option maxHeartbeats 1000000 in
set_option maxRecDepth 100000 in
theorem pick2 (bt : Nat) (A : Option Addr) (n c : Nat) (t : List Sv) (x : Nat) (hx : x < t.length) (W : World) (hbt : W.cell? ⟨bt, 0, none⟩ = some (.slice A t.length c)) (hr : Kd.C k25 W A t.length t) :
    Calls Tryz.prog 102 #[.int .i64 (x : Int), .pointer (some ⟨bt, 0, none⟩)] W fun e w' => e = .returned (.agg #[.int .i64 t[x].f0, .int .i64 t[x].f1, .string t[x].f2]) ∧ Grown W w' := by
  obtain ⟨b, off, rfl, hb, hc⟩ := C_at hr (by omega)
  have c0 := hc x hx 0 _ rfl
  have c1 := hc x hx 1 _ rfl
  have c2 := hc x hx 2 _ rfl
  have hne := lt_of_cell hbt
  have d0 := cell?_alloc_some (.cells #[.int .i64 0, .int .i64 0, .string ⟨#[]⟩] 25) c0
  have d1 := cell?_alloc_some (.cells #[.int .i64 0, .int .i64 0, .string ⟨#[]⟩] 25) c1
  have d2 := cell?_alloc_some (.cells #[.int .i64 0, .int .i64 0, .string ⟨#[]⟩] 25) c2
  have d3 := cell?_alloc_some (.cells #[.int .i64 0, .int .i64 0, .string ⟨#[]⟩] 25) hbt
  have hlt : (x : Int) < (t.length : Int) := by omega
  rw [Nat.add_zero] at d0
  clear hr hc c0 c1 c2 hbt hne hb
  generalize t[x] = y at d0 d1 d2 ⊢
  go_enter Tryz.func102, Tryz.ntmps102
  go_wp2
  refine bodyPost_ret (results_cell_row rfl _ _ W.heap.size 25 #[.int .i64 y.f0, .int .i64 y.f1, .string y.f2] (0, 0) _ rfl (heap_alloc_new _ _) Tryz.underlying25 rfl (by kernel_rfl)) rfl ?_
  exact ⟨rfl, (Grown.refl _).alloc _⟩

theorem flatS_snoc (l : List Sv) (x : Sv) : flatS (l ++ [x]) = flatS l ++ encS x := by
  apply List.ext_getElem?
  intro j
  by_cases h : j < l.length * 3
  · rw [List.getElem?_append_left (by rw [flatS_len]; exact h)]
    have e1 := flatS_get (l ++ [x]) (j / 3) (j % 3) (by simp; omega) (by omega)
    have e2 := flatS_get l (j / 3) (j % 3) (by omega) (by omega)
    rw [show j / 3 * 3 + j % 3 = j by omega] at e1 e2
    rw [e1, e2, List.getElem_append_left (by omega)]
  · rw [List.getElem?_append_right (by rw [flatS_len]; omega), flatS_len]
    by_cases h2 : j < l.length * 3 + 3
    · have e1 := flatS_get (l ++ [x]) l.length (j - l.length * 3) (by simp) (by omega)
      rw [show l.length * 3 + (j - l.length * 3) = j by omega] at e1
      rw [e1]; simp
    · rw [List.getElem?_eq_none (by rw [flatS_len]; simp; omega), List.getElem?_eq_none (by rw [encS_len]; omega)]
theorem cells_new3 (w : World) (x : Sv) (t : TypeId) : ∀ j u, (encS x)[j]? = some u → (w.alloc (.cells #[.int .i64 x.f0, .int .i64 x.f1, .string x.f2] t)).cell? ((⟨w.heap.size, 0, none⟩ : Addr).add j) = some u := by
  intro j u hj
  have hl : j < 3 := by have := (List.getElem?_eq_some_iff.1 hj).1; rwa [encS_len] at this
  rw [Addr.add_lit]
  have h3 : j = 0 ∨ j = 1 ∨ j = 2 := by omega
  rcases h3 with rfl | rfl | rfl <;> (simp [encS] at hj; subst hj; simp)

theorem own_step {w w' : World} {base : Nat} {e : TypeId} {size n : Nat} {v : Value} {xs : List Value} (h : w.ownsRow base e size v n xs) (hg : Grown w w') : w'.ownsRow base e size v n xs := own_move h (fun k hk => by
  obtain ⟨cs, hc⟩ := own_typed h k hk
  exact hg.below.block k (Array.getElem?_eq_some_iff.1 hc).1)

def pickT (t : List Sv) (ns : List Nat) : List Sv := ns.map fun x => t[x]!
theorem own_slice {w : World} {base : Nat} {e : TypeId} {size n : Nat} {v : Value} {xs : List Value} (h : w.ownsRow base e size v n xs) : ∃ A n c, v = .slice A n c := by
  rcases h.2 with ⟨rfl, _⟩ | ⟨g, cap, _, rfl, _⟩
  · exact ⟨_, _, _, rfl⟩
  · exact ⟨_, _, _, rfl⟩
theorem own_succ {w : World} {base : Nat} {e : TypeId} {size n : Nat} {v : Value} {xs : List Value} (h : w.ownsRow base e size v (n + 1) xs) : ∃ g cap, v = .slice (some ⟨g, 0, none⟩) (n + 1) cap := by
  rcases h.2 with ⟨_, e⟩ | ⟨g, cap, _, e, _⟩
  · cases e
  · exact ⟨g, cap, e⟩
theorem own_base {w : World} {base : Nat} {e : TypeId} {size n : Nat} {v : Value} {xs : List Value} (h : w.ownsRow base e size v n xs) : ∀ k, v.ownBlock = some k → base ≤ k := by
  rcases h.2 with ⟨rfl, _⟩ | ⟨g, cap, _, rfl, hb, _⟩
  · intro k hk; simp [Value.ownBlock] at hk
  · intro k hk
    have : g = k := by simpa [Value.ownBlock] using hk
    omega

set_option maxHeartbeats 4000000 in
set_option maxRecDepth 1000000 in
theorem mapped_any (bt : Nat) (At : Option Addr) (ct : Nat) (t : List Sv) (A : Option Addr) (c : Nat) (ns : List Nat) (w : World) (hn : ns.length < 1000000) (hin : ∀ x ∈ ns, x < t.length) (hbt : w.cell? ⟨bt, 0, none⟩ = some (.slice At t.length ct)) (hr : Kd.C k25 w At t.length t)
    (hA : ∀ j (hj : j < ns.length), ∃ b off, A = some ⟨b, off, none⟩ ∧ w.cell? ⟨b, off + j, none⟩ = some (.int .i64 (ns[j] : Int))) :
    Calls Tryz.prog 101 #[.slice A ns.length c, .func (.func 102) #[] #[.pointer (some ⟨bt, 0, none⟩)]] w fun e w' => ∃ v, e = .returned v ∧ w'.ownsRow w.heap.size 25 3 v ns.length (flatS (pickT t ns)) ∧ Grown w w' := by
  obtain ⟨i0, hi, hz0, hz1, hz2⟩ := info_parts Prog.infoV
  have hmk := run_make w 22 25 i0 _ Tryz.underlying22 hi hz0 .i64 .i64 0 (ns.length : Int) (by omega) (by omega) (by rw [hz2]; omega) (by omega)
  obtain ⟨w1, hr1, hown, hgr⟩ := run_make_own w w.heap.size 22 25 i0 _ 3 Tryz.underlying22 hi hz0 hz1 .i64 .i64 ns.length (by rw [hz2]; omega) (by unfold maxLen; omega) (Nat.le_refl _)
  have hG1 : Grown w w1 := by
    rw [hmk] at hr1
    injection hr1 with _ e
    rw [← e]
    exact (Grown.refl _).alloc _
  have HO := Aside0.mk hown
  have HG := Aside0.mk hG1
  have HA := Aside0.mk hA
  have HR := Aside0.mk hr
  have HBT := Aside0.mk hbt
  have HN := Aside0.mk hn
  have HIN := Aside0.mk hin
  clear hmk hown hgr hG1 hA hr hbt hn hin
  go_enter Tryz.func101, Tryz.ntmps101
  go_wp2
  clear hr1
  go_loopg [5, 7, 13] ns.length (fun gg s5 _ s13 wr => ∃ (k : Nat) (v : Value), k ≤ ns.length ∧ ns.length - k ≤ gg ∧ s5 = v ∧ s13 = .int .i64 k ∧ Aside0 (wr.ownsRow w.heap.size 25 3 v k (flatS (pickT t (ns.take k)))) ∧ Aside0 (Grown w wr) ∧ (∃ A n c, v = .slice A n c))
  case atStart => exact ⟨0, _, Nat.zero_le _, by omega, rfl, rfl, ⟨by simpa [flatS, flatK, pickT] using HO.out⟩, HG, ⟨_, _, _, rfl⟩⟩
  case round =>
    obtain ⟨k, v, hk, hg, rfl, rfl, HO1, HG1, A1, n1, c1, rfl⟩ := hrel
    by_cases hlt : k < ns.length
    · have hltz : (k : Int) < (ns.length : Int) := by omega
      obtain ⟨b, off, rfl, hc0⟩ := HA.out k hlt
      have hx := HIN.out ns[k] (List.getElem_mem hlt)
      have hc : wr.cell? ⟨b, off + k, none⟩ = some (.int .i64 (ns[k] : Int)) := (HG1.out.below.cell (p := ⟨b, off + k, none⟩) (lt_of_cell hc0)).trans hc0
      have hbt1 : wr.cell? ⟨bt, 0, none⟩ = some (.slice At t.length ct) := (HG1.out.below.cell (p := ⟨bt, 0, none⟩) (lt_of_cell HBT.out)).trans HBT.out
      have hp := pick2 bt At t.length ct t ns[k] hx wr hbt1 (Kd.C_below HR.out HG1.out.below)
      have hy : t[ns[k]] = t[ns[k]]! := (getElem!_pos t ns[k] hx).symm
      rw [hy] at hp
      have HP := Aside0.mk hp
      have HX : Aside0 (pickT t (ns.take (k + 1)) = pickT t (ns.take k) ++ [t[ns[k]]!]) := ⟨by unfold pickT; rw [List.take_succ_eq_append_getElem hlt, List.map_append]; rfl⟩
      clear hc0 hbt1 hp hy
      generalize t[ns[k]]! = y at HP HX
      generalize ns[k] = x at hc HP
      clear hx
      go_wp2_with fail
      refine HP.out.mono ?_
      rintro e w2 ⟨rfl, hg2⟩
      have HG2 := Aside0.mk (HG1.out.trans hg2)
      have HO2 := Aside0.mk (own_step HO1.out hg2)
      clear hg2
      go_wp2_with (at_builtin; refine wpList_append_own_d _ rfl _ _ 22 rfl w.heap.size 25 i0 _ 3 32 Tryz.underlying22 hi hz0 hz1 hz2 rfl (by decide) _ _ _ rfl (own_step HO2.out ((Grown.refl _).alloc _)) ⟨w2.heap.size, 0, none⟩ 1 1 (encS y) rfl ?qc1 ?qc2 ?qc3 ?qc4 ?qc5 ?qc6 ?_)
      case qc1 => rfl
      case qc2 => exact cells_new3 _ _ _
      case qc3 => exact encS_one y
      case qc4 => unfold maxLen; have := HN.out; omega
      case qc5 => have := HN.out; omega
      case qc6 => simp; have := HG2.out.size; omega
      intro v' w3 hown hgrow hnil hdr
      obtain ⟨g', cap', rfl⟩ := own_succ hown
      have hG3 : Grown w w3 := by
        have h2 := HG2.out.alloc (.cells #[.int .i64 y.f0, .int .i64 y.f1, .string y.f2] 25)
        refine ⟨h2.below.grown hgrow h2.size (fun q hq => own_base HO1.out q hq), Nat.le_trans h2.drawn hdr⟩
      have HG3 := Aside0.mk hG3
      have HO3 := Aside0.mk hown
      clear hG3 hown hgrow hnil hdr
      go_wp2_with fail
      go_roundg (ns.length - (k + 1))
      case measure => omega
      case rel =>
        refine ⟨k + 1, _, by omega, Nat.le_refl _, rfl, congrArg (Value.int .i64) (by have := HN.out; unfold wrap64; omega), ⟨?_⟩, HG3, ⟨_, _, _, rfl⟩⟩
        rw [HX.out, flatS_snoc]
        exact HO3.out
    · have hltz : ¬ (k : Int) < (ns.length : Int) := by omega
      have : k = ns.length := by omega
      subst this
      rw [List.take_length] at HO1
      go_wp2_with fail
      go_ret
      exact ⟨_, rfl, HO1.out, HG1.out⟩

set_option maxHeartbeats 1000000 in
set_option maxRecDepth 100000 in
theorem indexI_nil (F : Value) (w : World) : Calls Tryz.prog 107 #[.slice none 0 0, F] w fun e w' => e = .returned (.int .i64 (-1)) ∧ w' = w := by
  go_enter Tryz.func107, Tryz.ntmps107
  go_wp2
  refine wp_loop_rounds 1 ?_
  rw [rounds_succ]
  go_wp2
  go_ret
  exact ⟨rfl, rfl⟩
set_option maxHeartbeats 1000000 in
set_option maxRecDepth 100000 in
theorem deleteI_nil (F : Value) (w : World) : Calls Tryz.prog 98 #[.slice none 0 0, F] w fun e w' => e = .returned (.slice none 0 0) ∧ w' = w := by
  have HE := Aside0.mk (indexI_nil F w)
  go_enter Tryz.func98, Tryz.ntmps98
  go_wp2_with fail
  refine HE.out.mono ?_
  rintro e w' ⟨rfl, rfl⟩
  go_wp2
  go_ret
  exact ⟨rfl, rfl⟩
/-- Columns, as int64s. -/
def colI (ns : List Nat) : List Int := ns.map fun x : Nat => (x : Int)
theorem colI_len (ns : List Nat) : (colI ns).length = ns.length := by simp [colI]
theorem deleteI_all (bt : Nat) (At : Option Addr) (ct n : Nat) (ns : List Nat) (g cap : Nat) (w : World) (hn : ns.length < 1000000) (hin : ∀ x ∈ ns, x < n) (hbt : w.cell? ⟨bt, 0, none⟩ = some (.slice At n ct)) (hne : bt ≠ g) (hH : Holds (Value.int .i64) w g 0 (colI ns).toArray) (hcap : ns.length ≤ cap) :
    Calls Tryz.prog 98 #[.slice (some ⟨g, 0, none⟩) ns.length cap, .func (.func 100) #[] #[.pointer (some ⟨bt, 0, none⟩)]] w fun e w' => e = .returned (.slice (some ⟨g, 0, none⟩) ns.length cap) ∧ ∃ q, w' = w.drewN q := by
  have hB := lt_of_cell hbt
  have hf : (colI ns).toArray.toList.filter (fun x => !outB n x) = colI ns := by
    simp only [List.filter_eq_self]
    intro x hx
    unfold colI at hx
    obtain ⟨y, hy, rfl⟩ := List.mem_map.1 hx
    have := hin y hy
    unfold outB
    simp
    omega
  have h := AnyE.slices_DeleteFunc Tryz.deleteI (Value.int .i64) (fun _ => rfl) (outB n) 100 #[.pointer (some ⟨bt, 0, none⟩)] (enters_of Tryz.func100 (by kernel_rfl) rfl) 0 Tryz.zeroValue3 g 0 cap (colI ns).toArray w
    (fun W x hb => pick1 bt At n ct x W ((hb.cell (p := ⟨bt, 0, none⟩) hB).trans hbt))
    (fun m os dk x _ => pick1 bt At n ct x _ (by
      unfold sortWorld
      rw [cell?_grow _ _ _ (by show bt < (putRow _ _ _ _ _).heap.size; rw [size_putRow]; exact hB), cell?_putRow_other _ _ g 0 _ _ (Or.inl hne)]
      exact hbt)) hH (by simp [colI_len]; omega) (by simp [colI_len]; omega)
  change Calls Tryz.prog 98 _ _ _ at h
  rw [hf] at h
  simp only [List.size_toArray, colI_len, Nat.sub_self, List.replicate_zero, List.append_nil] at h
  refine h.mono fun e w' ⟨h1, q, h2⟩ => ⟨h1, q, ?_⟩
  rw [h2]
  exact putRow_self (Value.int .i64) (Sort.ahead w q) g 0 _ (holds_ahead _ _ _ _ _ _ hH)

set_option maxHeartbeats 4000000 in
set_option maxRecDepth 1000000 in
theorem pick_any (At : Option Addr) (ct : Nat) (t : List Sv) (A : Option Addr) (c : Nat) (ns : List Nat) (w : World) (hn : ns.length < 1000000) (hin : ∀ x ∈ ns, x < t.length) (hr : Kd.C k25 w At t.length t)
    (hA : ∀ j u, ((colI ns).map (Value.int .i64))[j]? = some u → ∃ ad, A = some ad ∧ w.cell? (ad.add j) = some u) (hA0 : A = none → ns.length = 0) :
    Calls Tryz.prog 80 #[.slice At t.length ct, .slice A ns.length c] w fun e w' => ∃ v, e = .returned v ∧ w'.ownsRow w.heap.size 25 3 v ns.length (flatS (pickT t ns)) ∧ Grown w w' := by
  have hbt : (w.alloc (.cells #[.slice At t.length ct] 22)).cell? ⟨w.heap.size, 0, none⟩ = some (.slice At t.length ct) := by simp
  have hcl := cloneI A ns.length c ((colI ns).map (Value.int .i64)) (w.alloc (.cells #[.slice At t.length ct] 22)) (by simp [colI_len]) (by omega) (fun j u hj => by
    obtain ⟨ad, e, h⟩ := hA j u hj
    exact ⟨ad, e, cell?_alloc_some _ h⟩) (by intro u hu; obtain ⟨x, _, rfl⟩ := List.mem_map.1 hu; rfl) hA0
  have HCL := Aside0.mk hcl
  have HBT := Aside0.mk hbt
  have HR := Aside0.mk (Kd.C_below hr ((Grown.refl w).alloc (.cells #[.slice At t.length ct] 22)).below)
  have HG := Aside0.mk ((Grown.refl w).alloc (.cells #[.slice At t.length ct] 22))
  have HN := Aside0.mk hn
  have HIN := Aside0.mk hin
  clear hcl hbt hr hA hA0 hn hin
  go_enter Tryz.func80, Tryz.ntmps80
  go_wp2_with fail
  refine HCL.out.mono ?_
  rintro e w1 ⟨v1, rfl, hown, hnil, hg1⟩
  have HO := Aside0.mk hown
  have HG1 := Aside0.mk (HG.out.trans hg1)
  have HBT1 := Aside0.mk ((hg1.below.cell (p := ⟨w.heap.size, 0, none⟩) (by simp)).trans HBT.out)
  have HR1 := Aside0.mk (Kd.C_below HR.out hg1.below)
  have HW := Aside0.mk (show (w.alloc (.cells #[.slice At t.length ct] 22)).heap.size = w.heap.size + 1 by simp)
  clear hown hnil hg1 HCL HBT HR
  by_cases hv : v1 = .slice none 0 0
  · subst hv
    have h0 : ns = [] := by
      rcases HO.out.2 with ⟨_, e⟩ | ⟨_, _, _, e, _⟩
      · exact List.eq_nil_of_length_eq_zero e
      · cases e
    subst h0
    have HM := Aside0.mk (mapped_any w.heap.size At ct t none 0 [] w1 (by simp) (by simp) HBT1.out HR1.out (fun j hj => by simp at hj))
    go_wp2_with fail
    refine (deleteI_nil _ _).mono ?_
    rintro e w2 ⟨rfl, rfl⟩
    go_wp2_with fail
    refine HM.out.mono ?_
    rintro e w3 ⟨v, rfl, ho, hg⟩
    have HO3 := Aside0.mk ho
    have HG3 := Aside0.mk (HG1.out.trans hg)
    clear ho hg
    obtain ⟨A3, n3, c3, rfl⟩ := own_slice HO3.out
    go_wp2_with fail
    go_ret
    exact ⟨_, rfl, own_weaken HO3.out HG1.out.size, HG3.out⟩
  · have hho := holds_of_ownsRow HO.out hv
    obtain ⟨g, cap, rfl, hb, hlt, hnc, _, _, hH⟩ := hho
    have hne : w.heap.size ≠ g := by have := HW.out; omega
    have HD := Aside0.mk (deleteI_all w.heap.size At ct t.length ns g cap w1 HN.out HIN.out HBT1.out hne hH hnc)
    have HH := Aside0.mk hH
    clear hv hb hlt hnc hH hne
    go_wp2_with fail
    refine HD.out.mono ?_
    rintro e w2 ⟨rfl, q, rfl⟩
    have HM := Aside0.mk (mapped_any w.heap.size At ct t (some ⟨g, 0, none⟩) cap ns (w1.drewN q) HN.out HIN.out HBT1.out (Kd.C_below HR1.out ((Grown.refl _).drewN q).below) (fun j hj => ⟨g, 0, rfl, by
      have h := (HH.out j (by simp [colI_len]; exact hj)).1
      rw [World.cell?_drewN, h, getElem!_pos _ j (by simp [colI_len]; exact hj)]
      simp [colI]⟩))
    clear HD
    go_wp2_with fail
    refine HM.out.mono ?_
    rintro e w3 ⟨v, rfl, ho, hg⟩
    have HO3 := Aside0.mk ho
    have HG3 := Aside0.mk ((HG1.out.drewN q).trans hg)
    clear ho hg
    obtain ⟨A3, n3, c3, rfl⟩ := own_slice HO3.out
    go_wp2_with fail
    go_ret
    exact ⟨_, rfl, own_weaken HO3.out HG1.out.size, HG3.out⟩

theorem lt_of_cell' {w : World} {a : Addr} {v : Value} {j : Nat} (h : w.cell? (a.add j) = some v) : (a.add j).block < w.heap.size := lt_of_cell h
theorem cellsC {w : World} {A : Option Addr} {l : List Sv} (h : Kd.C k25 w A l.length l) (k : Nat) (hk : k < l.length) : ∃ b off, A = some ⟨b, off, none⟩ ∧ w.cell? ⟨b, off + k * 3, none⟩ = some (.int .i64 l[k].f0) ∧ w.cell? ⟨b, off + k * 3 + 1, none⟩ = some (.int .i64 l[k].f1) ∧ w.cell? ⟨b, off + k * 3 + 2, none⟩ = some (.string l[k].f2) := by
  obtain ⟨b, off, e, _, hc⟩ := C_at h (by omega)
  exact ⟨b, off, e, hc k hk 0 _ rfl, hc k hk 1 _ rfl, hc k hk 2 _ rfl⟩
theorem lex_step (xs ys : List Sv) (k : Nat) (h1 : k < xs.length) (h2 : k < ys.length) : lexS (xs.drop k) (ys.drop k) = if cmpS xs[k] ys[k] = 0 then lexS (xs.drop (k + 1)) (ys.drop (k + 1)) else cmpS xs[k] ys[k] := by
  rw [List.drop_eq_getElem_cons h1, List.drop_eq_getElem_cons h2, lexS]

set_option maxHeartbeats 4000000 in
set_option maxRecDepth 1000000 in
theorem compareFunc_any (A1 : Option Addr) (c1 : Nat) (xs : List Sv) (A2 : Option Addr) (c2 : Nat) (ys : List Sv) (w : World) (h1 : Kd.C k25 w A1 xs.length xs) (h2 : Kd.C k25 w A2 ys.length ys) (hx : xs.length < 1000000) :
    Calls Tryz.prog 79 #[.slice A1 xs.length c1, .slice A2 ys.length c2, .func (.func 27) #[] #[]] w fun e w' => e = .returned (.int .i64 (lexS xs ys)) ∧ Grown w w' := by
  have H1 := Aside0.mk h1
  have H2 := Aside0.mk h2
  have HX := Aside0.mk hx
  clear h1 h2 hx
  go_enter Tryz.func79, Tryz.ntmps79
  go_wp2
  go_loopg [13] xs.length (fun gg s13 wr => ∃ k : Nat, k ≤ xs.length ∧ k ≤ ys.length ∧ xs.length - k ≤ gg ∧ s13 = .int .i64 k ∧ Aside0 (Grown w wr) ∧ Aside0 (lexS xs ys = lexS (xs.drop k) (ys.drop k)))
  case atStart => exact ⟨0, Nat.zero_le _, Nat.zero_le _, by omega, rfl, ⟨Grown.refl _⟩, ⟨rfl⟩⟩
  case round =>
    obtain ⟨k, hk, hk2, hg, rfl, HG, HL⟩ := hrel
    by_cases hlt : k < xs.length
    · have hltz : (k : Int) < (xs.length : Int) := by omega
      obtain ⟨b1, o1, rfl, x0, x1, x2⟩ := cellsC (Kd.C_below H1.out HG.out.below) k hlt
      by_cases hlt2 : k < ys.length
      · have g2 : decide ((ys.length : Int) ≤ (k : Int)) = false := by simp; omega
        have hltz2 : (k : Int) < (ys.length : Int) := by omega
        obtain ⟨b2, o2, rfl, y0, y1, y2⟩ := cellsC (Kd.C_below H2.out HG.out.below) k hlt2
        have HS := Aside0.mk (lex_step xs ys k hlt hlt2)
        have HC := Aside0.mk (value_Compare xs[k] ys[k])
        generalize xs[k] = x at x0 x1 x2 HS HC
        generalize ys[k] = y at y0 y1 y2 HS HC
        have y0' := cell?_alloc_some (.cells #[.int .i64 x.f0, .int .i64 x.f1, .string x.f2] 25) y0
        have y1' := cell?_alloc_some (.cells #[.int .i64 x.f0, .int .i64 x.f1, .string x.f2] 25) y1
        have y2' := cell?_alloc_some (.cells #[.int .i64 x.f0, .int .i64 x.f1, .string x.f2] 25) y2
        go_wp2_with fail
        refine (HC.out _).mono ?_
        rintro e w2 ⟨rfl, hg2⟩
        have HG2 := Aside0.mk (((HG.out.alloc (.cells #[.int .i64 x.f0, .int .i64 x.f1, .string x.f2] 25)).alloc (.cells #[.int .i64 y.f0, .int .i64 y.f1, .string y.f2] 25)).trans hg2)
        clear hg2 x0 x1 x2 y0 y1 y2 y0' y1' y2' HC
        by_cases hc : cmpS x y = 0
        · have HE : Aside0 (lexS xs ys = lexS (xs.drop (k + 1)) (ys.drop (k + 1))) := ⟨by rw [HL.out, HS.out, if_pos hc]⟩
          rw [hc]
          clear hc HS
          go_wp2_with fail
          go_roundg (xs.length - (k + 1))
          case measure => omega
          case rel => exact ⟨k + 1, by omega, by omega, Nat.le_refl _, congrArg (Value.int .i64) (by have := HX.out; unfold wrap64; omega), HG2, HE⟩
        · have HE : Aside0 (lexS xs ys = cmpS x y) := ⟨by rw [HL.out, HS.out, if_neg hc]⟩
          have gc : (cmpS x y != 0) = true := bne_iff_ne.2 hc
          clear hc HS HL
          generalize cmpS x y = r at gc HE ⊢
          go_wp2_with fail
          go_ret
          exact ⟨by rw [HE.out]; rfl, HG2.out⟩
      · have g2 : decide ((ys.length : Int) ≤ (k : Int)) = true := by simp; omega
        have HE : Aside0 (lexS xs ys = 1) := ⟨by rw [HL.out, List.drop_eq_getElem_cons hlt, show ys.drop k = [] from List.drop_eq_nil_of_le (by omega)]; rfl⟩
        generalize xs[k] = x at x0 x1 x2
        go_wp2_with fail
        go_ret
        exact ⟨by rw [HE.out]; rfl, HG.out.alloc _⟩
    · have : k = xs.length := by omega
      subst this
      have HL' := HL.out
      rw [List.drop_length] at HL'
      have HL2 := Aside0.mk HL'
      clear HL' HL
      by_cases hy : xs.length < ys.length
      · have g2 : decide ((xs.length : Int) < (ys.length : Int)) = true := by simp; omega
        have HE : Aside0 (lexS xs ys = -1) := ⟨by rw [HL2.out, List.drop_eq_getElem_cons hy]; rfl⟩
        go_wp2_with fail
        go_ret
        exact ⟨by rw [HE.out]; rfl, HG.out⟩
      · have g2 : decide ((xs.length : Int) < (ys.length : Int)) = false := by simp; omega
        have HE : Aside0 (lexS xs ys = 0) := ⟨by rw [HL2.out, show ys.drop xs.length = [] from List.drop_eq_nil_of_le (by omega)]; rfl⟩
        go_wp2_with fail
        go_ret
        exact ⟨by rw [HE.out]; rfl, HG.out⟩

/-- A row of the call's own, of values, is read. -/
theorem C_of_own {w : World} {base n : Nat} {A : Option Addr} {m c : Nat} {l : List Sv} (h : w.ownsRow base 25 3 (.slice A m c) n (flatS l)) : m = l.length ∧ Kd.C k25 w A l.length l := by
  have := Kd.R_reads' (R_of_own3 (ok := fun _ => True) h (fun _ _ => trivial))
  exact ⟨this.1, this.2.2⟩

set_option maxHeartbeats 4000000 in
set_option maxRecDepth 1000000 in
theorem tupleCompare_any (A1 : Option Addr) (c1 : Nat) (xs : List Sv) (A2 : Option Addr) (c2 : Nat) (ys : List Sv) (A : Option Addr) (c : Nat) (ns : List Nat) (w : World) (h1 : Kd.C k25 w A1 xs.length xs) (h2 : Kd.C k25 w A2 ys.length ys) (hn : ns.length < 1000000)
    (hin : ∀ x ∈ ns, x < xs.length) (hin2 : ∀ x ∈ ns, x < ys.length) (hA : ∀ j u, ((colI ns).map (Value.int .i64))[j]? = some u → ∃ ad, A = some ad ∧ w.cell? (ad.add j) = some u) (hA0 : A = none → ns.length = 0) :
    Calls Tryz.prog 55 #[.slice A1 xs.length c1, .slice A2 ys.length c2, .slice A ns.length c] w fun e w' => e = .returned (.int .i64 (lexS (pickT xs ns) (pickT ys ns))) ∧ Grown w w' := by
  have P1 := Aside0.mk (pick_any A1 c1 xs A c ns w hn hin h1 hA hA0)
  have P2 : Aside0 (∀ W, Grown w W → Calls Tryz.prog 80 #[.slice A2 ys.length c2, .slice A ns.length c] W fun e w' => ∃ v, e = .returned v ∧ w'.ownsRow W.heap.size 25 3 v ns.length (flatS (pickT ys ns)) ∧ Grown W w') :=
    ⟨fun W hW => pick_any A2 c2 ys A c ns W hn hin2 (Kd.C_below h2 hW.below) (fun j u hj => by
      obtain ⟨ad, e, h⟩ := hA j u hj
      exact ⟨ad, e, (hW.below.cell (lt_of_cell' h)).trans h⟩) hA0⟩
  have HN := Aside0.mk hn
  clear h1 h2 hin hin2 hA hA0 hn
  go_enter Tryz.func55, Tryz.ntmps55
  go_wp2_with fail
  refine P1.out.mono ?_
  rintro e w1 ⟨v1, rfl, ho1, hg1⟩
  obtain ⟨B1, m1, d1, rfl⟩ := own_slice ho1
  have HO1 := Aside0.mk ho1
  have HG1 := Aside0.mk hg1
  clear ho1 hg1 P1
  go_wp2_with fail
  refine (P2.out _ HG1.out).mono ?_
  rintro e w2 ⟨v2, rfl, ho2, hg2⟩
  obtain ⟨B2, m2, d2, rfl⟩ := own_slice ho2
  obtain ⟨e1, hc1⟩ := C_of_own (own_step HO1.out hg2)
  obtain ⟨e2, hc2⟩ := C_of_own ho2
  subst e1; subst e2
  have HCF := Aside0.mk (compareFunc_any B1 d1 (pickT xs ns) B2 d2 (pickT ys ns) w2 hc1 hc2 (by simp [pickT]; exact HN.out))
  have HG2 := Aside0.mk (HG1.out.trans hg2)
  clear ho2 hg2 hc1 hc2 HO1 P2
  go_wp2_with fail
  refine HCF.out.mono ?_
  rintro e w3 ⟨rfl, hg3⟩
  have HG3 := Aside0.mk (HG2.out.trans hg3)
  clear hg3 HCF
  go_wp2_with fail
  go_ret
  exact ⟨rfl, HG3.out⟩

theorem Prog.infoInt : (Tryz.prog.info? 3).map (fun i => (i.zero, i.size, i.bytes)) = some (some (.int .i64 0), 1, 8) := by kernel_rfl
theorem colI_snoc (k : Nat) : colI (List.range (k + 1)) = colI (List.range k) ++ [(k : Int)] := by simp [colI, List.range_succ]
set_option maxHeartbeats 4000000 in
set_option maxRecDepth 1000000 in
theorem plain_any (n : Nat) (w : World) (hn : n < 1000000) :
    Calls Tryz.prog 56 #[.int .i64 (n : Int)] w fun e w' => ∃ v, e = .returned v ∧ w'.ownsRow w.heap.size 3 1 v n ((colI (List.range n)).map (Value.int .i64)) ∧ Grown w w' := by
  obtain ⟨i0, hi, hz0, hz1, hz2⟩ := info_parts Prog.infoInt
  have HN := Aside0.mk hn
  clear hn
  go_enter Tryz.func56, Tryz.ntmps56
  go_wp2
  go_loopg [3, 4, 6] n (fun gg s3 _ s6 wr => ∃ (k : Nat) (v : Value), k ≤ n ∧ n - k ≤ gg ∧ s3 = v ∧ s6 = .int .i64 k ∧ Aside0 (wr.ownsRow w.heap.size 3 1 v k ((colI (List.range k)).map (Value.int .i64))) ∧ Aside0 (Grown w wr) ∧ (∃ A n c, v = .slice A n c))
  case atStart => exact ⟨0, _, Nat.zero_le _, by omega, rfl, rfl, ⟨World.ownsRow_nil _ _ _ _⟩, ⟨Grown.refl _⟩, ⟨_, _, _, rfl⟩⟩
  case round =>
    obtain ⟨k, v, hk, hg, rfl, rfl, HO, HG, A1, n1, c1, rfl⟩ := hrel
    by_cases hlt : k < n
    · have hltz : (k : Int) < (n : Int) := by omega
      go_wp2_with (at_builtin; refine wpList_append_own_d _ rfl _ _ 80 rfl w.heap.size 3 i0 _ 1 8 Tryz.underlying80 hi hz0 hz1 hz2 rfl (by decide) _ _ _ rfl (own_step HO.out ((Grown.refl _).alloc _)) ⟨wr.heap.size, 0, none⟩ 1 1 [.int .i64 (k : Int)] rfl ?qc1 ?qc2 ?qc3 ?qc4 ?qc5 ?qc6 ?_)
      case qc1 => rfl
      case qc2 => exact cell_one_new _ _ _
      case qc3 => intro u hu; simp at hu; subst hu; rfl
      case qc4 => unfold maxLen; have := HN.out; omega
      case qc5 => have := HN.out; omega
      case qc6 => simp; have := HG.out.size; omega
      intro v' w3 hown hgrow hnil hdr
      obtain ⟨g', cap', rfl⟩ := own_succ hown
      have hG3 : Grown w w3 := by
        have h2 := HG.out.alloc (.cells #[.int .i64 (k : Int)] 3)
        exact ⟨h2.below.grown hgrow h2.size (fun q hq => own_base HO.out q hq), Nat.le_trans h2.drawn hdr⟩
      have HG3 := Aside0.mk hG3
      have HO3 := Aside0.mk hown
      clear hG3 hown hgrow hnil hdr
      go_wp2_with fail
      go_roundg (n - (k + 1))
      case measure => omega
      case rel =>
        refine ⟨k + 1, _, by omega, Nat.le_refl _, rfl, congrArg (Value.int .i64) (by have := HN.out; unfold wrap64; omega), ⟨?_⟩, HG3, ⟨_, _, _, rfl⟩⟩
        rw [colI_snoc, List.map_append]
        exact HO3.out
    · have hltz : ¬ (k : Int) < (n : Int) := by omega
      have : k = n := by omega
      subst this
      go_wp2_with fail
      go_ret
      exact ⟨_, rfl, HO.out, HG.out⟩

theorem pickT_range (t : List Sv) (n : Nat) (h : n ≤ t.length) : pickT t (List.range n) = t.take n := by
  unfold pickT
  apply List.ext_getElem
  · simp; omega
  · intro i h1 h2
    have hi : i < n := by simpa using h1
    simp only [List.getElem_map, List.getElem_range, List.getElem_take]
    rw [getElem!_pos t i (by omega)]

set_option maxHeartbeats 4000000 in
set_option maxRecDepth 1000000 in
/-- THE CLOSURE OF grouped: how two tuples lie to each other by all columns but the last. -/
theorem byHead_any (bn n : Nat) (A1 : Option Addr) (c1 : Nat) (xs : List Sv) (A2 : Option Addr) (c2 : Nat) (ys : List Sv) (w : World) (hn : n < 1000000) (hbn : w.cell? ⟨bn, 0, none⟩ = some (.int .i64 (n : Int))) (h1 : Kd.C k25 w A1 xs.length xs) (h2 : Kd.C k25 w A2 ys.length ys) (hx : n ≤ xs.length) (hy : n ≤ ys.length) :
    Calls Tryz.prog 54 #[.slice A1 xs.length c1, .slice A2 ys.length c2, .pointer (some ⟨bn, 0, none⟩)] w fun e w' => e = .returned (.int .i64 (lexS (xs.take n) (ys.take n))) ∧ Grown w w' := by
  have HP := Aside0.mk (plain_any n w hn)
  have H1 := Aside0.mk h1
  have H2 := Aside0.mk h2
  have HN := Aside0.mk hn
  have HX := Aside0.mk hx
  have HY := Aside0.mk hy
  clear h1 h2 hn hx hy
  go_enter Tryz.func54, Tryz.ntmps54
  go_wp2_with fail
  refine HP.out.mono ?_
  rintro e w1 ⟨v, rfl, ho, hg⟩
  obtain ⟨B, m, d, rfl⟩ := own_slice ho
  have hcells : (∀ j u, ((colI (List.range n)).map (Value.int .i64))[j]? = some u → ∃ ad, B = some ad ∧ w1.cell? (ad.add j) = some u) ∧ (B = none → (List.range n).length = 0) ∧ m = n := by
    rcases ho.2 with ⟨e, e0⟩ | ⟨g, cap, cur, e, hb, hh, _⟩
    · cases e
      subst e0
      exact ⟨fun j u hj => by simp [colI] at hj, fun _ => rfl, rfl⟩
    · cases e
      exact ⟨fun j u hj => ⟨_, rfl, ho.cells (g := g) rfl j u hj⟩, (fun e => by cases e), rfl⟩
  obtain ⟨q1, q2, rfl⟩ := hcells
  have HT := Aside0.mk (tupleCompare_any A1 c1 xs A2 c2 ys B d (List.range m) w1 (Kd.C_below H1.out hg.below) (Kd.C_below H2.out hg.below) (by simpa using HN.out) (fun x hx => by have := List.mem_range.1 hx; have := HX.out; omega) (fun x hx => by have := List.mem_range.1 hx; have := HY.out; omega) q1 q2)
  have HG := Aside0.mk hg
  rw [pickT_range xs m HX.out, pickT_range ys m HY.out, List.length_range] at HT
  clear ho hg q1 q2 HP
  go_wp2_with fail
  refine HT.out.mono ?_
  rintro e w2 ⟨rfl, hg2⟩
  have HG2 := Aside0.mk (HG.out.trans hg2)
  clear hg2 HT
  go_wp2_with fail
  go_ret
  exact ⟨rfl, HG2.out⟩
end Go.Proofs.YtolefpeiceiocaaGreat.Ps
