/- antecedentref18.most: how many sets there are at most of which none is part of another one. Condition: fewer than 1000000 of each kind. -/
import Derived.Test.YtliocmjeglbpiaaGd
import Derived.Test.YtliocmjeglbpiaaGlib
import Derived.Test.YtliocmjeglbpiaaPs10
import Derived.Test.YtliocmjeglbpiaaPfun
namespace Go.Proofs.Ytliocmjeglbpiaa.Ps
open Go.RowKit Go.Proofs.YtliocmjeglbpiaaW.PrintWords Go.Proofs.YtliocmjeglbpiaaW.PrintLast
set_option linter.unusedVariables false

theorem most_keep {H : Nat} {w W : World} {A : Option Addr} {l : List (List Int)} (hF : Kd.F (Kd.slice 3 (Kd.int .i64)) w (fun k => k < H) A l.length l) (hB : Below H w W) : Kd.F (Kd.slice 3 (Kd.int .i64)) W (fun k => k < H) A l.length l :=
  Kd.F_step hF (fun k hk _ => hB.block k hk)
theorem most_part (a b : List Int) (ha : a.length < 1000000) (hb : b.length < 1000000) (A c A' c') (q : Bool) (hq : partB a b = q) (h2 : a.length ≤ c) (h4 : b.length ≤ c') (W : World) (h1 : Kd.C (Kd.int .i64) W A a.length a) (h3 : Kd.C (Kd.int .i64) W A' b.length b) :
    Calls Try.prog 16 #[.slice A a.length c, .slice A' b.length c'] W fun e w' => e = .returned (.bool q) ∧ Drawn0 W w' := by
  subst hq
  obtain ⟨k, hk⟩ := part_spec a b ha hb
  exact antecedentref18_Part.calls k A c a A' c' b _ W h1 h2 h3 h4 (hk k (Nat.le_refl k))

theorem mostL_skip {l l2 : List (List Int)} {i j : Nat} (hi : i < l.length) (hj : j < l2.length) (h : (partB l2[j] l[i] || partB l[i] l2[j]) = true) : mostL (l.drop i) l2 = mostL (l.drop (i + 1)) l2 := by
  rw [List.drop_eq_getElem_cons hi, mostL, if_pos (List.any_eq_true.2 ⟨_, List.getElem_mem hj, h⟩)]
theorem mostL_take {l l2 : List (List Int)} {i : Nat} (hi : i < l.length) (h : ∀ m, m < l2.length → ∀ hm : m < l2.length, (partB l2[m] l[i] || partB l[i] l2[m]) = false) : mostL (l.drop i) l2 = max (mostL (l.drop (i + 1)) l2) (mostL (l.drop (i + 1)) (l2 ++ [l[i]])) := by
  rw [List.drop_eq_getElem_cons hi, mostL, if_neg]
  intro hc
  obtain ⟨y, hy, hc⟩ := List.any_eq_true.1 hc
  obtain ⟨m, hm, rfl⟩ := List.mem_iff_getElem.1 hy
  rw [h m hm hm] at hc
  cases hc
theorem max_cast (a b : Nat) : max (a : Int) (b : Int) = ((max a b : Nat) : Int) := by omega
theorem most_below {w wr : World} (h : Below w.heap.size w wr) (n : Nat) : Below w.heap.size w (wr.drewN n) := pw_below_drewN h n
theorem lit0 {W : World} {H g : Nat} (hg : H ≤ g) (hb : W.heap[g]? = some (.cells #[] 31 (0, 0))) : Kd.N (Kd.slice 3 (Kd.int .i64)) 31 W H (fun _ => True) (.slice (some ⟨g, 0, none⟩) 0 0) ([] : List (List Int)) := by
  refine ⟨fun _ _ => trivial, [], rfl, ?_, fun j x c hx => by simp at hx⟩
  refine ⟨fun k hk => hk.symm, [], ⟨rfl, .inr ⟨g, 0, #[], rfl, hg, hb, Nat.le_refl _, by decide, rfl, rfl⟩⟩, ?_⟩
  exact Reps.none _ _
theorem F_one {W : World} {g : Nat} {B0 : Option Addr} {x : List Int} {d0 : Nat} {ok : Nat → Prop} (hb : W.heap[g]? = some (.cells #[.slice B0 x.length d0] 31 (0, 0))) (hF : Kd.F (Kd.int .i64) W ok B0 x.length x) (hle : x.length ≤ d0) :
    Kd.F (Kd.slice 3 (Kd.int .i64)) W (fun k => ok k ∨ k = g) (some ⟨g, 0, none⟩) 1 [x] := by
  intro W' hW
  refine ⟨rfl, by decide, fun _ => ⟨⟨g, 0, none⟩, rfl, fun j p hj => ?_⟩⟩
  rcases j with _ | j
  · obtain rfl : x = p := by simpa using hj
    refine ⟨[.slice B0 x.length d0], rfl, ⟨B0, d0, rfl, hle, hF W' (fun k hk => hW k (.inl hk))⟩, fun i u hu => ?_⟩
    rcases i with _ | i
    · obtain rfl : Value.slice B0 x.length d0 = u := by simpa using hu
      have h1 := (hW g (.inr rfl) (by rcases Nat.lt_or_ge g W.heap.size with h | h; exact h; rw [Array.getElem?_eq_none h] at hb; cases hb)).trans hb
      exact cell_of_row W' g 0 _ _ _ h1
    · simp at hu
  · simp at hj

theorem one_new {w w2 : World} {B0 : Option Addr} {x : List Int} {d0 : Nat} (hB : Below w.heap.size w w2) (hF : Kd.F (Kd.int .i64) w (fun k => k < w.heap.size) B0 x.length x) (hle : x.length ≤ d0) :
    Kd.F (Kd.slice 3 (Kd.int .i64)) (w2.alloc (Obj.cells #[.slice B0 x.length d0] 31)) (fun k => k < w.heap.size ∨ k = w2.heap.size) (some ⟨w2.heap.size, 0, none⟩) 1 [x] :=
  F_one (by simp only [World.alloc, Array.getElem?_push, if_true]) (Kd.F_step hF (fun k hk _ => (below_alloc hB _).block k hk)) hle
theorem ok_new {w w2 : World} {v : Value} {xs : List (List Int)} (hN : Kd.N (Kd.slice 3 (Kd.int .i64)) 31 w2 w.heap.size (fun _ => True) v xs) : ∀ k, (k < w.heap.size ∨ k = w2.heap.size) → True ∧ some k ≠ v.ownBlock := by
  refine fun k hk => ⟨trivial, fun e => ?_⟩
  have h1 := Kd.N_base hN k e.symm
  have h2 := Kd.N_lt hN k e.symm
  omega
theorem one_old {w wr w2 : World} {B0 : Option Addr} {x : List Int} {d0 : Nat} (hB : Below w.heap.size w wr) (hF : Kd.F (Kd.int .i64) w (fun k => k < w.heap.size) B0 x.length x) (hle : x.length ≤ d0) (hG : ((wr.alloc (Obj.cells #[] 31)).drew.alloc (Obj.cells #[.slice B0 x.length d0] 31)).grownBy w2 (some wr.heap.size)) :
    Kd.F (Kd.slice 3 (Kd.int .i64)) w2 (fun k => k < w.heap.size ∨ k = wr.heap.size + 1) (some ⟨wr.heap.size + 1, 0, none⟩) 1 [x] := by
  have h := one_new (w := w) (w2 := (wr.alloc (Obj.cells #[] 31)).drew) (below_drew (below_alloc hB _)) hF hle
  have e : (wr.alloc (Obj.cells #[] 31)).drew.heap.size = wr.heap.size + 1 := by simp [World.drew]
  rw [e] at h
  refine Kd.F_grown h hG (fun k hk he => ?_)
  have e2 : k = wr.heap.size := Option.some.inj he
  have := hB.size
  omega
theorem ok_old {w wr w2 : World} {v : Value} {xs : List (List Int)} {N : Nat} (hB : Below w.heap.size w wr) (hN : Kd.N (Kd.slice 3 (Kd.int .i64)) 31 w2 w.heap.size (fun _ => True) v xs) (hAt : v.ownBlock = some wr.heap.size ∨ ∃ b, v.ownBlock = some b ∧ N ≤ b) (hn : wr.heap.size + 2 ≤ N) :
    ∀ k, (k < w.heap.size ∨ k = wr.heap.size + 1) → True ∧ some k ≠ v.ownBlock := by
  refine fun k hk => ⟨trivial, fun e => ?_⟩
  have h1 := Kd.N_base hN k e.symm
  have := hB.size
  rcases hAt with h | ⟨b, h, hb⟩
  · rw [h] at e
    have : k = wr.heap.size := Option.some.inj e
    omega
  · rw [h] at e
    have : k = b := Option.some.inj e
    omega

theorem one_oldC {w wr w2 : World} {B0 : Option Addr} {x : List Int} {d0 : Nat} (hB : Below w.heap.size w wr) (hF : Kd.F (Kd.int .i64) w (fun k => k < w.heap.size) B0 x.length x) (hle : x.length ≤ d0) (hG : ((wr.alloc (Obj.cells #[.slice B0 x.length d0] 31)).drew.alloc (Obj.cells #[] 31)).grownBy w2 (some (wr.heap.size + 1))) :
    Kd.F (Kd.slice 3 (Kd.int .i64)) w2 (fun k => k < w.heap.size ∨ k = wr.heap.size) (some ⟨wr.heap.size, 0, none⟩) 1 [x] := by
  have h := Kd.F_alloc (Kd.F_drew (one_new (w := w) (w2 := wr) hB hF hle)) (Obj.cells #[] 31)
  refine Kd.F_grown h hG (fun k hk he => ?_)
  have e2 : k = wr.heap.size + 1 := Option.some.inj he
  have := hB.size
  omega
theorem ok_oldC {w wr w2 : World} {v : Value} {xs : List (List Int)} {N : Nat} (hB : Below w.heap.size w wr) (hN : Kd.N (Kd.slice 3 (Kd.int .i64)) 31 w2 w.heap.size (fun _ => True) v xs) (hAt : v.ownBlock = some (wr.heap.size + 1) ∨ ∃ b, v.ownBlock = some b ∧ N ≤ b) (hn : wr.heap.size + 2 ≤ N) :
    ∀ k, (k < w.heap.size ∨ k = wr.heap.size) → True ∧ some k ≠ v.ownBlock := by
  refine fun k hk => ⟨trivial, fun e => ?_⟩
  have h1 := Kd.N_base hN k e.symm
  have := hB.size
  rcases hAt with h | ⟨b, h, hb⟩
  · rw [h] at e
    have : k = wr.heap.size + 1 := Option.some.inj e
    omega
  · rw [h] at e
    have : k = b := Option.some.inj e
    omega
theorem lit0C (wr : World) (H : Nat) (h : H ≤ wr.heap.size) (o : Obj) : Kd.N (Kd.slice 3 (Kd.int .i64)) 31 ((wr.alloc o).drew.alloc (Obj.cells #[] 31)) H (fun _ => True) (.slice (some ⟨wr.heap.size + 1, 0, none⟩) 0 0) ([] : List (List Int)) := by
  have e : (wr.alloc o).drew.heap.size = wr.heap.size + 1 := by simp [World.drew]
  exact lit0 (by omega) (by rw [← e]; simp only [World.alloc, Array.getElem?_push, if_true])

set_option maxHeartbeats 8000000 in
set_option maxRecDepth 100000 in
theorem most_walk (l : List (List Int)) (hin : ∀ s ∈ l, s.length < 1000000) (n : Nat) : ∀ (i : Nat) (A0 : Option Addr) (c0 : Nat) (A2 : Option Addr) (c2 : Nat) (l2 : List (List Int)) (w : World), i + n = l.length → l.length < 1000000 → n + l2.length < 1000000 → (∀ s ∈ l2, s.length < 1000000) →
    Kd.C (Kd.slice 3 (Kd.int .i64)) w A0 l.length l → l.length ≤ c0 → Kd.C (Kd.slice 3 (Kd.int .i64)) w A2 l2.length l2 → l2.length ≤ c2 →
    Calls Try.prog 23 #[.slice A0 l.length c0, .int .i64 i, .slice A2 l2.length c2] w fun e w' => e = .returned (.int .i64 (mostL (l.drop i) l2 : Int)) ∧ Below w.heap.size w w' := by
  induction n with
  | zero =>
    intro i A0 c0 A2 c2 l2 w hi hl hn hin2 h0 hc0 h2 hc2
    obtain rfl : i = l.length := by omega
    rw [List.drop_length]
    simp only [mostL]
    clear h0 h2
    go_enter Try.func23, Try.ntmps23
    go_wp2
    go_ret
    exact ⟨rfl, Below.refl _ _⟩
  | succ n ih =>
    intro i A0 c0 A2 c2 l2 w hi hl hn hin2 h0 hc0 h2 hc2
    have hlt : i < l.length := by omega
    have F0 := Lib.hid (Kd.C_F (Kd.heap_slice 3 (Kd.heap_int .i64)) h0)
    have F2 := Lib.hid (Kd.C_F (Kd.heap_slice 3 (Kd.heap_int .i64)) h2)
    have hne : (i == l.length) = false := by simp; omega
    have hne2 : ((i : Int) == (l.length : Int)) = false := by simp; omega
    have hw1 : wrap64 ((i : Int) + 1) = ((i + 1 : Nat) : Int) := wrap_succ i (by omega)
    have hq1 : ((i + 1 : Nat) : Int) = (i : Int) + 1 := by omega
    have HC1 := ih (i + 1) A0 c0 A2 c2 l2 w (by omega) hl (by omega) hin2 h0 hc0 h2 hc2
    rw [hq1] at HC1
    replace HC1 := Lib.hid HC1
    clear h0 h2
    go_enter Try.func23, Try.ntmps23
    go_wp2_with (first | (go_at_call 23; refine (HC1.out).mono ?_; rintro e w1 ⟨rfl, hb1⟩; have HB1 := Lib.hid hb1; clear hb1))
    clear HC1
    go_loopw [22] (fun v22 wr => ∃ j : Nat, j ≤ l2.length ∧ v22 = .int .i64 j ∧ (∀ m, (h : m < j) → ∀ hm : m < l2.length, (partB l2[m] l[i] || partB l[i] l2[m]) = false) ∧ Hid (Below w.heap.size w wr)) (fun v22 _ => l2.length - (intOf v22).toNat)
    case atStart => exact ⟨0, Nat.zero_le _, rfl, fun m h => absurd h (Nat.not_lt_zero _), HB1⟩
    case round =>
      obtain ⟨j, hj, rfl, hall, HBr⟩ := hrel
      clear HB1
      by_cases hjl : j < l2.length
      · have hl1 : decide ((j : Int) < (l2.length : Int)) = true := by simp; omega
        have hl2 : decide (j < l2.length) = true := by simp; omega
        obtain ⟨ad2, B2, d2, rfl, hx2, hl2', hi2⟩ := at_L3 (Kd.F_now (most_keep F2.out HBr.out)) (j : Int) (by omega) (by omega)
        obtain ⟨ad0, B0, d0, rfl, hx0, hl0', hi0⟩ := at_L3 (Kd.F_now (most_keep F0.out HBr.out)) (i : Int) (by omega) (by omega)
        rw [rdL l2 j hjl] at hx2 hl2' hi2
        rw [rdL l i hlt] at hx0 hl0' hi0
        rw [Int.toNat_natCast] at hx2 hx0
        have hyl : l2[j].length < 1000000 := hin2 _ (List.getElem_mem hjl)
        have hxl : l[i].length < 1000000 := hin _ (List.getElem_mem hlt)
        have I2 := Lib.hid hi2
        have I0 := Lib.hid hi0
        have L2 := Lib.hid hl2'
        have L0 := Lib.hid hl0'
        clear hi2 hi0 hl2' hl0'
        have p2 := eq_true (show (0 : Int) ≤ (j : Int) by omega)
        have q2 := eq_true (show (j : Int) < (l2.length : Int) by omega)
        have p0 := eq_true (show (0 : Int) ≤ (i : Int) by omega)
        have q0 := eq_true (show (i : Int) < (l.length : Int) by omega)
        cases r1 : partB l2[j] l[i] with
        | true =>
          have P1 := Lib.hid (most_part l2[j] l[i] hyl hxl B2 d2 B0 d0 true r1 L2.out L0.out)
          go_wp2
          repeat (go_quiet (first | (go_at_call 16; (with_reducible refine (P1.out _ ?s1 ?s2).mono ?_); (case s1 => repeat (first | exact I2.out | (with_reducible refine Kd.C_alloc ?_ _) | (with_reducible refine Kd.C_drewN ?_ _) | (with_reducible refine Kd.C_drew ?_))); (case s2 => repeat (first | exact I0.out | (with_reducible refine Kd.C_alloc ?_ _) | (with_reducible refine Kd.C_drewN ?_ _) | (with_reducible refine Kd.C_drew ?_))); rintro e w' ⟨rfl, ⟨nd, rfl⟩⟩; (try first | exact ⟨rfl, _, World.drewN_drewN _ _ _⟩ | exact ⟨rfl, _, Eq.trans (World.drewN_drewN _ _ _) (congrArg (World.drewN _) (Nat.add_assoc _ _ _))⟩))); try go_wp2)
          go_ret
          exact ⟨by rw [mostL_skip hlt hjl (by rw [r1]; rfl)]; rfl, most_below HBr.out _⟩
        | false =>
          have P1 := Lib.hid (most_part l2[j] l[i] hyl hxl B2 d2 B0 d0 false r1 L2.out L0.out)
          cases r2 : partB l[i] l2[j] with
          | true =>
            have P2 := Lib.hid (most_part l[i] l2[j] hxl hyl B0 d0 B2 d2 true r2 L0.out L2.out)
            go_wp2
            repeat (go_quiet (first | (go_at_call 16; (with_reducible refine (P1.out _ ?s1 ?s2).mono ?_); (case s1 => repeat (first | exact I2.out | (with_reducible refine Kd.C_alloc ?_ _) | (with_reducible refine Kd.C_drewN ?_ _) | (with_reducible refine Kd.C_drew ?_))); (case s2 => repeat (first | exact I0.out | (with_reducible refine Kd.C_alloc ?_ _) | (with_reducible refine Kd.C_drewN ?_ _) | (with_reducible refine Kd.C_drew ?_))); rintro e w' ⟨rfl, ⟨nd, rfl⟩⟩; (try first | exact ⟨rfl, _, World.drewN_drewN _ _ _⟩ | exact ⟨rfl, _, Eq.trans (World.drewN_drewN _ _ _) (congrArg (World.drewN _) (Nat.add_assoc _ _ _))⟩)) | (go_at_call 16; (with_reducible refine (P2.out _ ?s1 ?s2).mono ?_); (case s1 => repeat (first | exact I0.out | (with_reducible refine Kd.C_alloc ?_ _) | (with_reducible refine Kd.C_drewN ?_ _) | (with_reducible refine Kd.C_drew ?_))); (case s2 => repeat (first | exact I2.out | (with_reducible refine Kd.C_alloc ?_ _) | (with_reducible refine Kd.C_drewN ?_ _) | (with_reducible refine Kd.C_drew ?_))); rintro e w' ⟨rfl, ⟨nd, rfl⟩⟩; (try first | exact ⟨rfl, _, World.drewN_drewN _ _ _⟩ | exact ⟨rfl, _, Eq.trans (World.drewN_drewN _ _ _) (congrArg (World.drewN _) (Nat.add_assoc _ _ _))⟩))); try go_wp2)
            go_ret
            exact ⟨by rw [mostL_skip hlt hjl (by rw [r1, r2]; rfl)]; rfl, most_below HBr.out _⟩
          | false =>
            have P2 := Lib.hid (most_part l[i] l2[j] hxl hyl B0 d0 B2 d2 false r2 L0.out L2.out)
            go_wp2
            repeat (go_quiet (first | (go_at_call 16; (with_reducible refine (P1.out _ ?s1 ?s2).mono ?_); (case s1 => repeat (first | exact I2.out | (with_reducible refine Kd.C_alloc ?_ _) | (with_reducible refine Kd.C_drewN ?_ _) | (with_reducible refine Kd.C_drew ?_))); (case s2 => repeat (first | exact I0.out | (with_reducible refine Kd.C_alloc ?_ _) | (with_reducible refine Kd.C_drewN ?_ _) | (with_reducible refine Kd.C_drew ?_))); rintro e w' ⟨rfl, ⟨nd, rfl⟩⟩; (try first | exact ⟨rfl, _, World.drewN_drewN _ _ _⟩ | exact ⟨rfl, _, Eq.trans (World.drewN_drewN _ _ _) (congrArg (World.drewN _) (Nat.add_assoc _ _ _))⟩)) | (go_at_call 16; (with_reducible refine (P2.out _ ?s1 ?s2).mono ?_); (case s1 => repeat (first | exact I0.out | (with_reducible refine Kd.C_alloc ?_ _) | (with_reducible refine Kd.C_drewN ?_ _) | (with_reducible refine Kd.C_drew ?_))); (case s2 => repeat (first | exact I2.out | (with_reducible refine Kd.C_alloc ?_ _) | (with_reducible refine Kd.C_drewN ?_ _) | (with_reducible refine Kd.C_drew ?_))); rintro e w' ⟨rfl, ⟨nd, rfl⟩⟩; (try first | exact ⟨rfl, _, World.drewN_drewN _ _ _⟩ | exact ⟨rfl, _, Eq.trans (World.drewN_drewN _ _ _) (congrArg (World.drewN _) (Nat.add_assoc _ _ _))⟩))); try go_wp2)
            go_roundw
            case rel =>
              refine ⟨j + 1, by omega, by rw [Int.natCast_succ], fun m hm hm2 => ?_, Lib.hid (most_below HBr.out _)⟩
              rcases Nat.lt_or_eq_of_le (Nat.le_of_lt_succ hm) with h | h
              · exact hall m h hm2
              · subst h; rw [r1, r2]; rfl
            case measure => simp only [intOf]; omega
      · obtain rfl : j = l2.length := by omega
        have hl1 : decide ((l2.length : Int) < (l2.length : Int)) = false := by simp
        have hl2 : decide (l2.length < l2.length) = false := by simp
        go_wp2
        have hM := mostL_take hlt hall
        obtain ⟨ad0, B0, d0, rfl, hx0, hl0', hi0⟩ := at_L3 (Kd.F_now F0.out) (i : Int) (by omega) (by omega)
        rw [rdL l i hlt] at hx0 hl0' hi0
        rw [Int.toNat_natCast] at hx0
        have J0 := Lib.hid (Kd.C_F (Kd.heap_int .i64) hi0)
        have L0 := Lib.hid hl0'
        have X0 := Lib.hid hx0
        clear hi0 hl0' hx0
        have p0 := eq_true (show (0 : Int) ≤ (i : Int) by omega)
        have q0 := eq_true (show (i : Int) < (l.length : Int) by omega)
        have HN51 := Lib.hid (lit0 (W := wr.alloc (Obj.cells #[] 31)) (H := w.heap.size) (g := wr.heap.size) HBr.out.size (by simp only [World.alloc, Array.getElem?_push, if_true]))
        obtain ⟨L, hL⟩ : ∃ L, L = l2 ++ [l[i]] := ⟨_, rfl⟩
        have hLl : L.length = l2.length + 1 := by rw [hL]; simp
        have hLin : ∀ s ∈ L, s.length < 1000000 := fun s hs => by
          rw [hL] at hs
          rcases List.mem_append.1 hs with hs | hs
          · exact hin2 s hs
          · rw [List.mem_singleton.1 hs]; exact hin _ (List.getElem_mem hlt)
        have HR : ∀ (W : World) (A' : Option Addr) (c' : Nat), Kd.C (Kd.slice 3 (Kd.int .i64)) W (some ad0) l.length l → Kd.C (Kd.slice 3 (Kd.int .i64)) W A' L.length L → L.length ≤ c' → Calls Try.prog 23 #[.slice (some ad0) l.length c0, .int .i64 (IntKind.i64.wrap ((i : Int) + 1)), .slice A' (l2.length + 1) c'] W fun e w' => e = .returned (.int .i64 (mostL (l.drop (i + 1)) L : Int)) ∧ Below W.heap.size W w' := by
          intro W A' c' e1 e2 e3
          have h := ih (i + 1) (some ad0) c0 A' c' L W (by omega) hl (by omega) hLin e1 hc0 e2 e3
          rw [hq1, hLl] at h
          rw [IntWalk.i64_in _ (by omega)]
          exact h
        replace HR := Lib.hid HR
        rw [← hL] at hM
        go_cut [6] (fun v6 wc => v6 = .int .i64 (mostL (l.drop i) l2 : Int) ∧ Hid (Below w.heap.size w wc))
        case first =>
          go_region_held3 (fun W' => W'.cell? (ad0.add i) = some (.slice B0 l[i].length d0) ∧ Below w.heap.size w W') (exact ⟨pw_cell_below (by repeat (first | assumption | exact HBr.out | apply below_alloc | apply pw_below_drewN | apply below_drew)) X0.out, by repeat (first | assumption | exact HBr.out | apply below_alloc | apply pw_below_drewN | apply below_drew)⟩) (first | (refine Kd.N_append_rows_step (Kd.slice 3 (Kd.int .i64)) (w0 := w) w.heap.size (by rfl) (.tmp 51) (.tmp 52) 22 31 (.slice none 0 0) 24 rfl Try.underlying22 info31 rfl (by decide) (by decide) (.slice (some ⟨wr.heap.size, 0, none⟩) 0 0) [] l2 A2 l2.length c2 (fun _ => True) (fun k => k < w.heap.size) rfl rfl ?aO ?aR (fun k hk => ⟨trivial, fun e => by have e2 : k = wr.heap.size := Option.some.inj e; have := HBr.out.size; omega⟩) (fun _ _ => trivial) ?aB ?aS (by rw [List.length_nil]; omega) ?_; (case aO => (repeat (first | exact HN51.out | apply Kd.N_drew | apply Kd.N_drewN | apply Kd.N_alloc))); (case aR => exact most_keep F2.out (by (repeat (first | assumption | exact HBr.out | apply below_alloc | apply pw_below_drewN | apply below_drew)))); (case aB => (repeat (first | assumption | exact HBr.out | apply below_alloc | apply pw_below_drewN | apply below_drew))); (case aS => exact Below.size (w := w) (B := w.heap.size) (by (repeat (first | assumption | exact HBr.out | apply below_alloc | apply pw_below_drewN | apply below_drew)))); intro v1 w2 hN hB2 hG hAt; replace hN : Kd.N (Kd.slice 3 (Kd.int .i64)) 31 w2 w.heap.size (fun _ => True) v1 l2 := hN; obtain ⟨A1, c1, rfl⟩ := Kd.N_slice hN; have HN1 := Lib.hid hN; have HG1 := Lib.hid hG; have HT1 := Lib.hid hAt; clear hN hG hAt) | (refine Kd.N_append_rows_step (Kd.slice 3 (Kd.int .i64)) (w0 := w) w.heap.size (by rfl) (.tmp 51) (.tmp 52) 22 31 (.slice none 0 0) 24 rfl Try.underlying22 info31 rfl (by decide) (by decide) (.slice (some ⟨wr.heap.size + 1, 0, none⟩) 0 0) [] l2 A2 l2.length c2 (fun _ => True) (fun k => k < w.heap.size) rfl rfl ?aO ?aR (fun k hk => ⟨trivial, fun e => by have e2 : k = wr.heap.size + 1 := Option.some.inj e; have := HBr.out.size; omega⟩) (fun _ _ => trivial) ?aB ?aS (by rw [List.length_nil]; omega) ?_; (case aO => (repeat (first | exact lit0C wr _ HBr.out.size _ | apply Kd.N_drew | apply Kd.N_drewN | apply Kd.N_alloc))); (case aR => exact most_keep F2.out (by (repeat (first | assumption | exact HBr.out | apply below_alloc | apply pw_below_drewN | apply below_drew)))); (case aB => (repeat (first | assumption | exact HBr.out | apply below_alloc | apply pw_below_drewN | apply below_drew))); (case aS => exact Below.size (w := w) (B := w.heap.size) (by (repeat (first | assumption | exact HBr.out | apply below_alloc | apply pw_below_drewN | apply below_drew)))); intro v1 w2 hN hB2 hG hAt; replace hN : Kd.N (Kd.slice 3 (Kd.int .i64)) 31 w2 w.heap.size (fun _ => True) v1 l2 := hN; obtain ⟨A1, c1, rfl⟩ := Kd.N_slice hN; have HN1 := Lib.hid hN; have HG1 := Lib.hid hG; have HT1 := Lib.hid hAt; clear hN hG hAt) | (refine Kd.N_append_rows_step (Kd.slice 3 (Kd.int .i64)) (w0 := w) w.heap.size (by rfl) (.tmp 53) (.tmp 58) 22 31 (.slice none 0 0) 24 rfl Try.underlying22 info31 rfl (by decide) (by decide) (.slice A1 l2.length c1) l2 [l[i]] (some ⟨w2.heap.size, 0, none⟩) 1 1 (fun _ => True) (fun k => k < w.heap.size ∨ k = w2.heap.size) rfl rfl ?aO ?aR ?aK (fun _ _ => trivial) ?aB ?aS (by omega) ?_; (case aO => (repeat (first | exact HN1.out | apply Kd.N_drew | apply Kd.N_drewN | apply Kd.N_alloc))); (case aR => (repeat (first | exact (one_new (by assumption) J0.out L0.out) | apply Kd.F_drew | apply Kd.F_drewN | apply Kd.F_alloc))); (case aK => exact ok_new HN1.out); (case aB => (repeat (first | assumption | exact HBr.out | apply below_alloc | apply pw_below_drewN | apply below_drew))); (case aS => exact Below.size (w := w) (B := w.heap.size) (by (repeat (first | assumption | exact HBr.out | apply below_alloc | apply pw_below_drewN | apply below_drew)))); intro v2 w3 hN hB3 hG hAt; rw [← hL] at hN; obtain ⟨A3, c3, rfl⟩ := Kd.N_slice hN; have HN3 := Lib.hid hN; clear hN hG hAt) | (refine Kd.N_append_rows_step (Kd.slice 3 (Kd.int .i64)) (w0 := w) w.heap.size (by rfl) (.tmp 53) (.tmp 58) 22 31 (.slice none 0 0) 24 rfl Try.underlying22 info31 rfl (by decide) (by decide) (.slice A1 l2.length c1) l2 [l[i]] (some ⟨wr.heap.size + 1, 0, none⟩) 1 1 (fun _ => True) (fun k => k < w.heap.size ∨ k = wr.heap.size + 1) rfl rfl ?aO ?aR ?aK (fun _ _ => trivial) ?aB ?aS (by omega) ?_; (case aO => (repeat (first | exact HN1.out | apply Kd.N_drew | apply Kd.N_drewN | apply Kd.N_alloc))); (case aR => (repeat (first | exact (one_old HBr.out J0.out L0.out HG1.out) | apply Kd.F_drew | apply Kd.F_drewN | apply Kd.F_alloc))); (case aK => exact ok_old HBr.out HN1.out HT1.out (by simp [World.drew])); (case aB => (repeat (first | assumption | exact HBr.out | apply below_alloc | apply pw_below_drewN | apply below_drew))); (case aS => exact Below.size (w := w) (B := w.heap.size) (by (repeat (first | assumption | exact HBr.out | apply below_alloc | apply pw_below_drewN | apply below_drew)))); intro v2 w3 hN hB3 hG hAt; rw [← hL] at hN; obtain ⟨A3, c3, rfl⟩ := Kd.N_slice hN; have HN3 := Lib.hid hN; clear hN hG hAt) | (refine Kd.N_append_rows_step (Kd.slice 3 (Kd.int .i64)) (w0 := w) w.heap.size (by rfl) (.tmp 53) (.tmp 58) 22 31 (.slice none 0 0) 24 rfl Try.underlying22 info31 rfl (by decide) (by decide) (.slice A1 l2.length c1) l2 [l[i]] (some ⟨wr.heap.size, 0, none⟩) 1 1 (fun _ => True) (fun k => k < w.heap.size ∨ k = wr.heap.size) rfl rfl ?aO ?aR ?aK (fun _ _ => trivial) ?aB ?aS (by omega) ?_; (case aO => (repeat (first | exact HN1.out | apply Kd.N_drew | apply Kd.N_drewN | apply Kd.N_alloc))); (case aR => (repeat (first | exact (one_oldC HBr.out J0.out L0.out HG1.out) | apply Kd.F_drew | apply Kd.F_drewN | apply Kd.F_alloc))); (case aK => exact ok_oldC HBr.out HN1.out HT1.out (by simp [World.drew])); (case aB => (repeat (first | assumption | exact HBr.out | apply below_alloc | apply pw_below_drewN | apply below_drew))); (case aS => exact Below.size (w := w) (B := w.heap.size) (by (repeat (first | assumption | exact HBr.out | apply below_alloc | apply pw_below_drewN | apply below_drew)))); intro v2 w3 hN hB3 hG hAt; rw [← hL] at hN; obtain ⟨A3, c3, rfl⟩ := Kd.N_slice hN; have HN3 := Lib.hid hN; clear hN hG hAt) | (with_reducible refine (HR.out _ _ _ ?s1 ?s2 ?s3).mono ?_; (case s1 => exact Kd.F_now (most_keep F0.out (by assumption))); (case s2 => exact (Kd.N_reads' HN3.out).2.2); (case s3 => exact (Kd.N_reads' HN3.out).2.1); rintro e w4 ⟨rfl, hb4⟩; have hB4 := below_step hB3 hb4; clear hb4))
          all_goals (go_wp2; go_meet; first | exact ⟨congrArg (Value.int .i64) ((max_cast _ _).trans (congrArg Int.ofNat (by rw [hM, hL]))), Lib.hid hB4⟩ | trace_state)
        case rest =>
          obtain ⟨rfl, hb⟩ := hcut
          go_wp2
          go_ret
          exact ⟨rfl, hb.out⟩


theorem antecedentref18_most.calls (A0 : Option Addr) (c0 : Nat) (l0 : List (List Int)) (a1 : Int) (A2 : Option Addr) (c2 : Nat) (l2 : List (List Int)) (r : Int) (w : World) (hr0 : Kd.C (Kd.slice 3 (Kd.int .i64)) w A0 l0.length l0) (hc0 : l0.length ≤ c0) (hr2 : Kd.C (Kd.slice 3 (Kd.int .i64)) w A2 l2.length l2) (hc2 : l2.length ≤ c2) (h : antecedentref18_most.f l0 a1 l2 = some r) :
    Calls Try.prog 23 #[.slice A0 l0.length c0, .int .i64 a1, .slice A2 l2.length c2] w fun e w' => e = .returned (.int .i64 r) ∧ Below w.heap.size w w' := by
  unfold antecedentref18_most.f at h
  split at h
  · rename_i hh
    obtain ⟨h1, h2, h3, h4, h5⟩ := hh
    obtain rfl := Option.some.inj h
    obtain ⟨i, rfl⟩ := Int.eq_ofNat_of_zero_le h1
    exact most_walk l0 h4 (l0.length - i) i A0 c0 A2 c2 l2 w (by omega) (by omega) (by omega) h5 hr0 hc0 hr2 hc2
  · cases h
end Go.Proofs.Ytliocmjeglbpiaa.Ps
