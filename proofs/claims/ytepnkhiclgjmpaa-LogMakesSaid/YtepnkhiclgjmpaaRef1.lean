/-
  The document's log: Last, LastTerm, At, Has, Commit, Newer, Hint, Sync, Apply.
  Conditions: the log is in order.
-/
import Derived.Test.YtepnkhiclgjmpaaLog9
namespace Go.Proofs.Ytepnkhiclgjmpaa
set_option linter.unusedVariables false
set_option linter.unusedSimpArgs false
open Go.RowKit

section
variable {S : Nat → Prop} {w0 w : World} {R : List SP} {g : Nat} {x : Lg}
theorem rlast_own (hl : x.L.length ≤ 1000000) (hi : x.lastI ≤ maxI) (hi0 : 0 ≤ x.index) (h : Own S w0 w (SP.log 88 g x :: R)) :
    Calls Try.prog 18 #[.pointer (some ⟨g, 0, none⟩)] w fun e w' => e = .returned (.int .i64 x.lastI) ∧ Own S w0 w' (SP.log 88 g x :: R) := by
  have H := Lib.hid h
  obtain ⟨A, c, -, -, -, her, c0, c1, c2, -, -, -, -, -⟩ := h.log_cells
  obtain ⟨p, hp⟩ : ∃ p, x.lastI = p := ⟨_, rfl⟩
  rw [maxI_eq, hp] at hi
  have hw : IntKind.i64.wrap (x.index + (x.L.length : Int)) = p := by rw [IntWalk.i64_in _ (by unfold Lg.lastI at hp; omega), ← hp]; rfl
  rw [hp]
  clear h her hp hi hl
  go_enter Try.func18, Try.ntmps18
  go_wp2_with fail
  go_quiet (fail)
  go_wp2
  go_ret
  exact ⟨rfl, Own.drewN H.out _⟩

set_option maxHeartbeats 1600000 in
theorem rlastT_own (hl : x.L.length ≤ 1000000) (h : Own S w0 w (SP.log 88 g x :: R)) :
    Calls Try.prog 52 #[.pointer (some ⟨g, 0, none⟩)] w fun e w' => e = .returned (.int .i64 x.lastT) ∧ Own S w0 w' (SP.log 88 g x :: R) := by
  have H := Lib.hid h
  obtain ⟨A, c, -, -, -, her, c0, c1, c2, -, -, -, -, -⟩ := h.log_cells
  by_cases h0 : x.L = []
  · have e1 := x.lastT_nil h0
    rw [e1]
    have hn : x.L.length = 0 := by rw [h0]; rfl
    rw [hn] at c2
    clear h h0 her e1 hn
    go_enter Try.func52, Try.ntmps52
    go_wp2
    go_ret
    exact ⟨rfl, H.out⟩
  · have hpos : 0 < x.L.length := List.length_pos_iff.2 h0
    obtain ⟨k, hk⟩ : ∃ k, x.L.length = k + 1 := ⟨x.L.length - 1, by omega⟩
    obtain ⟨m, hm⟩ : ∃ m, x.L[k]? = some m := ⟨_, List.getElem?_eq_getElem (by omega)⟩
    have e1 := x.lastT_snoc (e := m) (by rw [hk]; exact hm)
    rw [e1]
    obtain ⟨b, off, Ad, cd, rfl, hbl, k0, k1, -⟩ := her k m hm
    rw [hk] at c2
    have w1 : IntKind.i64.wrap (((k : Int) + 1) - 1) = (k : Int) := by rw [IntWalk.i64_in _ (by omega)]; omega
    have w2 : IntKind.i64.wrap (((k + 1 : Nat) : Int) - 1) = (k : Int) := by rw [IntWalk.i64_in _ (by omega)]; omega
    have w3 : IntKind.i64.wrap (k : Int) = (k : Int) := IntWalk.i64_in _ (by omega)
    have q0 : (((k : Int) + 1) == 0) = false := by simp; omega
    have q1 : (0 : Int) < (k : Int) + 1 := by omega
    have q2 : (k : Int) < (k : Int) + 1 := by omega
    clear h h0 her e1 hm hpos hk
    go_enter Try.func52, Try.ntmps52
    go_wp2_with fail
    go_quiet (fail)
    go_wp2
    go_ret
    exact ⟨rfl, Own.drewN H.out _⟩

set_option maxHeartbeats 3200000 in
theorem rat_own (hx : x.Ok) (h : Own S w0 w (SP.log 88 g x :: R)) (i : Int) (hi : In64 i) :
    Calls Try.prog 72 #[.pointer (some ⟨g, 0, none⟩), .int .i64 i] w fun e w' => e = .returned (.tuple #[.int .i64 (x.at i).1, .int .i64 (x.at i).2]) ∧ Own S w0 w' (SP.log 88 g x :: R) := by
  have H := Lib.hid h
  obtain ⟨A0, n0, -, -, -, -, c0, c1, c2, -⟩ := h.log_cells
  obtain ⟨hi1, hi2⟩ := hi
  have hx0 := hx.i0
  have hl := hx.len
  have hlm := hx.last
  obtain ⟨p, hp⟩ : ∃ p, x.lastI = p := ⟨_, rfl⟩
  have HLa := rlast_own (by omega) hx.last hx0 h
  rw [hp] at HLa
  rw [maxI_eq, hp] at hlm
  have HLa := Lib.hid HLa
  have hp2 : x.index + (x.L.length : Int) = p := hp
  by_cases h1 : i < x.index
  · rw [at_lt h1]
    clear h hp hp2 HLa
    go_enter Try.func72, Try.ntmps72
    go_wp2
    go_ret2
    exact ⟨rfl, H.out⟩
  · by_cases h2 : p < i
    · rw [at_gt (by omega)]
      clear h hp hp2
      go_enter Try.func72, Try.ntmps72
      go_wp2_with fail
      refine (HLa.out).mono ?_
      rintro e w1 ⟨rfl, o1⟩
      have O1 := Lib.hid o1
      clear o1 HLa
      go_wp2
      go_ret2
      exact ⟨rfl, O1.out⟩
    · by_cases h3 : i = x.index
      · subst h3
        rw [at_eq]
        have q : ((x.index : Int) == x.index) = true := by simp
        clear h hp hp2
        go_enter Try.func72, Try.ntmps72
        go_wp2_with fail
        refine (HLa.out).mono ?_
        rintro e w1 ⟨rfl, o1⟩
        obtain ⟨A1, n1, -, -, -, -, d0, d1, d2, -⟩ := o1.log_cells
        have O1 := Lib.hid o1
        clear o1 HLa c0 c1 c2
        go_wp2
        go_ret2
        exact ⟨rfl, O1.out⟩
      · have q1 : (i == x.index) = false := by simp; omega
        obtain ⟨j, hj⟩ : ∃ j : Nat, i = x.index + 1 + (j : Int) := ⟨(i - x.index - 1).toNat, by omega⟩
        obtain ⟨m, hm⟩ : ∃ m, x.L[j]? = some m := ⟨_, List.getElem?_eq_getElem (by omega)⟩
        rw [at_in hj hm]
        have HM := Lib.hid hm
        have w1 : IntKind.i64.wrap (i - x.index) = ((j + 1 : Nat) : Int) := by rw [IntWalk.i64_in _ (by omega)]; omega
        have w3 : IntKind.i64.wrap (j : Int) = (j : Int) := IntWalk.i64_in _ (by omega)
        have q3 : (j : Int) < (x.L.length : Int) := by omega
        clear h hp hp2 hi1 hi2 hx0 hj hm hl hlm
        go_enter Try.func72, Try.ntmps72
        go_wp2_with fail
        refine (HLa.out).mono ?_
        rintro e w2 ⟨rfl, o1⟩
        obtain ⟨A1, n1, -, -, -, her, d0, d1, d2, -⟩ := o1.log_cells
        obtain ⟨b, off, Ad, cd, rfl, hbl, k0, -⟩ := her j m HM.out
        have O1 := Lib.hid o1
        clear o1 her HLa c0 c1 c2
        go_wp2_with fail
        go_quiet (fail)
        go_wp2
        go_ret2
        refine ⟨rfl, ?_⟩
        exact Own.drewN O1.out _

set_option maxHeartbeats 800000 in
theorem rhas_own (hx : x.Ok) (h : Own S w0 w (SP.log 88 g x :: R)) (i t : Int) (hi : In64 i) :
    Calls Try.prog 55 #[.pointer (some ⟨g, 0, none⟩), .int .i64 i, .int .i64 t] w fun e w' => e = .returned (.bool (x.has i t)) ∧ Own S w0 w' (SP.log 88 g x :: R) := by
  have HT := Lib.hid (rat_own hx h i hi)
  unfold Lg.has
  obtain ⟨p, hp⟩ : ∃ p, (x.at i).1 = p := ⟨_, rfl⟩
  obtain ⟨q, hq⟩ : ∃ q, (x.at i).2 = q := ⟨_, rfl⟩
  rw [hp, hq] at HT
  rw [hp, hq]
  clear hp hq h hx hi
  by_cases h1 : q = 0
  · have q1 : (q == 0) = true := by simp [h1]
    have hr := Lib.hid (show decide (q = 0 ∧ p = t) = (p == t) by by_cases h2 : p = t <;> simp [h1, h2])
    clear h1
    go_enter Try.func55, Try.ntmps55
    go_wp2_with fail
    refine (HT.out).mono ?_
    rintro e w1 ⟨rfl, o⟩
    have O := Lib.hid o
    clear o HT
    go_wp2
    go_ret
    exact ⟨by rw [hr.out]; rfl, O.out⟩
  · have q1 : (q == 0) = false := by simp [h1]
    have hr := Lib.hid (show decide (q = 0 ∧ p = t) = false by simp [h1])
    clear h1
    go_enter Try.func55, Try.ntmps55
    go_wp2_with fail
    refine (HT.out).mono ?_
    rintro e w1 ⟨rfl, o⟩
    have O := Lib.hid o
    clear o HT
    go_wp2
    go_ret
    exact ⟨by rw [hr.out]; rfl, O.out⟩


set_option maxHeartbeats 1600000 in
theorem rcommit_own (hx : x.Ok) (h : Own S w0 w (SP.log 88 g x :: R)) (i : Int) :
    Calls Try.prog 56 #[.pointer (some ⟨g, 0, none⟩), .int .i64 i] w fun e w' => e = .returned (.bool (x.commit i).1) ∧ Own S w0 w' (SP.log 88 g (x.commit i).2 :: R) := by
  have HT := Lib.hid (rlast_own (by have := hx.len; omega) hx.last hx.i0 h)
  obtain ⟨p, hp⟩ : ∃ p, x.lastI = p := ⟨_, rfl⟩
  have HP := Lib.hid hp
  rw [hp] at HT
  clear hp h hx
  have key : ∀ n : Int, (n = i ∧ i < p) ∨ (n = p ∧ p < i) ∨ (n = i ∧ i = p) → Calls Try.prog 56 #[.pointer (some ⟨g, 0, none⟩), .int .i64 i] w fun e w' => e = .returned (.bool (x.commit i).1) ∧ Own S w0 w' (SP.log 88 g (x.commit i).2 :: R) := by
    intro n hn
    have hm : x.commit i = if n ≤ x.c then (false, x) else (true, { x with c := n }) := commit_min (by rw [HP.out]; omega)
    by_cases h1 : n ≤ x.c
    · rw [if_pos h1] at hm
      have HM := Lib.hid hm
      clear hm
      rcases hn with ⟨rfl, h2⟩ | ⟨rfl, h2⟩ | ⟨rfl, rfl⟩
      all_goals
        rw [HM.out]
        go_enter Try.func56, Try.ntmps56
        go_wp2_with fail
        refine (HT.out).mono ?_
        rintro e w1 ⟨rfl, o⟩
        have O := Lib.hid o
        obtain ⟨A, c, -, -, -, -, -, -, -, -, -, c5, -, -⟩ := o.log_cells
        clear o HT
        go_wp2
        go_ret
        exact ⟨rfl, O.out⟩
    · rw [if_neg h1] at hm
      have HM := Lib.hid hm
      clear hm
      rcases hn with ⟨rfl, h2⟩ | ⟨rfl, h2⟩ | ⟨rfl, rfl⟩
      all_goals
        rw [HM.out]
        go_enter Try.func56, Try.ntmps56
        go_wp2_with fail
        refine (HT.out).mono ?_
        rintro e w1 ⟨rfl, o⟩
        obtain ⟨A, c, -, -, o2, -, -, -, -, -, -, c5, -, -⟩ := o.log_cells
        have f5 := o2.blk_free 5
        have O := Lib.hid (fun n => o2.blk_set 5 (.int .i64 n))
        clear o o2 HT
        go_wp2
        go_ret
        exact ⟨rfl, Own.log_shut (x := { x with c := _ }) (O.out _)⟩
  rcases Int.lt_trichotomy i p with h1 | h1 | h1
  · exact key i (.inl ⟨rfl, h1⟩)
  · exact key i (.inr (.inr ⟨rfl, h1⟩))
  · exact key p (.inr (.inl ⟨rfl, h1⟩))

set_option maxHeartbeats 1600000 in
theorem rnewer_own (hx : x.Ok) (h : Own S w0 w (SP.log 88 g x :: R)) (i t : Int) :
    Calls Try.prog 74 #[.pointer (some ⟨g, 0, none⟩), .int .i64 i, .int .i64 t] w fun e w' => e = .returned (.bool (x.newer i t)) ∧ Own S w0 w' (SP.log 88 g x :: R) := by
  have HT := Lib.hid (rlastT_own (by have := hx.len; omega) h)
  have HLa := Lib.hid (fun (W : World) (o : Own S w0 W (SP.log 88 g x :: R)) => rlast_own (by have := hx.len; omega) hx.last hx.i0 o)
  unfold Lg.newer
  obtain ⟨p, hp⟩ : ∃ p, x.lastI = p := ⟨_, rfl⟩
  obtain ⟨q, hq⟩ : ∃ q, x.lastT = q := ⟨_, rfl⟩
  rw [hq] at HT
  rw [hp] at HLa
  rw [hp, hq]
  clear hp hq h hx
  have key : ∃ r, decide (q < t ∨ t = q ∧ p ≤ i) = r ∧ Calls Try.prog 74 #[.pointer (some ⟨g, 0, none⟩), .int .i64 i, .int .i64 t] w fun e w' => e = .returned (.bool r) ∧ Own S w0 w' (SP.log 88 g x :: R) := by
    rcases Int.lt_trichotomy q t with h1 | h1 | h1
    · refine ⟨true, decide_eq_true (.inl h1), ?_⟩
      go_enter Try.func74, Try.ntmps74
      go_wp2_with fail
      refine (HT.out).mono ?_
      rintro e w1 ⟨rfl, o⟩
      have O := Lib.hid o
      clear o HT
      go_wp2
      go_ret
      exact ⟨rfl, O.out⟩
    · subst h1
      have q1 : ((q : Int) == q) = true := by simp
      have q2 : ¬ q < q := by omega
      by_cases h2 : p ≤ i
      · refine ⟨true, decide_eq_true (.inr ⟨rfl, h2⟩), ?_⟩
        go_enter Try.func74, Try.ntmps74
        go_wp2_with fail
        refine (HT.out).mono ?_
        rintro e w1 ⟨rfl, o⟩
        have O := Lib.hid (HLa.out _ o)
        clear o HT HLa
        go_wp2_with fail
        refine (O.out).mono ?_
        rintro e w2 ⟨rfl, o⟩
        have O2 := Lib.hid o
        clear o O
        go_wp2
        go_ret
        exact ⟨rfl, O2.out⟩
      · refine ⟨false, decide_eq_false (by omega), ?_⟩
        go_enter Try.func74, Try.ntmps74
        go_wp2_with fail
        refine (HT.out).mono ?_
        rintro e w1 ⟨rfl, o⟩
        have O := Lib.hid (HLa.out _ o)
        clear o HT HLa
        go_wp2_with fail
        refine (O.out).mono ?_
        rintro e w2 ⟨rfl, o⟩
        have O2 := Lib.hid o
        clear o O
        go_wp2
        go_ret
        refine ⟨?_, O2.out⟩
        first
        | rfl
        | (show Ending.returned (.bool (decide (p ≤ i))) = _; rw [decide_eq_false (by omega)])
    · have q1 : (t == q) = false := by simp; omega
      have q2 : ¬ q < t := by omega
      refine ⟨false, decide_eq_false (by omega), ?_⟩
      go_enter Try.func74, Try.ntmps74
      go_wp2_with fail
      refine (HT.out).mono ?_
      rintro e w1 ⟨rfl, o⟩
      have O := Lib.hid o
      clear o HT
      go_wp2
      go_ret
      refine ⟨?_, O.out⟩
      first
      | rfl
      | (show Ending.returned (.bool (decide (q < t))) = _; rw [decide_eq_false (by omega)])
  obtain ⟨r, hr, hc⟩ := key
  rw [hr]
  exact hc

set_option maxRecDepth 100000 in
set_option maxHeartbeats 3200000 in
theorem rhint_own (hx : x.Ok) (h : Own S w0 w (SP.log 88 g x :: R)) (i t : Int) (hi : In64 i) :
    Calls Try.prog 75 #[.pointer (some ⟨g, 0, none⟩), .int .i64 i, .int .i64 t] w fun e w' => e = .returned (.int .i64 (x.hint i t)) ∧ Own S w0 w' (SP.log 88 g x :: R) := by
  have HT := Lib.hid (rlast_own (by have := hx.len; omega) hx.last hx.i0 h)
  obtain ⟨p, hp⟩ : ∃ p, x.lastI = p := ⟨_, rfl⟩
  have HP := Lib.hid hp
  rw [hp] at HT
  have hpm := hx.last
  rw [hp, maxI_eq] at hpm
  have hx0 := hx.i0
  have HX := Lib.hid hx
  obtain ⟨hi1, hi2⟩ := hi
  have hip : x.index ≤ p := by rw [← hp]; unfold Lg.lastI; omega
  obtain ⟨H, hH⟩ : ∃ H, x.hint i t = H := ⟨_, rfl⟩
  have h0 : HintAt x t H (min i p) := ⟨_, hH, by rw [HP.out]; omega, by rw [HP.out]; omega⟩
  rw [hH]
  have HTm := Lib.hid (fun (W : World) (hW : Own S w0 W (SP.log 88 g x :: R)) (j : Int) (hj : In64 j) => rat_own HX.out hW j hj)
  have H0 := Lib.hid h0
  clear hp hH h hx h0
  have key : ∀ n : Int, (n = i ∧ i < p) ∨ (n = p ∧ p < i) ∨ (n = i ∧ i = p) → Calls Try.prog 75 #[.pointer (some ⟨g, 0, none⟩), .int .i64 i, .int .i64 t] w fun e w' => e = .returned (.int .i64 H) ∧ Own S w0 w' (SP.log 88 g x :: R) := by
    intro n hn
    have hmin : min i p = n := by omega
    have H1 := H0.out
    rw [hmin] at H1
    have H1 := Lib.hid H1
    have hnp : n ≤ p ∧ n ≤ i := by omega
    have hnl : -9223372036854775808 ≤ n := by omega
    clear hmin H0
    rcases hn with ⟨hn, h2⟩ | ⟨hn, h2⟩ | ⟨hn, h2⟩
    rotate_left 2
    · subst i
      subst n
      go_enter Try.func75, Try.ntmps75
      go_wp2_with fail
      refine (HT.out).mono ?_
      rintro e w1 ⟨rfl, o⟩
      have O := Lib.hid o
      clear o HT
      go_wp2
      go_loopw [7] (fun ti wr => ∃ j : Int, ti = .int .i64 j ∧ j ≤ p ∧ -9223372036854775808 ≤ j ∧ Hid (HintAt x t H j) ∧ Own S w0 wr (SP.log 88 g x :: R)) (fun ti _ => (intOf ti - x.index).toNat)
      case atStart => exact ⟨_, rfl, by omega, by omega, H1, O.out⟩
      case round =>
        obtain ⟨j, rfl, hjp, hj0, hj, hown⟩ := hrel
        clear O H1
        obtain ⟨A, c, -, -, -, -, c0, -⟩ := hown.log_cells
        by_cases hlt : x.index < j
        · have HTj := HTm.out _ hown j ⟨by omega, by omega⟩
          obtain ⟨tt, htt⟩ : ∃ tt, (x.at j).1 = tt := ⟨_, rfl⟩
          obtain ⟨te, hte⟩ : ∃ te, (x.at j).2 = te := ⟨_, rfl⟩
          rw [htt, hte] at HTj
          have HTT := Lib.hid htt
          have HTj := Lib.hid HTj
          clear htt hte hown
          go_wp2_with fail
          refine (HTj.out).mono ?_
          rintro e w2 ⟨rfl, o2⟩
          have O2 := Lib.hid o2
          clear o2 c0 HTj
          by_cases hle : tt ≤ t
          · have hres : H = j := by
              obtain ⟨m, hm, hjm, -⟩ := hj.out
              rcases hjm with hjm | ⟨-, hjm⟩
              · cases m with
                | zero => omega
                | succ m =>
                  rw [Lg.down, ← hjm, HTT.out, if_pos hle] at hm
                  exact hm.symm
              · omega
            have HR := Lib.hid hres
            clear hres
            go_wp2
            go_ret
            exact ⟨by rw [HR.out]; rfl, O2.out⟩
          · have hj2 : HintAt x t H (j - 1) := by
              obtain ⟨m, hm, hjm, hjl⟩ := hj.out
              rcases hjm with hjm | ⟨-, hjm⟩
              · cases m with
                | zero => omega
                | succ m =>
                  rw [Lg.down, ← hjm, HTT.out, if_neg hle] at hm
                  exact ⟨m, hm, .inl (by omega), by omega⟩
              · omega
            have HJ := Lib.hid hj2
            clear hj2
            go_wp2
            go_roundw
            case rel => exact ⟨j - 1, rfl, by omega, by omega, HJ, O2.out⟩
            case measure => simp [intOf]; omega
        · have hres : H = x.index := by
            obtain ⟨m, hm, hjm, -⟩ := hj.out
            have : m = 0 := by omega
            subst this
            exact hm.symm
          have HR := Lib.hid hres
          have HO := Lib.hid hown
          clear hres hown
          go_wp2
          go_ret
          exact ⟨by rw [HR.out]; rfl, HO.out⟩
    all_goals
      subst n
      go_enter Try.func75, Try.ntmps75
      go_wp2_with fail
      refine (HT.out).mono ?_
      rintro e w1 ⟨rfl, o⟩
      have O := Lib.hid o
      clear o HT
      go_wp2
      go_loopw [7] (fun ti wr => ∃ j : Int, ti = .int .i64 j ∧ j ≤ p ∧ -9223372036854775808 ≤ j ∧ Hid (HintAt x t H j) ∧ Own S w0 wr (SP.log 88 g x :: R)) (fun ti _ => (intOf ti - x.index).toNat)
      case atStart => exact ⟨_, rfl, by omega, by omega, H1, O.out⟩
      case round =>
        obtain ⟨j, rfl, hjp, hj0, hj, hown⟩ := hrel
        clear O H1
        obtain ⟨A, c, -, -, -, -, c0, -⟩ := hown.log_cells
        by_cases hlt : x.index < j
        · have HTj := HTm.out _ hown j ⟨by omega, by omega⟩
          obtain ⟨tt, htt⟩ : ∃ tt, (x.at j).1 = tt := ⟨_, rfl⟩
          obtain ⟨te, hte⟩ : ∃ te, (x.at j).2 = te := ⟨_, rfl⟩
          rw [htt, hte] at HTj
          have HTT := Lib.hid htt
          have HTj := Lib.hid HTj
          clear htt hte hown
          go_wp2_with fail
          refine (HTj.out).mono ?_
          rintro e w2 ⟨rfl, o2⟩
          have O2 := Lib.hid o2
          clear o2 c0 HTj
          by_cases hle : tt ≤ t
          · have hres : H = j := by
              obtain ⟨m, hm, hjm, -⟩ := hj.out
              rcases hjm with hjm | ⟨-, hjm⟩
              · cases m with
                | zero => omega
                | succ m =>
                  rw [Lg.down, ← hjm, HTT.out, if_pos hle] at hm
                  exact hm.symm
              · omega
            have HR := Lib.hid hres
            clear hres
            go_wp2
            go_ret
            exact ⟨by rw [HR.out]; rfl, O2.out⟩
          · have hj2 : HintAt x t H (j - 1) := by
              obtain ⟨m, hm, hjm, hjl⟩ := hj.out
              rcases hjm with hjm | ⟨-, hjm⟩
              · cases m with
                | zero => omega
                | succ m =>
                  rw [Lg.down, ← hjm, HTT.out, if_neg hle] at hm
                  exact ⟨m, hm, .inl (by omega), by omega⟩
              · omega
            have HJ := Lib.hid hj2
            clear hj2
            go_wp2
            go_roundw
            case rel => exact ⟨j - 1, rfl, by omega, by omega, HJ, O2.out⟩
            case measure => simp [intOf]; omega
        · have hres : H = x.index := by
            obtain ⟨m, hm, hjm, -⟩ := hj.out
            have : m = 0 := by omega
            subst this
            exact hm.symm
          have HR := Lib.hid hres
          have HO := Lib.hid hown
          clear hres hown
          go_wp2
          go_ret
          exact ⟨by rw [HR.out]; rfl, HO.out⟩
  rcases Int.lt_trichotomy i p with h1 | h1 | h1
  · exact key i (.inl ⟨rfl, h1⟩)
  · exact key i (.inr (.inr ⟨rfl, h1⟩))
  · exact key p (.inr (.inl ⟨rfl, h1⟩))

set_option maxHeartbeats 1600000 in
theorem rsync_own (hx : x.Ok) (h : Own S w0 w (SP.log 88 g x :: R)) (i t : Int) (hi : In64 i) :
    Calls Try.prog 68 #[.pointer (some ⟨g, 0, none⟩), .int .i64 i, .int .i64 t] w fun e w' => e = .returned (.bool (x.stable i t).1) ∧ Own S w0 w' (SP.log 88 g (x.stable i t).2 :: R) := by
  have HH := Lib.hid (rhas_own hx h i t hi)
  obtain ⟨A, c, -, -, -, -, -, -, -, c3, c4, -⟩ := h.log_cells
  have H := Lib.hid h
  obtain ⟨hb, hhb⟩ : ∃ hb, x.has i t = hb := ⟨_, rfl⟩
  rw [hhb] at HH
  have HB := Lib.hid hhb
  clear h hx hi hhb
  by_cases h1 : i ≤ x.s
  · rw [stable_no (.inl h1)]
    go_enter Try.func68, Try.ntmps68
    go_wp2
    go_ret
    exact ⟨rfl, H.out⟩
  · by_cases h2 : x.h < i
    · rw [stable_no (.inr (.inl h2))]
      go_enter Try.func68, Try.ntmps68
      go_wp2
      go_ret
      exact ⟨rfl, H.out⟩
    · cases hb with
      | false =>
        rw [stable_no (.inr (.inr HB.out))]
        go_enter Try.func68, Try.ntmps68
        go_wp2_with fail
        refine (HH.out).mono ?_
        rintro e w1 ⟨rfl, o⟩
        have O := Lib.hid o
        clear o HH
        go_wp2
        go_ret
        exact ⟨rfl, O.out⟩
      | true =>
        rw [stable_yes (by rw [HB.out]; simp; omega)]
        go_enter Try.func68, Try.ntmps68
        go_wp2_with fail
        refine (HH.out).mono ?_
        rintro e w1 ⟨rfl, o⟩
        obtain ⟨A3, k4, -, -, o3, -, -, -, -, -, e4, -⟩ := o.log_cells
        have f4 := o3.blk_free 4
        have O3 := Lib.hid (Own.log_shut (x := { x with s := i }) (o3.blk_set 4 (.int .i64 i)))
        clear o o3 HH c3 c4
        go_wp2
        go_ret
        exact ⟨rfl, O3.out⟩


set_option maxHeartbeats 1600000 in
theorem rapply_own (h : Own S w0 w (SP.log 88 g x :: R)) (i : Int) :
    Calls Try.prog 69 #[.pointer (some ⟨g, 0, none⟩), .int .i64 i] w fun e w' => e = .returned (.bool (x.applied i).1) ∧ Own S w0 w' (SP.log 88 g (x.applied i).2 :: R) := by
  obtain ⟨A, c, -, -, o, -, -, -, -, c3, c4, c5, c6, c7⟩ := h.log_cells
  have f7 := o.blk_free 7
  have H := Lib.hid h
  have O := Lib.hid (o.blk_set 7 (.int .i64 i))
  clear h o
  by_cases h1 : i ≤ x.ad
  · rw [applied_no (.inl h1)]
    go_enter Try.func69, Try.ntmps69
    go_wp2
    go_ret
    exact ⟨rfl, H.out⟩
  · by_cases h2 : x.ap < i
    · rw [applied_no (.inr h2)]
      go_enter Try.func69, Try.ntmps69
      go_wp2
      go_ret
      exact ⟨rfl, H.out⟩
    · rw [applied_yes (by rintro (h | h); exact h1 h; exact h2 h)]
      go_enter Try.func69, Try.ntmps69
      go_wp2
      go_ret
      exact ⟨rfl, Own.log_shut (x := { x with ad := i }) O.out⟩

end
end Go.Proofs.Ytepnkhiclgjmpaa
