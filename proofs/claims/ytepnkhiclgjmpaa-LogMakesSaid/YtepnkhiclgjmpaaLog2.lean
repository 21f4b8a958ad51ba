/-
  Last, Term, Has, Newer, Commit, Marks, Base, Len of a log.
  Conditions: the log is in order.
-/
import Derived.Test.YtepnkhiclgjmpaaLog1
namespace Go.Proofs.Ytepnkhiclgjmpaa
set_option linter.unusedVariables false
set_option linter.unusedSimpArgs false
open Go.RowKit

section
variable {S : Nat → Prop} {w0 w : World} {R : List SP} {g : Nat} {x : Lg}

set_option maxHeartbeats 1600000 in
theorem last_own (hl : x.L.length ≤ 1000000) (h : Own S w0 w (SP.log 85 g x :: R)) (hidx : ∀ (j : Nat) (e : E), x.L[j]? = some e → e.index = x.index + 1 + (j : Int)) :
    Calls Try.prog 21 #[.pointer (some ⟨g, 0, none⟩)] w fun e w' => e = .returned (.tuple #[.int .i64 x.lastI, .int .i64 x.lastT]) ∧ Own S w0 w' (SP.log 85 g x :: R) := by
  have H := Lib.hid h
  obtain ⟨A, c, -, -, -, her, c0, c1, c2, -, -, -, -, -⟩ := h.log_cells
  by_cases h0 : x.L = []
  · have e1 := x.lastT_nil h0
    have e2 : x.lastI = x.index := by rw [Lg.lastI, h0]; simp
    rw [e1, e2]
    have hn : x.L.length = 0 := by rw [h0]; rfl
    rw [hn] at c2
    clear h h0 her e1 e2 hn hidx
    go_enter Try.func21, Try.ntmps21
    go_wp2
    go_quiet (fail)
    go_wp2
    go_ret2
    exact ⟨rfl, Own.drewN H.out _⟩
  · have hpos : 0 < x.L.length := List.length_pos_iff.2 h0
    obtain ⟨k, hk⟩ : ∃ k, x.L.length = k + 1 := ⟨x.L.length - 1, by omega⟩
    obtain ⟨m, hm⟩ : ∃ m, x.L[k]? = some m := ⟨_, List.getElem?_eq_getElem (by omega)⟩
    have e1 := x.lastT_snoc (e := m) (by rw [hk]; exact hm)
    have e2 : x.lastI = m.index := by rw [hidx k m hm, Lg.lastI, hk]; omega
    rw [e1, e2]
    obtain ⟨b, off, Ad, cd, rfl, hbl, k0, k1, -⟩ := her k m hm
    rw [hk] at c2
    have w1 : IntKind.i64.wrap (((k : Int) + 1) - 1) = (k : Int) := by rw [IntWalk.i64_in _ (by omega)]; omega
    have w2 : IntKind.i64.wrap (((k + 1 : Nat) : Int) - 1) = (k : Int) := by rw [IntWalk.i64_in _ (by omega)]; omega
    have w3 : IntKind.i64.wrap (k : Int) = (k : Int) := IntWalk.i64_in _ (by omega)
    have q1 : (0 : Int) < (k : Int) + 1 := by omega
    have q2 : (k : Int) < (k : Int) + 1 := by omega
    clear h h0 her e1 e2 hidx hm hpos hk
    go_enter Try.func21, Try.ntmps21
    go_wp2
    go_quiet (fail)
    go_wp2
    go_ret2
    exact ⟨rfl, Own.drewN H.out _⟩

theorem at_lt {i : Int} (h : i < x.index) : x.at i = (0, 14) := by rw [Lg.at, if_pos h]
theorem at_eq : x.at x.index = (x.term, 0) := by rw [Lg.at, if_neg (by omega), if_pos rfl]
theorem at_gt {i : Int} (h : x.index + (x.L.length : Int) < i) : x.at i = (0, 8) := by
  rw [Lg.at, if_neg (by omega), if_neg (by omega), Lg.entry?, if_pos (by omega), List.getElem?_eq_none (by omega)]
theorem at_in {i : Int} {j : Nat} {m : E} (h : i = x.index + 1 + (j : Int)) (hm : x.L[j]? = some m) : x.at i = (m.term, 0) := by
  rw [Lg.at, if_neg (by omega), if_neg (by omega), Lg.entry?, if_pos (by omega), show (i - x.index - 1).toNat = j by omega, hm]

set_option maxHeartbeats 1600000 in
theorem term_own (hx0 : 0 ≤ x.index) (hl : x.L.length ≤ 1000000) (h : Own S w0 w (SP.log 85 g x :: R)) (i : Int) (hi : In64 i) :
    Calls Try.prog 57 #[.pointer (some ⟨g, 0, none⟩), .int .i64 i] w fun e w' => e = .returned (.tuple #[.int .i64 (x.at i).1, .int .i64 (x.at i).2]) ∧ Own S w0 w' (SP.log 85 g x :: R) := by
  have H := Lib.hid h
  obtain ⟨A, c, -, -, -, her, c0, c1, c2, -, -, -, -, -⟩ := h.log_cells
  obtain ⟨hi1, hi2⟩ := hi
  rcases Int.lt_trichotomy i x.index with h1 | h1 | h1
  · rw [at_lt h1]
    clear h her
    go_enter Try.func57, Try.ntmps57
    go_wp2
    go_ret2
    exact ⟨rfl, H.out⟩
  · subst h1
    rw [at_eq]
    have q : ((x.index : Int) == x.index) = true := by simp
    clear h her
    go_enter Try.func57, Try.ntmps57
    go_wp2
    go_ret2
    exact ⟨rfl, H.out⟩
  · have q0 : ¬ i < x.index := by omega
    have q1 : (i == x.index) = false := by simp; omega
    by_cases h2 : (x.L.length : Int) < i - x.index
    · rw [at_gt (by omega)]
      have w1 : IntKind.i64.wrap (i - x.index) = i - x.index := IntWalk.i64_in _ (by omega)
      clear h her hi1 hi2 hx0
      go_enter Try.func57, Try.ntmps57
      go_wp2_with fail
      go_quiet (fail)
      go_wp2
      go_ret2
      exact ⟨rfl, Own.drewN H.out _⟩
    · obtain ⟨j, hj⟩ : ∃ j : Nat, i = x.index + 1 + (j : Int) := ⟨(i - x.index - 1).toNat, by omega⟩
      obtain ⟨m, hm⟩ : ∃ m, x.L[j]? = some m := ⟨_, List.getElem?_eq_getElem (by omega)⟩
      rw [at_in hj hm]
      obtain ⟨b, off, Ad, cd, rfl, hbl, k0, -⟩ := her j m hm
      have w1 : IntKind.i64.wrap (i - x.index) = ((j + 1 : Nat) : Int) := by rw [IntWalk.i64_in _ (by omega)]; omega
      have q2 : ¬ (x.L.length : Int) < (j : Int) + 1 := by omega
      have q3 : (j : Int) < (x.L.length : Int) := by omega
      have w3 : IntKind.i64.wrap (j : Int) = (j : Int) := IntWalk.i64_in _ (by omega)
      clear h her hi1 hi2 hx0 hj hm h2 hl
      go_enter Try.func57, Try.ntmps57
      go_wp2_with fail
      go_quiet (fail)
      go_wp2_with fail
      go_quiet (fail)
      go_wp2
      go_ret2
      refine ⟨rfl, ?_⟩
      exact Own.drewN (Own.drewN H.out _) _

set_option maxHeartbeats 800000 in
theorem has_own (hx0 : 0 ≤ x.index) (hl : x.L.length ≤ 1000000) (h : Own S w0 w (SP.log 85 g x :: R)) (i t : Int) (hi : In64 i) :
    Calls Try.prog 54 #[.pointer (some ⟨g, 0, none⟩), .int .i64 i, .int .i64 t] w fun e w' => e = .returned (.bool (x.has i t)) ∧ Own S w0 w' (SP.log 85 g x :: R) := by
  have HT := Lib.hid (term_own hx0 hl h i hi)
  unfold Lg.has
  obtain ⟨p, hp⟩ : ∃ p, (x.at i).1 = p := ⟨_, rfl⟩
  obtain ⟨q, hq⟩ : ∃ q, (x.at i).2 = q := ⟨_, rfl⟩
  rw [hp, hq] at HT
  rw [hp, hq]
  clear hp hq h hx0 hl hi
  by_cases h1 : q = 0
  · have q1 : (q == 0) = true := by simp [h1]
    have hr := Lib.hid (show decide (q = 0 ∧ p = t) = (p == t) by by_cases h2 : p = t <;> simp [h1, h2])
    clear h1
    go_enter Try.func54, Try.ntmps54
    go_wp2_with fail
    refine (HT.out).mono ?_
    rintro e w1 ⟨rfl, o⟩
    have O := Lib.hid o
    clear o HT
    go_wp2
    go_ret
    exact ⟨by rw [hr.out]; rfl, O.out⟩
  · have q1 : (q == 0) = false := by simp [h1]
    have hr := Lib.hid (show decide (q = 0 ∧ p = t) = false by simp [h1])
    clear h1
    go_enter Try.func54, Try.ntmps54
    go_wp2_with fail
    refine (HT.out).mono ?_
    rintro e w1 ⟨rfl, o⟩
    have O := Lib.hid o
    clear o HT
    go_wp2
    go_ret
    exact ⟨by rw [hr.out]; rfl, O.out⟩

set_option maxHeartbeats 800000 in
theorem newer_own (hl : x.L.length ≤ 1000000) (hidx : ∀ (j : Nat) (e : E), x.L[j]? = some e → e.index = x.index + 1 + (j : Int)) (h : Own S w0 w (SP.log 85 g x :: R)) (i t : Int) :
    Calls Try.prog 25 #[.pointer (some ⟨g, 0, none⟩), .int .i64 i, .int .i64 t] w fun e w' => e = .returned (.bool (x.newer i t)) ∧ Own S w0 w' (SP.log 85 g x :: R) := by
  have HT := Lib.hid (last_own hl h hidx)
  unfold Lg.newer
  obtain ⟨p, hp⟩ : ∃ p, x.lastI = p := ⟨_, rfl⟩
  obtain ⟨q, hq⟩ : ∃ q, x.lastT = q := ⟨_, rfl⟩
  rw [hp, hq] at HT
  rw [hp, hq]
  clear hp hq h hl hidx
  have key : ∃ r, decide (q < t ∨ t = q ∧ p ≤ i) = r ∧ Calls Try.prog 25 #[.pointer (some ⟨g, 0, none⟩), .int .i64 i, .int .i64 t] w fun e w' => e = .returned (.bool r) ∧ Own S w0 w' (SP.log 85 g x :: R) := by
    rcases Int.lt_trichotomy q t with h1 | h1 | h1
    · refine ⟨true, decide_eq_true (.inl h1), ?_⟩
      go_enter Try.func25, Try.ntmps25
      go_wp2_with fail
      refine (HT.out).mono ?_
      rintro e w1 ⟨rfl, o⟩
      have O := Lib.hid o
      clear o HT
      go_wp2
      go_ret
      exact ⟨rfl, O.out⟩
    · subst h1
      have q1 : ((q : Int) == q) = true := by simp
      have q2 : ¬ q < q := by omega
      by_cases h2 : p ≤ i
      · refine ⟨true, decide_eq_true (.inr ⟨rfl, h2⟩), ?_⟩
        go_enter Try.func25, Try.ntmps25
        go_wp2_with fail
        refine (HT.out).mono ?_
        rintro e w1 ⟨rfl, o⟩
        have O := Lib.hid o
        clear o HT
        go_wp2
        go_ret
        exact ⟨rfl, O.out⟩
      · refine ⟨false, decide_eq_false (by omega), ?_⟩
        go_enter Try.func25, Try.ntmps25
        go_wp2_with fail
        refine (HT.out).mono ?_
        rintro e w1 ⟨rfl, o⟩
        have O := Lib.hid o
        clear o HT
        go_wp2
        go_ret
        exact ⟨by show Ending.returned (.bool (decide (p ≤ i))) = _; rw [decide_eq_false (by omega)], O.out⟩
    · have q1 : (t == q) = false := by simp; omega
      have q2 : ¬ q < t := by omega
      refine ⟨false, decide_eq_false (by omega), ?_⟩
      go_enter Try.func25, Try.ntmps25
      go_wp2_with fail
      refine (HT.out).mono ?_
      rintro e w1 ⟨rfl, o⟩
      have O := Lib.hid o
      clear o HT
      go_wp2
      go_ret
      exact ⟨by show Ending.returned (.bool (decide (q < t))) = _; rw [decide_eq_false (by omega)], O.out⟩
  obtain ⟨r, hr, hc⟩ := key
  rw [hr]
  exact hc

theorem commit_min {i n : Int} (h : min i x.lastI = n) : x.commit i = if n ≤ x.c then (false, x) else (true, { x with c := n }) := by
  rw [Lg.commit, h]
set_option maxHeartbeats 1600000 in
theorem commit_own (hl : x.L.length ≤ 1000000) (hidx : ∀ (j : Nat) (e : E), x.L[j]? = some e → e.index = x.index + 1 + (j : Int)) (h : Own S w0 w (SP.log 85 g x :: R)) (i : Int) :
    Calls Try.prog 36 #[.pointer (some ⟨g, 0, none⟩), .int .i64 i] w fun e w' => e = .returned (.bool (x.commit i).1) ∧ Own S w0 w' (SP.log 85 g (x.commit i).2 :: R) := by
  have HT := Lib.hid (last_own hl h hidx)
  obtain ⟨p, hp⟩ : ∃ p, x.lastI = p := ⟨_, rfl⟩
  obtain ⟨q, hq⟩ : ∃ q, x.lastT = q := ⟨_, rfl⟩
  have HP := Lib.hid hp
  rw [hp, hq] at HT
  clear hp hq h hl hidx
  have key : ∀ n : Int, (n = i ∧ i < p) ∨ (n = p ∧ p < i) ∨ (n = i ∧ i = p) → Calls Try.prog 36 #[.pointer (some ⟨g, 0, none⟩), .int .i64 i] w fun e w' => e = .returned (.bool (x.commit i).1) ∧ Own S w0 w' (SP.log 85 g (x.commit i).2 :: R) := by
    intro n hn
    have hm : x.commit i = if n ≤ x.c then (false, x) else (true, { x with c := n }) := commit_min (by rw [HP.out]; omega)
    by_cases h1 : n ≤ x.c
    · rw [if_pos h1] at hm
      have HM := Lib.hid hm
      clear hm
      rcases hn with ⟨rfl, h2⟩ | ⟨rfl, h2⟩ | ⟨rfl, rfl⟩
      all_goals
        rw [HM.out]
        go_enter Try.func36, Try.ntmps36
        go_wp2_with fail
        refine (HT.out).mono ?_
        rintro e w1 ⟨rfl, o⟩
        have O := Lib.hid o
        obtain ⟨A, c, -, -, -, -, -, -, -, -, -, c5, -, -⟩ := o.log_cells
        clear o HT
        go_wp2
        go_ret
        exact ⟨rfl, O.out⟩
    · rw [if_neg h1] at hm
      have HM := Lib.hid hm
      clear hm
      rcases hn with ⟨rfl, h2⟩ | ⟨rfl, h2⟩ | ⟨rfl, rfl⟩
      all_goals
        rw [HM.out]
        go_enter Try.func36, Try.ntmps36
        go_wp2_with fail
        refine (HT.out).mono ?_
        rintro e w1 ⟨rfl, o⟩
        obtain ⟨A, c, -, -, o2, -, -, -, -, -, -, c5, -, -⟩ := o.log_cells
        have f5 := o2.blk_free 5
        have O := Lib.hid (fun n => o2.blk_set 5 (.int .i64 n))
        clear o o2 HT
        go_wp2
        go_ret
        exact ⟨rfl, Own.log_shut (x := { x with c := _ }) (O.out _)⟩
  rcases Int.lt_trichotomy i p with h1 | h1 | h1
  · exact key i (.inl ⟨rfl, h1⟩)
  · exact key i (.inr (.inr ⟨rfl, h1⟩))
  · exact key p (.inr (.inl ⟨rfl, h1⟩))

set_option maxHeartbeats 400000 in
theorem len_own (h : Own S w0 w (SP.log 85 g x :: R)) :
    Calls Try.prog 76 #[.pointer (some ⟨g, 0, none⟩)] w fun e w' => e = .returned (.int .i64 (x.L.length : Nat)) ∧ Own S w0 w' (SP.log 85 g x :: R) := by
  have H := Lib.hid h
  obtain ⟨A, c, -, -, -, -, c0, c1, c2, -, -, -, -, -⟩ := h.log_cells
  clear h
  go_enter Try.func76, Try.ntmps76
  go_wp2
  go_ret
  exact ⟨rfl, H.out⟩

set_option maxHeartbeats 400000 in
theorem base_own (h : Own S w0 w (SP.log 85 g x :: R)) :
    Calls Try.prog 35 #[.pointer (some ⟨g, 0, none⟩)] w fun e w' => e = .returned (.tuple #[.int .i64 x.index, .int .i64 x.term]) ∧ Own S w0 w' (SP.log 85 g x :: R) := by
  have H := Lib.hid h
  obtain ⟨A, c, -, -, -, -, c0, c1, c2, -, -, -, -, -⟩ := h.log_cells
  clear h
  go_enter Try.func35, Try.ntmps35
  go_wp2_with fail
  go_quiet (fail)
  go_wp2
  go_ret2
  exact ⟨rfl, Own.drewN H.out _⟩

def marksV (x : Lg) : Value := .agg #[.int .i64 x.h, .int .i64 x.s, .int .i64 x.c, .int .i64 x.ap, .int .i64 x.ad]
set_option maxHeartbeats 400000 in
theorem marks_own (h : Own S w0 w (SP.log 85 g x :: R)) :
    Calls Try.prog 31 #[.pointer (some ⟨g, 0, none⟩)] w fun e w' => e = .returned (marksV x) ∧ Own S w0 w' (SP.log 85 g x :: R) := by
  have O := Lib.hid ((h.alloc #[.int .i64 x.h, .int .i64 x.s, .int .i64 x.c, .int .i64 x.ap, .int .i64 x.ad] 65).pop)
  obtain ⟨A, c, -, -, o, -, c0, c1, c2, c3, c4, c5, c6, c7⟩ := h.log_cells
  have hlt := o.blk_lt
  unfold marksV
  clear h o
  go_enter Try.func31, Try.ntmps31
  go_wp2
  refine bodyPost_ret (v := .agg #[.int .i64 x.h, .int .i64 x.s, .int .i64 x.c, .int .i64 x.ap, .int .i64 x.ad]) ?_ rfl ⟨rfl, O.out⟩
  simp [results, go_sem, Try.results31]
end
end Go.Proofs.Ytepnkhiclgjmpaa
