/-
  Restore.
  Conditions: none beyond each theorem's own.
-/
import Derived.Test.YtepnkhiclgjmpaaLog10
namespace Go.Proofs.Ytepnkhiclgjmpaa
set_option linter.unusedVariables false
set_option linter.unusedSimpArgs false
open Go.RowKit
section
variable {S : Nat → Prop} {w0 w : World} {R : List SP} {g : Nat} {x : Lg}
theorem restore_no {x : Lg} {i t : Int} (h : ¬ (1 ≤ i ∧ i ≤ maxI) ∨ ¬ (1 ≤ t ∧ t ≤ maxI) ∨ i ≤ x.c) : x.restore i t = (1, x) := by rw [Lg.restore, if_pos h]
theorem restore_yes {x : Lg} {i t : Int} (h : ¬ (¬ (1 ≤ i ∧ i ≤ maxI) ∨ ¬ (1 ≤ t ∧ t ≤ maxI) ∨ i ≤ x.c)) : x.restore i t = (0, ⟨i, t, [], i, i, i, i, i⟩) := by rw [Lg.restore, if_neg h]
set_option maxRecDepth 100000 in
set_option maxHeartbeats 3200000 in
theorem restore_own (h : Own S w0 w (SP.log 85 g x :: R)) (i t : Int) :
    Calls Try.prog 41 #[.pointer (some ⟨g, 0, none⟩), .int .i64 i, .int .i64 t] w fun e w' => e = .returned (.int .i64 (x.restore i t).1) ∧ Own S w0 w' (SP.log 85 g (x.restore i t).2 :: R) := by
  obtain ⟨A, c, hc1, hc2, o, -, c0, c1, c2, c3, c4, c5, c6, c7⟩ := h.log_cells
  have H := Lib.hid h
  have O := Lib.hid o
  obtain ⟨b1, hb1⟩ : ∃ b, withinB i 1 = b := ⟨_, rfl⟩
  obtain ⟨b2, hb2⟩ : ∃ b, withinB t 1 = b := ⟨_, rfl⟩
  have HW1 := Lib.hid (fun W => within_calls W i 1)
  have HW2 := Lib.hid (fun W => within_calls W t 1)
  rw [hb1] at HW1
  rw [hb2] at HW2
  clear h o
  cases b1 with
  | false =>
    rw [restore_no (.inl (of_decide_eq_false hb1))]
    clear hb1 hb2
    go_enter Try.func41, Try.ntmps41
    go_wp2_with fail
    refine (HW1.out _).mono ?_
    rintro e w1 ⟨rfl, rfl⟩
    go_wp2
    go_ret
    exact ⟨rfl, H.out⟩
  | true =>
    cases b2 with
    | false =>
      rw [restore_no (.inr (.inl (of_decide_eq_false hb2)))]
      clear hb1 hb2
      go_enter Try.func41, Try.ntmps41
      go_wp2_with fail
      refine (HW1.out _).mono ?_
      rintro e w1 ⟨rfl, rfl⟩
      go_wp2_with fail
      refine (HW2.out _).mono ?_
      rintro e w1 ⟨rfl, rfl⟩
      go_wp2
      go_ret
      exact ⟨rfl, H.out⟩
    | true =>
      by_cases h3 : i ≤ x.c
      · rw [restore_no (.inr (.inr h3))]
        clear hb1 hb2
        go_enter Try.func41, Try.ntmps41
        go_wp2_with fail
        refine (HW1.out _).mono ?_
        rintro e w1 ⟨rfl, rfl⟩
        go_wp2_with fail
        refine (HW2.out _).mono ?_
        rintro e w1 ⟨rfl, rfl⟩
        go_wp2
        go_ret
        exact ⟨rfl, H.out⟩
      · rw [restore_yes (by rintro (h | h | h); exact h (of_decide_eq_true hb1); exact h (of_decide_eq_true hb2); exact h3 h)]
        have f0 := O.out.blk_free 0
        have o0 := O.out.blk_set 0 (.int .i64 i)
        have f1 := o0.blk_free 1
        have o1 := o0.blk_set 1 (.int .i64 t)
        have f2 := o1.blk_free 2
        have O2 := Lib.hid (o1.blk_set 2 (.slice none 0 0))
        have g1 := o0.blk_cell 1
        have g2 := o1.blk_cell 2
        simp only [logA, List.getElem?_toArray, List.setIfInBounds_toArray, List.set_cons_zero, List.set_cons_succ, List.getElem?_cons_zero, List.getElem?_cons_succ] at g1 g2
        clear c3 c4 c6 c7
        clear hb1 hb2 o0 o1
        go_enter Try.func41, Try.ntmps41
        go_wp2_with fail
        refine (HW1.out _).mono ?_
        rintro e w1 ⟨rfl, rfl⟩
        go_wp2_with fail
        refine (HW2.out _).mono ?_
        rintro e w1 ⟨rfl, rfl⟩
        go_upto_region 4 with (fail)
        obtain ⟨W4, hW4⟩ : ∃ W, ((w.setCell ⟨g, 0, none⟩ (.int .i64 i)).setCell ⟨g, 1, none⟩ (.int .i64 t)).setCell ⟨g, 2, none⟩ (.slice none 0 0) = W := ⟨_, rfl⟩
        rw [hW4] at O2
        simp only [hW4]
        clear hW4 f0 f1 f2 g1 g2 c0 c1 c2 c5
        have f3 := O2.out.blk_free 3
        have o3 := O2.out.blk_set 3 (.int .i64 i)
        have f4 := o3.blk_free 4
        have o4 := o3.blk_set 4 (.int .i64 i)
        have f5 := o4.blk_free 5
        have o5 := o4.blk_set 5 (.int .i64 i)
        have f6 := o5.blk_free 6
        have o6 := o5.blk_set 6 (.int .i64 i)
        have f7 := o6.blk_free 7
        have O7 := Lib.hid (o6.blk_set 7 (.int .i64 i))
        have g3 := O2.out.blk_cell 3
        have g4 := o3.blk_cell 4
        have g5 := o4.blk_cell 5
        have g6 := o5.blk_cell 6
        have g7 := o6.blk_cell 7
        simp only [logA, List.getElem?_toArray, List.setIfInBounds_toArray, List.set_cons_zero, List.set_cons_succ, List.getElem?_cons_zero, List.getElem?_cons_succ] at g3 g4 g5 g6 g7
        clear o3 o4 o5 o6
        go_wp2
        go_ret
        refine ⟨rfl, Own.log_shut (x := ⟨i, t, [], i, i, i, i, i⟩) (v := .slice none 0 0) ?_⟩
        exact Own.swap (Own.ents_nil (O7.out.pick (L := [_, _]) [0]) 26)
end
end Go.Proofs.Ytepnkhiclgjmpaa
