/-
  same: is a log as the document's.
  Conditions: the log is in order.
-/
import Derived.Test.YtepnkhiclgjmpaaOver
import Derived.Test.YtepnkhiclgjmpaaRef4
namespace Go.Proofs.Ytepnkhiclgjmpaa
set_option linter.unusedVariables false
set_option linter.unusedSimpArgs false
open Go.RowKit

/-- Cells of entries of which those ahead are written over. -/
structure Rest4 (n i : Nat) (xs zs : List Value) : Prop where
  len : zs.length = n * 4
  back : ∀ p, i * 4 ≤ p → zs[p]? = xs[p]?
theorem Rest4.set4 {n i : Nat} {xs zs : List Value} (h : Rest4 n i xs zs) (a b c d : Value) : Rest4 n (i + 1) xs ((((zs.set (i * 4) a).set (i * 4 + 1) b).set (i * 4 + 2) c).set (i * 4 + 3) d) := by
  refine ⟨by simp only [List.length_set]; exact h.len, fun p hp => ?_⟩
  rw [List.getElem?_set_ne (by omega), List.getElem?_set_ne (by omega), List.getElem?_set_ne (by omega), List.getElem?_set_ne (by omega)]
  exact h.back p (by omega)
theorem entries_whole {x : Lg} (hx : x.Ok) : x.entries (x.index + 1) 10000 = (x.L, 0) := by
  unfold Lg.entries Lg.lastI
  rw [if_neg (by omega), if_neg (by omega), show (x.index + 1 - x.index - 1).toNat = 0 by omega, List.drop_zero, List.take_of_length_le (by have := hx.len; omega)]
section
variable {S : Nat → Prop} {w0 w : World} {R : List SP} {g k : Nat} {x : Lg}
set_option maxHeartbeats 1600000 in
theorem rlastT_own2 {v : Value} (hl : x.L.length ≤ 1000000) (h : Own S w0 w (SP.blk g 88 (logA x v) :: SP.ents 26 v x.L :: R)) :
    Calls Try.prog 52 #[.pointer (some ⟨g, 0, none⟩)] w fun e w' => e = .returned (.int .i64 x.lastT) ∧ Own S w0 w' (SP.blk g 88 (logA x v) :: SP.ents 26 v x.L :: R) := by
  have H := Lib.hid h
  obtain ⟨A, c, ds, z, -, -, -, -⟩ := h.swap.ents_open
  subst z
  have her := h.swap.erd
  have c1 := h.blk_cell 1
  have c2 := h.blk_cell 2
  simp only [logA, List.getElem?_toArray, List.getElem?_cons_zero, List.getElem?_cons_succ] at c1 c2
  by_cases h0 : x.L = []
  · have e1 := x.lastT_nil h0
    rw [e1]
    have hn : x.L.length = 0 := by rw [h0]; rfl
    rw [hn] at c2
    clear h h0 her e1 hn
    go_enter Try.func52, Try.ntmps52
    go_wp2
    go_ret
    exact ⟨rfl, H.out⟩
  · have hpos : 0 < x.L.length := List.length_pos_iff.2 h0
    obtain ⟨k, hk⟩ : ∃ k, x.L.length = k + 1 := ⟨x.L.length - 1, by omega⟩
    obtain ⟨m, hm⟩ : ∃ m, x.L[k]? = some m := ⟨_, List.getElem?_eq_getElem (by omega)⟩
    have e1 := x.lastT_snoc (e := m) (by rw [hk]; exact hm)
    rw [e1]
    obtain ⟨b, off, Ad, cd, rfl, hbl, k0, k1, -⟩ := her k m hm
    rw [hk] at c2
    have w1 : IntKind.i64.wrap (((k : Int) + 1) - 1) = (k : Int) := by rw [IntWalk.i64_in _ (by omega)]; omega
    have w2 : IntKind.i64.wrap (((k + 1 : Nat) : Int) - 1) = (k : Int) := by rw [IntWalk.i64_in _ (by omega)]; omega
    have w3 : IntKind.i64.wrap (k : Int) = (k : Int) := IntWalk.i64_in _ (by omega)
    have q0 : (((k : Int) + 1) == 0) = false := by simp; omega
    have q1 : (0 : Int) < (k : Int) + 1 := by omega
    have q2 : (k : Int) < (k : Int) + 1 := by omega
    clear h h0 her e1 hm hpos hk
    go_enter Try.func52, Try.ntmps52
    go_wp2_with fail
    go_quiet (fail)
    go_wp2
    go_ret
    exact ⟨rfl, Own.drewN H.out _⟩

set_option maxRecDepth 100000 in
set_option maxHeartbeats 6400000 in
theorem rmarks_own2 {v : Value} (h : Own S w0 w (SP.blk g 88 (logA x v) :: SP.ents 26 v x.L :: R)) :
    Calls Try.prog 77 #[.pointer (some ⟨g, 0, none⟩)] w fun e w' => e = .returned (marksV x) ∧ Own S w0 w' (SP.blk g 88 (logA x v) :: SP.ents 26 v x.L :: R) := by
  unfold marksV
  have O1 := Lib.hid (h.alloc #[.int .i64 0, .int .i64 0, .int .i64 0, .int .i64 0, .int .i64 0] 65)
  obtain ⟨q, hq⟩ : ∃ q, w.heap.size = q := ⟨_, rfl⟩
  have HQ := Lib.hid hq
  rw [hq] at O1
  clear h hq
  go_enter Try.func77, Try.ntmps77
  go_upto_region 1 with (fail)
  simp only [HQ.out]
  obtain ⟨w1, hw1⟩ : ∃ W, w.alloc (.cells #[.int .i64 0, .int .i64 0, .int .i64 0, .int .i64 0, .int .i64 0] 65) = W := ⟨_, rfl⟩
  rw [hw1] at O1 ⊢
  clear hw1
  refine wp_region_need (fun W => W.cell? ⟨g, 3, none⟩ = some (.int .i64 x.h) ∧ W.cell? ⟨g, 4, none⟩ = some (.int .i64 x.s) ∧ W.cell? ⟨g, 5, none⟩ = some (.int .i64 x.c) ∧ W.cell? ⟨g, 6, none⟩ = some (.int .i64 x.ap) ∧ W.cell? ⟨g, 7, none⟩ = some (.int .i64 x.ad)) (fun j => decide (j < 21)) (by kernel_rfl) ?_
  obtain ⟨W0, hW0⟩ : ∃ W0, w1.drew = W0 := ⟨_, rfl⟩
  have o2 := O1.out.drew
  rw [hW0] at o2 ⊢
  clear hW0 O1
  have o3 := o2.swap
  have e3 := o3.blk_cell 3
  have e4 := o3.blk_cell 4
  have e5 := o3.blk_cell 5
  have e6 := o3.blk_cell 6
  have e7 := o3.blk_cell 7
  simp only [logA, List.getElem?_toArray, List.getElem?_cons_zero, List.getElem?_cons_succ] at e3 e4 e5 e6 e7
  have HS := Lib.hid (show W0.cell? ⟨g, 3, none⟩ = some (.int .i64 x.h) ∧ W0.cell? ⟨g, 4, none⟩ = some (.int .i64 x.s) ∧ W0.cell? ⟨g, 5, none⟩ = some (.int .i64 x.c) ∧ W0.cell? ⟨g, 6, none⟩ = some (.int .i64 x.ap) ∧ W0.cell? ⟨g, 7, none⟩ = some (.int .i64 x.ad) from ⟨e3, e4, e5, e6, e7⟩)
  have f0 := o2.blk_free 0
  have s0 := o2.blk_set 0 (.int .i64 x.h)
  have f1 := s0.blk_free 1
  have s1 := s0.blk_set 1 (.int .i64 x.s)
  have f2 := s1.blk_free 2
  have s2 := s1.blk_set 2 (.int .i64 x.c)
  have f3 := s2.blk_free 3
  have s3 := s2.blk_set 3 (.int .i64 x.ap)
  have f4 := s3.blk_free 4
  have O5 := Lib.hid (s3.blk_set 4 (.int .i64 x.ad))
  have b0 := o2.blk_cell 0
  have b1 := s0.blk_cell 1
  have b2 := s1.blk_cell 2
  have b3 := s2.blk_cell 3
  have b4 := s3.blk_cell 4
  simp only [List.getElem?_toArray, List.setIfInBounds_toArray, List.set_cons_zero, List.set_cons_succ, List.getElem?_cons_zero, List.getElem?_cons_succ] at b0 b1 b2 b3 b4
  clear o2 o3 s0 s1 s2 s3 e3 e4 e5 e6 e7
  refine wpAnyN_take (i := 0) (v := ?v0) (by simp only [List.getElem?_toArray, List.getElem?_cons_succ, List.getElem?_cons_zero]; rfl) (by kernel_rfl) (by intro _ _ _ h; exact h) (Or.inl ⟨by rfl, ?y0⟩) HS.out ?r0
  case y0 =>
    intro W hSW
    try dsimp only at hSW
    obtain ⟨s0, s1, s2, s3, s4⟩ := hSW
    go_simp
    try with_reducible rfl
  simp only [Act.put, List.setIfInBounds_toArray, List.set_cons_zero, List.set_cons_succ]
  refine wpAnyN_take (i := 1) (v := ?v1) (by simp only [List.getElem?_toArray, List.getElem?_cons_succ, List.getElem?_cons_zero]; rfl) (by kernel_rfl) (by intro _ _ _ h; exact h) (Or.inl ⟨by rfl, ?y1⟩) HS.out ?r1
  case y1 =>
    intro W hSW
    try dsimp only at hSW
    obtain ⟨s0, s1, s2, s3, s4⟩ := hSW
    go_simp
    try with_reducible rfl
  simp only [Act.put, List.setIfInBounds_toArray, List.set_cons_zero, List.set_cons_succ]
  refine wpAnyN_take (i := 2) (v := ?v2) (by simp only [List.getElem?_toArray, List.getElem?_cons_succ, List.getElem?_cons_zero]; rfl) (by kernel_rfl) (by intro _ _ _ h; exact h) (Or.inl ⟨by rfl, ?y2⟩) HS.out ?r2
  case y2 =>
    intro W hSW
    try dsimp only at hSW
    obtain ⟨s0, s1, s2, s3, s4⟩ := hSW
    go_simp
    try with_reducible rfl
  simp only [Act.put, List.setIfInBounds_toArray, List.set_cons_zero, List.set_cons_succ]
  refine wpAnyN_take (i := 3) (v := ?v3) (by simp only [List.getElem?_toArray, List.getElem?_cons_succ, List.getElem?_cons_zero]; rfl) (by kernel_rfl) (by intro _ _ _ h; exact h) (Or.inl ⟨by rfl, ?y3⟩) HS.out ?r3
  case y3 =>
    intro W hSW
    try dsimp only at hSW
    obtain ⟨s0, s1, s2, s3, s4⟩ := hSW
    go_simp
    try with_reducible rfl
  simp only [Act.put, List.setIfInBounds_toArray, List.set_cons_zero, List.set_cons_succ]
  refine wpAnyN_take (i := 4) (v := ?v4) (by simp only [List.getElem?_toArray, List.getElem?_cons_succ, List.getElem?_cons_zero]; rfl) (by kernel_rfl) (by intro _ _ _ h; exact h) (Or.inl ⟨by rfl, ?y4⟩) HS.out ?r4
  case y4 =>
    intro W hSW
    try dsimp only at hSW
    obtain ⟨s0, s1, s2, s3, s4⟩ := hSW
    go_simp
    try with_reducible rfl
  simp only [Act.put, List.setIfInBounds_toArray, List.set_cons_zero, List.set_cons_succ]
  refine wpAnyN_take (i := 5) (v := ?v5) (by simp only [List.getElem?_toArray, List.getElem?_cons_succ, List.getElem?_cons_zero]; rfl) (by kernel_rfl) (by intro _ _ _ h; exact h) (Or.inl ⟨by rfl, ?y5⟩) HS.out ?r5
  case y5 =>
    intro W hSW
    try dsimp only at hSW
    obtain ⟨s0, s1, s2, s3, s4⟩ := hSW
    go_simp
    try with_reducible rfl
  simp only [Act.put, List.setIfInBounds_toArray, List.set_cons_zero, List.set_cons_succ]
  refine wpAnyN_take (i := 6) (v := ?v6) (by simp only [List.getElem?_toArray, List.getElem?_cons_succ, List.getElem?_cons_zero]; rfl) (by kernel_rfl) (by intro _ _ _ h; exact h) (Or.inl ⟨by rfl, ?y6⟩) HS.out ?r6
  case y6 =>
    intro W hSW
    try dsimp only at hSW
    obtain ⟨s0, s1, s2, s3, s4⟩ := hSW
    go_simp
    try with_reducible rfl
  simp only [Act.put, List.setIfInBounds_toArray, List.set_cons_zero, List.set_cons_succ]
  refine wpAnyN_take (i := 7) (v := ?v7) (by simp only [List.getElem?_toArray, List.getElem?_cons_succ, List.getElem?_cons_zero]; rfl) (by kernel_rfl) (by intro _ _ _ h; exact h) (Or.inl ⟨by rfl, ?y7⟩) HS.out ?r7
  case y7 =>
    intro W hSW
    try dsimp only at hSW
    obtain ⟨s0, s1, s2, s3, s4⟩ := hSW
    go_simp
    try with_reducible rfl
  simp only [Act.put, List.setIfInBounds_toArray, List.set_cons_zero, List.set_cons_succ]
  refine wpAnyN_take (i := 8) (v := ?v8) (by simp only [List.getElem?_toArray, List.getElem?_cons_succ, List.getElem?_cons_zero]; rfl) (by kernel_rfl) (by intro _ _ _ h; exact h) (Or.inl ⟨by rfl, ?y8⟩) HS.out ?r8
  case y8 =>
    intro W hSW
    try dsimp only at hSW
    obtain ⟨s0, s1, s2, s3, s4⟩ := hSW
    go_simp
    try with_reducible rfl
  simp only [Act.put, List.setIfInBounds_toArray, List.set_cons_zero, List.set_cons_succ]
  refine wpAnyN_take (i := 9) (v := ?v9) (by simp only [List.getElem?_toArray, List.getElem?_cons_succ, List.getElem?_cons_zero]; rfl) (by kernel_rfl) (by intro _ _ _ h; exact h) (Or.inl ⟨by rfl, ?y9⟩) HS.out ?r9
  case y9 =>
    intro W hSW
    try dsimp only at hSW
    obtain ⟨s0, s1, s2, s3, s4⟩ := hSW
    go_simp
    try with_reducible rfl
  simp only [Act.put, List.setIfInBounds_toArray, List.set_cons_zero, List.set_cons_succ]
  refine wpAnyN_take (i := 10) (v := ?v10) (by simp only [List.getElem?_toArray, List.getElem?_cons_succ, List.getElem?_cons_zero]; rfl) (by kernel_rfl) (by intro _ _ _ h; exact h) (Or.inl ⟨by rfl, ?y10⟩) HS.out ?r10
  case y10 =>
    intro W hSW
    try dsimp only at hSW
    obtain ⟨s0, s1, s2, s3, s4⟩ := hSW
    go_simp
    try with_reducible rfl
  simp only [Act.put, List.setIfInBounds_toArray, List.set_cons_zero, List.set_cons_succ]
  refine wpAnyN_take (i := 11) (v := ?v11) (by simp only [List.getElem?_toArray, List.getElem?_cons_succ, List.getElem?_cons_zero]; rfl) (by kernel_rfl) (by intro _ _ _ h; exact h) (Or.inl ⟨by rfl, ?y11⟩) HS.out ?r11
  case y11 =>
    intro W hSW
    try dsimp only at hSW
    obtain ⟨s0, s1, s2, s3, s4⟩ := hSW
    go_simp
    try with_reducible rfl
  simp only [Act.put, List.setIfInBounds_toArray, List.set_cons_zero, List.set_cons_succ]
  refine wpAnyN_take (i := 12) (v := ?v12) (by simp only [List.getElem?_toArray, List.getElem?_cons_succ, List.getElem?_cons_zero]; rfl) (by kernel_rfl) (by intro _ _ _ h; exact h) (Or.inl ⟨by rfl, ?y12⟩) HS.out ?r12
  case y12 =>
    intro W hSW
    try dsimp only at hSW
    obtain ⟨s0, s1, s2, s3, s4⟩ := hSW
    go_simp
    try with_reducible rfl
  simp only [Act.put, List.setIfInBounds_toArray, List.set_cons_zero, List.set_cons_succ]
  refine wpAnyN_take (i := 13) (v := ?v13) (by simp only [List.getElem?_toArray, List.getElem?_cons_succ, List.getElem?_cons_zero]; rfl) (by kernel_rfl) (by intro _ _ _ h; exact h) (Or.inl ⟨by rfl, ?y13⟩) HS.out ?r13
  case y13 =>
    intro W hSW
    try dsimp only at hSW
    obtain ⟨s0, s1, s2, s3, s4⟩ := hSW
    go_simp
    try with_reducible rfl
  simp only [Act.put, List.setIfInBounds_toArray, List.set_cons_zero, List.set_cons_succ]
  refine wpAnyN_take (i := 14) (v := ?v14) (by simp only [List.getElem?_toArray, List.getElem?_cons_succ, List.getElem?_cons_zero]; rfl) (by kernel_rfl) (by intro _ _ _ h; exact h) (Or.inl ⟨by rfl, ?y14⟩) HS.out ?r14
  case y14 =>
    intro W hSW
    try dsimp only at hSW
    obtain ⟨s0, s1, s2, s3, s4⟩ := hSW
    go_simp
    try with_reducible rfl
  simp only [Act.put, List.setIfInBounds_toArray, List.set_cons_zero, List.set_cons_succ]
  refine wpAnyN_take (i := 15) (v := ?v15) (by simp only [List.getElem?_toArray, List.getElem?_cons_succ, List.getElem?_cons_zero]; rfl) (by kernel_rfl) (by intro _ _ _ h; exact h) (Or.inl ⟨by rfl, ?y15⟩) HS.out ?r15
  case y15 =>
    intro W hSW
    try dsimp only at hSW
    obtain ⟨s0, s1, s2, s3, s4⟩ := hSW
    go_simp
    try with_reducible rfl
  simp only [Act.put, List.setIfInBounds_toArray, List.set_cons_zero, List.set_cons_succ]
  refine wpAnyN_take (i := 16) (v := ?v16) (by simp only [List.getElem?_toArray, List.getElem?_cons_succ, List.getElem?_cons_zero]; rfl) (by kernel_rfl) (by intro _ _ _ h; exact h) (Or.inl ⟨by rfl, ?y16⟩) HS.out ?r16
  case y16 =>
    intro W hSW
    try dsimp only at hSW
    obtain ⟨s0, s1, s2, s3, s4⟩ := hSW
    go_simp
    try with_reducible rfl
  simp only [Act.put, List.setIfInBounds_toArray, List.set_cons_zero, List.set_cons_succ]
  refine wpAnyN_take (i := 17) (v := ?v17) (by simp only [List.getElem?_toArray, List.getElem?_cons_succ, List.getElem?_cons_zero]; rfl) (by kernel_rfl) (by intro _ _ _ h; exact h) (Or.inl ⟨by rfl, ?y17⟩) HS.out ?r17
  case y17 =>
    intro W hSW
    try dsimp only at hSW
    obtain ⟨s0, s1, s2, s3, s4⟩ := hSW
    go_simp
    try with_reducible rfl
  simp only [Act.put, List.setIfInBounds_toArray, List.set_cons_zero, List.set_cons_succ]
  refine wpAnyN_take (i := 18) (v := ?v18) (by simp only [List.getElem?_toArray, List.getElem?_cons_succ, List.getElem?_cons_zero]; rfl) (by kernel_rfl) (by intro _ _ _ h; exact h) (Or.inl ⟨by rfl, ?y18⟩) HS.out ?r18
  case y18 =>
    intro W hSW
    try dsimp only at hSW
    obtain ⟨s0, s1, s2, s3, s4⟩ := hSW
    go_simp
    try with_reducible rfl
  simp only [Act.put, List.setIfInBounds_toArray, List.set_cons_zero, List.set_cons_succ]
  refine wpAnyN_take (i := 19) (v := ?v19) (by simp only [List.getElem?_toArray, List.getElem?_cons_succ, List.getElem?_cons_zero]; rfl) (by kernel_rfl) (by intro _ _ _ h; exact h) (Or.inl ⟨by rfl, ?y19⟩) HS.out ?r19
  case y19 =>
    intro W hSW
    try dsimp only at hSW
    obtain ⟨s0, s1, s2, s3, s4⟩ := hSW
    go_simp
    try with_reducible rfl
  simp only [Act.put, List.setIfInBounds_toArray, List.set_cons_zero, List.set_cons_succ]
  refine wpAnyN_take (i := 20) (v := ?v20) (by simp only [List.getElem?_toArray, List.getElem?_cons_succ, List.getElem?_cons_zero]; rfl) (by kernel_rfl) (by intro _ _ _ h; exact h) (Or.inl ⟨by rfl, ?y20⟩) HS.out ?r20
  case y20 =>
    intro W hSW
    try dsimp only at hSW
    obtain ⟨s0, s1, s2, s3, s4⟩ := hSW
    go_simp
    try with_reducible rfl
  simp only [Act.put, List.setIfInBounds_toArray, List.set_cons_zero, List.set_cons_succ]
  refine wpAnyN_one (i := 21) (by kernel_rfl) (by simp only [List.getElem?_toArray, List.getElem?_cons_succ, List.getElem?_cons_zero]; rfl) (fun K hK => ?_)
  go_simp
  refine hK _ _ ⟨fun h => (by cases h), ?_⟩
  clear hK K
  try simp only [Act.put, List.setIfInBounds_toArray, List.set_cons_zero, List.set_cons_succ]
  refine wpAnyN_done (by kernel_rfl) ?_ _
  obtain ⟨w2, hw2⟩ : ∃ W, (((((W0.setCell ⟨q, 0, none⟩ (.int .i64 x.h)).setCell ⟨q, 1, none⟩ (.int .i64 x.s)).setCell ⟨q, 2, none⟩ (.int .i64 x.c)).setCell ⟨q, 3, none⟩ (.int .i64 x.ap)).setCell ⟨q, 4, none⟩ (.int .i64 x.ad)) = W := ⟨_, rfl⟩
  rw [hw2] at O5
  simp only [hw2]
  clear hw2 f0 f1 f2 f3 f4 b0 b1 b2 b3 b4
  have d0 := O5.out.blk_cell 0
  have d1 := O5.out.blk_cell 1
  have d2 := O5.out.blk_cell 2
  have d3 := O5.out.blk_cell 3
  have d4 := O5.out.blk_cell 4
  simp only [List.getElem?_toArray, List.setIfInBounds_toArray, List.set_cons_zero, List.set_cons_succ, List.getElem?_cons_zero, List.getElem?_cons_succ] at d0 d1 d2 d3 d4
  go_wp2
  refine bodyPost_ret (v := .agg #[.int .i64 x.h, .int .i64 x.s, .int .i64 x.c, .int .i64 x.ap, .int .i64 x.ad]) ?_ rfl ⟨rfl, O5.out.pop⟩
  simp [results, go_sem, Try.results77, d0, d1, d2, d3, d4]

set_option maxRecDepth 100000 in
set_option maxHeartbeats 16000000 in
theorem alike_own (hx : x.Ok) (h : Own S w0 w (SP.log 85 g x :: SP.log 88 k x :: R)) :
    Calls Try.prog 45 #[.pointer (some ⟨g, 0, none⟩), .pointer (some ⟨k, 0, none⟩)] w fun e w' => e = .returned (.bool true) ∧ Own S w0 w' (SP.log 85 g x :: SP.log 88 k x :: R) := by
  obtain ⟨n, hn⟩ : ∃ n, x.L.length = n := ⟨_, rfl⟩
  obtain ⟨la, hla⟩ : ∃ p, x.lastI = p := ⟨_, rfl⟩
  obtain ⟨lt, hlt⟩ : ∃ p, x.lastT = p := ⟨_, rfl⟩
  have HX := Lib.hid (And.intro hx (And.intro hn (And.intro hla hlt)))
  have hn4 : n ≤ 10000 := by rw [← hn]; exact hx.len
  obtain ⟨AL, cL, hcL, -, o1⟩ := h.swap.log_open
  rw [hn] at o1 hcL
  have HB := Lib.hid (base_own (o1.pick (L := [_, _, _]) [2, 0, 1]))
  have hx0 := hx.i0
  have hx1 := hx.i1
  rw [maxI_eq] at hx1
  clear h hx hn hla hlt o1
  go_enter Try.func45, Try.ntmps45
  go_wp2_with fail
  refine (HB.out).mono ?_
  rintro e w1 ⟨rfl, o1⟩
  have hLa := last_own (by have := HX.out.1.len; omega) o1 (fun j e h => (HX.out.1.idx j e h).1)
  rw [HX.out.2.2.1, HX.out.2.2.2] at hLa
  have HLa := Lib.hid hLa
  clear o1 hLa HB
  go_wp2_with fail
  refine (HLa.out).mono ?_
  rintro e w2 ⟨rfl, o2⟩
  have hE := entries_own HX.out.1 o2 (x.index + 1) 10000 ⟨by omega, by omega⟩ ⟨by decide, by decide⟩
  rw [entries_whole HX.out.1, HX.out.2.1] at hE
  have HE := Lib.hid hE
  clear o2 hE HLa
  go_wp2_with fail
  refine (HE.out).mono ?_
  rintro e w3 ⟨Aa, ca, rfl, o3⟩
  have hs := sameents_own (ca := ca) (cb := cL) (A := Aa) (B := AL) (xs := x.L) (ys := x.L) (o3.pick (L := [_, _, _, _]) [3, 0, 1, 2]) (EReads.of_ents.more [_]) EReads.of_ents (by rw [HX.out.2.1]; omega) (fun m hm => by have := HX.out.1.dat m hm; omega)
  rw [show decide (x.L = x.L) = true from decide_eq_true rfl, HX.out.2.1] at hs
  have HS := Lib.hid hs
  have d2 := (o3.pick (L := [_, _, _]) [2]).blk_cell 2
  simp only [logA, List.getElem?_toArray, List.getElem?_cons_zero, List.getElem?_cons_succ] at d2
  clear o3 hs HE
  go_wp2_with fail
  refine (HS.out).mono ?_
  rintro e w4 ⟨rfl, o4⟩
  obtain ⟨A', c', ds, z, hds, -, -, o5⟩ := (o4.pick (L := [_, _, _, _]) [1, 2, 3, 0]).ents_open
  rw [HX.out.2.1] at z o5
  cases z
  rw [mdata_inner] at o5
  have HD := Lib.hid (And.intro HX.out.2.1 (show ds.length = n by rw [hds, HX.out.2.1]))
  have HL := Lib.hid (And.intro (AsLong.start x.L) (show Rest4 n 0 (mrow x.L ds) (mrow x.L ds) from ⟨by rw [mrow_length hds, HX.out.2.1], fun p _ => rfl⟩))
  have O5 := Lib.hid o5
  clear o4 o5 hds HS d2
  go_wp2
  go_loopw [12] (fun ti wr => ∃ (i : Nat) (YS : List (List Value)) (zs : List Value), i ≤ n ∧ ti = .int .i64 i ∧ Hid (AsLong x.L YS ∧ Rest4 n i (mrow x.L ds) zs) ∧ Own S w0 wr (SP.row 26 4 (.slice Aa n ca) zs :: SP.stars (inner 5 ds YS) :: SP.log 85 g x :: SP.blk k 88 (logA x (.slice AL n cL)) :: SP.ents 26 (.slice AL n cL) x.L :: R)) (fun ti _ => n - (intOf ti).toNat)
  case atStart => exact ⟨0, _, _, Nat.zero_le _, rfl, HL.out, O5.out⟩
  case round =>
    obtain ⟨i, YS, zs, hi, rfl, hY, hown⟩ := hrel
    clear O5 HL
    by_cases hin : i < n
    · have i1 : (i : Int) < (n : Int) := by omega
      obtain ⟨m, hm⟩ : ∃ m, x.L[i]? = some m := ⟨_, List.getElem?_eq_getElem (by rw [HD.out.1]; exact hin)⟩
      obtain ⟨d, hd⟩ : ∃ d, ds[i]? = some d := ⟨_, List.getElem?_eq_getElem (by rw [HD.out.2]; exact hin)⟩
      obtain ⟨ys, hys⟩ : ∃ d, YS[i]? = some d := ⟨_, List.getElem?_eq_getElem (by rw [hY.out.1.len, HD.out.1]; exact hin)⟩
      obtain ⟨b, off, rfl, -, -⟩ := hown.cell (j := i * 4 + 3) (u := d) (by rw [hY.out.2.back _ (by omega)]; exact mrow_get (j := 3) hm hd (by omega))
      obtain ⟨Ad, cd, hdv, hc1, hc2⟩ := SP.row_shape1 (hown.swap.focus i (inner_get hd hys)).head
      rw [hY.out.1.each i m ys hm hys] at hdv hc1
      obtain ⟨dl, hdl⟩ : ∃ dl, m.dat.length = dl := ⟨_, rfl⟩
      have hdl2 := HX.out.1.dat m (List.mem_of_getElem? hm)
      rw [hdl] at hdv hc1 hdl2
      subst hdv
      have HM := Lib.hid (And.intro hm (And.intro hd hdl))
      have HO := Lib.hid hown
      clear hown hm hd hys hdl
      go_wp2
      go_loopw [13] (fun tk wr => ∃ (j : Nat) (ZS : List (List Value)), j ≤ dl ∧ tk = .int .i64 j ∧ Hid (AsLong x.L ZS) ∧ Own S w0 wr (SP.row 26 4 (.slice (some ⟨b, off, none⟩) n ca) zs :: SP.stars (inner 5 ds ZS) :: SP.log 85 g x :: SP.blk k 88 (logA x (.slice AL n cL)) :: SP.ents 26 (.slice AL n cL) x.L :: R)) (fun tk _ => dl - (intOf tk).toNat)
      case atStart => exact ⟨0, _, Nat.zero_le _, rfl, hY.out.1, HO.out⟩
      case round =>
        obtain ⟨j, ZS, hk, rfl, hZ, hown⟩ := hrel
        clear HO
        obtain ⟨_, _, z, l3, -⟩ := hown.cell (j := i * 4 + 3) (u := .slice Ad dl cd) (by rw [hY.out.2.back _ (by omega)]; exact mrow_get (j := 3) HM.out.1 HM.out.2.1 (by omega))
        cases z
        simp only [← Nat.add_assoc] at l3
        by_cases hkd : j < dl
        · have k1 : (j : Int) < (dl : Int) := by omega
          obtain ⟨zz, hzs⟩ : ∃ d, ZS[i]? = some d := ⟨_, List.getElem?_eq_getElem (by rw [hZ.out.len, HD.out.1]; exact hin)⟩
          have hzl := hZ.out.each i m zz HM.out.1 hzs
          obtain ⟨u, hu⟩ : ∃ u, zz[j]? = some u := ⟨_, List.getElem?_eq_getElem (by rw [hzl, HM.out.2.2]; exact hkd)⟩
          obtain ⟨h1, back⟩ := hown.swap.inner_one (by rw [HD.out.2, hZ.out.len, HD.out.1]) HM.out.2.1 hzs
          obtain ⟨gb, go, z, q1, q2⟩ := h1.cell hu
          cases z
          have O5 := Lib.hid ((back _ _ (h1.store (j := j) (by rw [hzl, HM.out.2.2]; exact hkd) (.int .u8 77))).swap)
          have HZ := Lib.hid (hZ.out.set hzs j (.int .u8 77))
          clear hown h1 back hzs hzl hu
          go_wp2
          go_roundw
          case rel => exact ⟨j + 1, _, by omega, by go_num, HZ.out, O5.out⟩
          case measure => simp [intOf]; omega
        · have k1 : ¬ (j : Int) < (dl : Int) := by omega
          have hzl := hY.out.2.len
          obtain ⟨u0, hu0⟩ : ∃ u, zs[i * 4]? = some u := ⟨_, List.getElem?_eq_getElem (by omega)⟩
          obtain ⟨_, _, z, q0, f0⟩ := hown.cell hu0
          cases z
          have s0 := hown.store (j := i * 4) (by omega) (.int .i64 0)
          obtain ⟨u1, hu1⟩ : ∃ u, (zs.set (i * 4) (.int .i64 0))[i * 4 + 1]? = some u := ⟨_, List.getElem?_eq_getElem (by rw [List.length_set]; omega)⟩
          obtain ⟨_, _, z, q1, f1⟩ := s0.cell hu1
          cases z
          have s1 := s0.store (j := i * 4 + 1) (by rw [List.length_set]; omega) (.int .i64 0)
          obtain ⟨u2, hu2⟩ : ∃ u, ((zs.set (i * 4) (.int .i64 0)).set (i * 4 + 1) (.int .i64 0))[i * 4 + 2]? = some u := ⟨_, List.getElem?_eq_getElem (by simp only [List.length_set]; omega)⟩
          obtain ⟨_, _, z, q2, f2⟩ := s1.cell hu2
          cases z
          have s2 := s1.store (j := i * 4 + 2) (by simp only [List.length_set]; omega) (.int .i64 0)
          obtain ⟨u3, hu3⟩ : ∃ u, (((zs.set (i * 4) (.int .i64 0)).set (i * 4 + 1) (.int .i64 0)).set (i * 4 + 2) (.int .i64 0))[i * 4 + 3]? = some u := ⟨_, List.getElem?_eq_getElem (by simp only [List.length_set]; omega)⟩
          obtain ⟨_, _, z, q3, f3⟩ := s2.cell hu3
          cases z
          have O6 := Lib.hid (s2.store (j := i * 4 + 3) (by simp only [List.length_set]; omega) (.slice none 0 0))
          have HR4 := Lib.hid (hY.out.2.set4 (.int .i64 0) (.int .i64 0) (.int .i64 0) (.slice none 0 0))
          simp only [← Nat.add_assoc] at q0 q1 q2 q3 f0 f1 f2 f3 O6
          have HZY := Lib.hid hZ.out
          clear hown s0 s1 s2 hu0 hu1 hu2 hu3 hzl
          go_wp2
          go_roundw
          case rel => exact ⟨i + 1, ZS, _, by omega, by go_num, ⟨HZY.out, HR4.out⟩, O6.out⟩
          case measure => simp [intOf]; omega
    · have i1 : ¬ (i : Int) < (n : Int) := by omega
      have HO := Lib.hid (hown.pick (L := [_, _, _, _, _]) [3, 4, 2])
      clear hown
      have HL1 := Lib.hid (fun (W : World) (o : Own S w0 W (SP.blk k 88 (logA x (.slice AL n cL)) :: SP.ents 26 (.slice AL n cL) x.L :: SP.log 85 g x :: R)) => show Calls Try.prog 18 #[.pointer (some ⟨k, 0, none⟩)] W fun e w' => e = .returned (.int .i64 la) ∧ Own S w0 w' (SP.blk k 88 (logA x (.slice AL n cL)) :: SP.ents 26 (.slice AL n cL) x.L :: SP.log 85 g x :: R) from by
        have := rlast_own2 (x := x) (by have := HX.out.1.len; omega) HX.out.1.last HX.out.1.i0 o
        rw [HX.out.2.2.1] at this
        exact this)
      have HL2 := Lib.hid (fun (W : World) (o : Own S w0 W (SP.blk k 88 (logA x (.slice AL n cL)) :: SP.ents 26 (.slice AL n cL) x.L :: SP.log 85 g x :: R)) => show Calls Try.prog 52 #[.pointer (some ⟨k, 0, none⟩)] W fun e w' => e = .returned (.int .i64 lt) ∧ Own S w0 w' (SP.blk k 88 (logA x (.slice AL n cL)) :: SP.ents 26 (.slice AL n cL) x.L :: SP.log 85 g x :: R) from by
        have := rlastT_own2 (x := x) (by have := HX.out.1.len; omega) o
        rw [HX.out.2.2.2] at this
        exact this)
      have HL3 := Lib.hid (fun (W : World) (o : Own S w0 W (SP.log 85 g x :: SP.blk k 88 (logA x (.slice AL n cL)) :: SP.ents 26 (.slice AL n cL) x.L :: R)) => show Calls Try.prog 76 #[.pointer (some ⟨g, 0, none⟩)] W fun e w' => e = .returned (.int .i64 n) ∧ Own S w0 w' (SP.log 85 g x :: SP.blk k 88 (logA x (.slice AL n cL)) :: SP.ents 26 (.slice AL n cL) x.L :: R) from by
        have := len_own o
        rw [HX.out.2.1] at this
        exact this)
      have HL4 := Lib.hid (fun (W : World) (o : Own S w0 W (SP.log 85 g x :: SP.blk k 88 (logA x (.slice AL n cL)) :: SP.ents 26 (.slice AL n cL) x.L :: R)) => marks_own o)
      have HL5 := Lib.hid (fun (W : World) (o : Own S w0 W (SP.blk k 88 (logA x (.slice AL n cL)) :: SP.ents 26 (.slice AL n cL) x.L :: SP.log 85 g x :: R)) => rmarks_own2 (x := x) o)
      unfold marksV at HL4 HL5
      have HL6 := Lib.hid (fun (W : World) => num_calls W 0 ⟨by decide, by decide⟩)
      have hq := eq65
      have hq5 := same5_self x.h x.s x.c x.ap x.ad
      have HCS := Lib.hid (fun (W : World) (R' : List SP) (o : Own S w0 W (SP.blk k 88 (logA x (.slice AL n cL)) :: R')) => show W.cell? ⟨k, 0, none⟩ = some (.int .i64 x.index) ∧ W.cell? ⟨k, 1, none⟩ = some (.int .i64 x.term) ∧ W.cell? ⟨k, 2, none⟩ = some (.slice AL n cL) from ⟨o.blk_cell 0, o.blk_cell 1, o.blk_cell 2⟩)
      obtain ⟨kk0, kk1, kk2⟩ := HCS.out _ _ HO.out
      go_upto_region 13 with (fail)
      go_region_held3 (fun W => W.cell? ⟨k, 0, none⟩ = some (.int .i64 x.index) ∧ W.cell? ⟨k, 1, none⟩ = some (.int .i64 x.term) ∧ W.cell? ⟨k, 2, none⟩ = some (.slice AL n cL))
        (first | go_keep | exact ⟨kk0, kk1, kk2⟩ | exact K1.out | exact K2.out | exact K3.out | exact K4.out | exact K5.out)
        (first
          | (refine step_callW 18 _ _ rfl Try.func18 (by kernel_rfl) (by kernel_rfl) #[.pointer (some ⟨k, 0, none⟩)] (by rfl) (by rfl) ?_
             refine (HL1.out _ HO.out.drew).mono ?_
             rintro e wa ⟨rfl, oa⟩
             refine ⟨_, rfl, ?_⟩
             have K1 := Lib.hid (HCS.out _ _ oa)
             have OA := Lib.hid oa
             clear oa)
          | (refine step_callW 52 _ _ rfl Try.func52 (by kernel_rfl) (by kernel_rfl) #[.pointer (some ⟨k, 0, none⟩)] (by rfl) (by rfl) ?_
             refine (HL2.out _ OA.out).mono ?_
             rintro e wb ⟨rfl, ob⟩
             refine ⟨_, rfl, ?_⟩
             have K2 := Lib.hid (HCS.out _ _ ob)
             have OB := Lib.hid (ob.pick (L := [_, _, _]) [2, 0, 1])
             clear ob)
          | (refine step_callW 76 _ _ rfl Try.func76 (by kernel_rfl) (by kernel_rfl) #[.pointer (some ⟨g, 0, none⟩)] (by rfl) (by rfl) ?_
             refine (HL3.out _ OB.out).mono ?_
             rintro e wc ⟨rfl, oc⟩
             refine ⟨_, rfl, ?_⟩
             have K3 := Lib.hid (HCS.out _ _ oc.swap)
             have OC := Lib.hid oc
             clear oc)
          | (refine step_callW 31 _ _ rfl Try.func31 (by kernel_rfl) (by kernel_rfl) #[.pointer (some ⟨g, 0, none⟩)] (by rfl) (by rfl) ?_
             refine (HL4.out _ OC.out).mono ?_
             rintro e wd ⟨rfl, od⟩
             refine ⟨_, rfl, ?_⟩
             have K4 := Lib.hid (HCS.out _ _ od.swap)
             have OD := Lib.hid (od.pick (L := [_, _, _]) [1, 2, 0])
             clear od)
          | (refine step_callW 77 _ _ rfl Try.func77 (by kernel_rfl) (by kernel_rfl) #[.pointer (some ⟨k, 0, none⟩)] (by rfl) (by rfl) ?_
             refine (HL5.out _ OD.out).mono ?_
             rintro e we ⟨rfl, oe⟩
             refine ⟨_, rfl, ?_⟩
             have K5 := Lib.hid (HCS.out _ _ oe)
             have OE := Lib.hid oe
             clear oe)
          | (refine step_callW 15 _ _ rfl Try.func15 (by kernel_rfl) (by kernel_rfl) #[.int .i64 0] (by rfl) (by rfl) ?_
             refine (HL6.out _).mono ?_
             rintro e wf ⟨rfl, rfl⟩
             refine ⟨_, rfl, ?_⟩
             skip))
      go_wp2
      go_ret
      refine ⟨by simp, ?_⟩
      exact (OE.out.pick (L := [_, _, _]) [0, 1, 2]).log_shut.swap
end
end Go.Proofs.Ytepnkhiclgjmpaa
