/-
  The document's network: Send, Copy.
  Conditions: none beyond each theorem's own.
-/
import Derived.Test.YtlhinhcbbknhcaaRSend
import Derived.Test.YtlhinhcbbknhcaaSpoil
import Derived.Test.YtlhinhcbbknhcaaRegionNeed
namespace Go.Proofs.Ytlhinhcbbknhcaa
set_option linter.unusedVariables false
set_option linter.unusedSimpArgs false
open Go.RowKit

theorem rd_cells {S : Nat → Prop} {w0 w : World} {R : List SP} {q : Nat} {t : TypeId} {cs : Array Value} (h : Own S w0 w (SP.blk q t cs :: R)) : Rd w (some ⟨q, 0, none⟩) cs.toList := fun j u hu =>
  ⟨q, 0, rfl, by rw [Nat.zero_add]; exact (h.blk_cell j).trans (by simpa using hu)⟩
section
variable {S : Nat → Prop} {w0 w : World} {R : List SP} {g : Nat} {nodes many : Int} {L : List M} {C : List (Int × Int)}
def rsendB (nodes : Int) (C : List (Int × Int)) (L : List M) (a b : Int) : Bool := rlinkedB nodes C a b && decide (L.length < 2000)

set_option maxRecDepth 100000 in
set_option maxHeartbeats 6400000 in
theorem rsend_own {B : Option Addr} {cb : Nat} {dat : List UInt8} (hC : C.length ≤ 1000000) (hl1 : 0 ≤ many) (hl2 : many ≤ 1000000000) (hdl : dat.length ≤ 140737488351232)
    (h : Own S w0 w (SP.rnet g nodes many L C :: R)) (hb : Reads S w0 R B dat) (a b : Int) :
    Calls Try.prog 27 #[.pointer (some ⟨g, 0, none⟩), .int .i64 a, .int .i64 b, .slice B dat.length cb] w fun e w' => e = .returned (.bool (rsendB nodes C L a b)) ∧ Own S w0 w' (SP.rnet g nodes (addLast (rsendB nodes C L a b) many) (addRow (rsendB nodes C L a b) many L a b dat false) C :: R) := by
  have HL := Lib.hid (rlinked_own hC h a b)
  by_cases hl : rlinkedB nodes C a b = true
  · rw [hl] at HL
    by_cases hlt : L.length < 2000
    · rw [show rsendB nodes C L a b = true by rw [rsendB, hl, Bool.true_and]; exact decide_eq_true hlt]
      simp only [addLast, addRow, if_true]
      obtain ⟨dl, hdd⟩ : ∃ dl, dat.length = dl := ⟨_, rfl⟩
      have HB := Lib.hid hb
      have HD := Lib.hid hdd
      rw [hdd] at hdl ⊢
      clear hl h hb hdd
      go_enter Try.func27, Try.ntmps27
      go_wp2_with fail
      refine (HL.out).mono ?_
      rintro e w1 ⟨rfl, o1⟩
      obtain ⟨A, c, B1, k, hLc, -, o2⟩ := o1.rnet_open
      obtain ⟨A', c', ds, z, hds, -, -, o3⟩ := (o2.pick (L := [_, _, _]) [1, 0, 2]).mails_open
      cases z
      obtain ⟨n, hn⟩ : ∃ n, L.length = n := ⟨_, rfl⟩
      have hrl := Lib.hid (show (mrow L ds).length = n * 5 by rw [mrow_length hds, hn])
      have HDS := Lib.hid (And.intro hds hn)
      rw [hn] at o3 hlt

      have hlt' : ¬ (2000 : Int) ≤ (n : Int) := by omega
      have o4 := o3.pick (L := [_, _, _]) [2, 0, 1]
      have c1 := o4.blk_cell 1
      have c2 := o4.blk_cell 2
      have f2 := o4.blk_free 2
      simp only [rnetA, List.getElem?_toArray, List.getElem?_cons_zero, List.getElem?_cons_succ] at c1 c2
      have o5 := (o4.blk_set 2 (.int .i64 (many + 1))).drew
      obtain ⟨W0, hW0⟩ : ∃ W0, (w1.setCell ⟨g, 2, none⟩ (.int .i64 (many + 1))).drew = W0 := ⟨_, rfl⟩
      rw [hW0] at o5
      have HW0 := Lib.hid hW0
      have O0 := Lib.hid (show Own S w0 W0 (SP.blk g 49 (rnetA nodes (.slice A n c) (many + 1) (.slice B1 C.length k)) :: SP.row 60 5 (.slice A n c) (mrow L ds) :: SP.stars (mdata L ds) :: SP.row 66 2 (.slice B1 C.length k) (prow C) :: R) from o5)
      have HBy := Lib.hid (fun (W : World) (o : Own S w0 W (SP.blk g 49 (rnetA nodes (.slice A n c) (many + 1) (.slice B1 C.length k)) :: SP.row 60 5 (.slice A n c) (mrow L ds) :: SP.stars (mdata L ds) :: SP.row 66 2 (.slice B1 C.length k) (prow C) :: R)) => show Calls Try.prog 20 #[.slice B dl cb] W fun e w' => ∃ A' c', e = .returned (.slice A' dl c') ∧ Own S w0 w' (SP.row 5 1 (.slice A' dl c') (bts dat) :: SP.blk g 49 (rnetA nodes (.slice A n c) (many + 1) (.slice B1 C.length k)) :: SP.row 60 5 (.slice A n c) (mrow L ds) :: SP.stars (mdata L ds) :: SP.row 66 2 (.slice B1 C.length k) (prow C) :: R) from by
        have := bytes_own (cb := cb) o (Reads.more HB.out [_, _, _, _]) (by rw [HD.out]; exact hdl)
        rw [HD.out] at this
        exact this)
      clear o1 o2 o3 o4 o5 hds hn hW0 HL
      go_upto_region 5 with (fail)
      have HSF := Lib.hid (fun (W : World) (R' : List SP) (o : Own S w0 W (SP.blk g 49 (rnetA nodes (.slice A n c) (many + 1) (.slice B1 C.length k)) :: R')) => show W.cell? ⟨g, 1, none⟩ = some (.slice A n c) ∧ W.cell? ⟨g, 2, none⟩ = some (.int .i64 (many + 1)) from ⟨o.blk_cell 1, o.blk_cell 2⟩)
      have hone := Lib.hid (fun (A5 : Option Addr) (c5 : Nat) => show ∀ u ∈ [Value.int .i64 (many + 1), .int .i64 a, .int .i64 b, .slice A5 dl c5, .bool false], u.oneCell' = true from fun u hu => by
        simp only [List.mem_cons, List.not_mem_nil, or_false] at hu
        rcases hu with rfl | rfl | rfl | rfl | rfl <;> rfl)
      refine wp_region_need (fun W => W.cell? ⟨g, 1, none⟩ = some (.slice A n c) ∧ W.cell? ⟨g, 2, none⟩ = some (.int .i64 (many + 1))) (fun j => decide (j < 16)) (by kernel_rfl) ?_
      rw [HW0.out]
      have HS := Lib.hid (HSF.out _ _ (O0.out.pick (L := [_, _, _, _]) [0]))
      refine wpAnyN_take (i := 0) (v := ?v0) (by simp only [List.getElem?_toArray, List.getElem?_cons_succ, List.getElem?_cons_zero]; rfl) (by kernel_rfl) (by intro _ _ _ h; exact h) (Or.inl ⟨by rfl, ?y0⟩) HS.out ?r0
      case y0 =>
        intro W hSW
        try dsimp only at hSW
        obtain ⟨s0, s1⟩ := hSW
        go_simp
        try with_reducible rfl
      simp only [Act.put, List.setIfInBounds_toArray, List.set_cons_zero, List.set_cons_succ]
      refine wpAnyN_take (i := 1) (v := ?v1) (by simp only [List.getElem?_toArray, List.getElem?_cons_succ, List.getElem?_cons_zero]; rfl) (by kernel_rfl) (by intro _ _ _ h; exact h) (Or.inl ⟨by rfl, ?y1⟩) HS.out ?r1
      case y1 =>
        intro W hSW
        try dsimp only at hSW
        obtain ⟨s0, s1⟩ := hSW
        go_simp
        try with_reducible rfl
      simp only [Act.put, List.setIfInBounds_toArray, List.set_cons_zero, List.set_cons_succ]
      refine wpAnyN_take (i := 2) (v := ?v2) (by simp only [List.getElem?_toArray, List.getElem?_cons_succ, List.getElem?_cons_zero]; rfl) (by kernel_rfl) (by intro _ _ _ h; exact h) (Or.inl ⟨by rfl, ?y2⟩) HS.out ?r2
      case y2 =>
        intro W hSW
        try dsimp only at hSW
        obtain ⟨s0, s1⟩ := hSW
        go_simp
        try with_reducible rfl
      simp only [Act.put, List.setIfInBounds_toArray, List.set_cons_zero, List.set_cons_succ]
      refine wpAnyN_take (i := 3) (v := ?v3) (by simp only [List.getElem?_toArray, List.getElem?_cons_succ, List.getElem?_cons_zero]; rfl) (by kernel_rfl) (by intro _ _ _ h; exact h) (Or.inl ⟨by rfl, ?y3⟩) HS.out ?r3
      case y3 =>
        intro W hSW
        try dsimp only at hSW
        obtain ⟨s0, s1⟩ := hSW
        go_simp
        try with_reducible rfl
      simp only [Act.put, List.setIfInBounds_toArray, List.set_cons_zero, List.set_cons_succ]
      refine wpAnyN_take (i := 4) (v := ?v4) (by simp only [List.getElem?_toArray, List.getElem?_cons_succ, List.getElem?_cons_zero]; rfl) (by kernel_rfl) (by intro _ _ _ h; exact h) (Or.inl ⟨by rfl, ?y4⟩) HS.out ?r4
      case y4 =>
        intro W hSW
        try dsimp only at hSW
        obtain ⟨s0, s1⟩ := hSW
        go_simp
        try with_reducible rfl
      simp only [Act.put, List.setIfInBounds_toArray, List.set_cons_zero, List.set_cons_succ]
      refine wpAnyN_take (i := 5) (v := ?v5) (by simp only [List.getElem?_toArray, List.getElem?_cons_succ, List.getElem?_cons_zero]; rfl) (by kernel_rfl) (by intro _ _ _ h; exact h) (Or.inl ⟨by rfl, ?y5⟩) HS.out ?r5
      case y5 =>
        intro W hSW
        try dsimp only at hSW
        obtain ⟨s0, s1⟩ := hSW
        go_simp
        try with_reducible rfl
      simp only [Act.put, List.setIfInBounds_toArray, List.set_cons_zero, List.set_cons_succ]
      refine wpAnyN_take (i := 6) (v := ?v6) (by simp only [List.getElem?_toArray, List.getElem?_cons_succ, List.getElem?_cons_zero]; rfl) (by kernel_rfl) (by intro _ _ _ h; exact h) (Or.inl ⟨by rfl, ?y6⟩) HS.out ?r6
      case y6 =>
        intro W hSW
        try dsimp only at hSW
        obtain ⟨s0, s1⟩ := hSW
        go_simp
        try with_reducible rfl
      simp only [Act.put, List.setIfInBounds_toArray, List.set_cons_zero, List.set_cons_succ]
      refine wpAnyN_take (i := 7) (v := ?v7) (by simp only [List.getElem?_toArray, List.getElem?_cons_succ, List.getElem?_cons_zero]; rfl) (by kernel_rfl) (by intro _ _ _ h; exact h) (Or.inl ⟨by rfl, ?y7⟩) HS.out ?r7
      case y7 =>
        intro W hSW
        try dsimp only at hSW
        obtain ⟨s0, s1⟩ := hSW
        go_simp
        try with_reducible rfl
      simp only [Act.put, List.setIfInBounds_toArray, List.set_cons_zero, List.set_cons_succ]
      refine wpAnyN_take (i := 8) (v := ?v8) (by simp only [List.getElem?_toArray, List.getElem?_cons_succ, List.getElem?_cons_zero]; rfl) (by kernel_rfl) (by intro _ _ _ h; exact h) (Or.inl ⟨by rfl, ?y8⟩) HS.out ?r8
      case y8 =>
        intro W hSW
        try dsimp only at hSW
        obtain ⟨s0, s1⟩ := hSW
        go_simp
        try with_reducible rfl
      simp only [Act.put, List.setIfInBounds_toArray, List.set_cons_zero, List.set_cons_succ]
      refine wpAnyN_take (i := 9) (v := ?v9) (by simp only [List.getElem?_toArray, List.getElem?_cons_succ, List.getElem?_cons_zero]; rfl) (by kernel_rfl) (by intro _ _ _ h; exact h) (Or.inl ⟨by rfl, ?y9⟩) HS.out ?r9
      case y9 =>
        intro W hSW
        try dsimp only at hSW
        obtain ⟨s0, s1⟩ := hSW
        go_simp
        try with_reducible rfl
      simp only [Act.put, List.setIfInBounds_toArray, List.set_cons_zero, List.set_cons_succ]
      refine wpAnyN_take (i := 10) (v := ?v10) (by simp only [List.getElem?_toArray, List.getElem?_cons_succ, List.getElem?_cons_zero]; rfl) (by kernel_rfl) (by intro _ _ _ h; exact h) (Or.inl ⟨by rfl, ?y10⟩) HS.out ?r10
      case y10 =>
        intro W hSW
        try dsimp only at hSW
        obtain ⟨s0, s1⟩ := hSW
        go_simp
        try with_reducible rfl
      simp only [Act.put, List.setIfInBounds_toArray, List.set_cons_zero, List.set_cons_succ]
      refine wpAnyN_take (i := 11) (v := ?v11) (by simp only [List.getElem?_toArray, List.getElem?_cons_succ, List.getElem?_cons_zero]; rfl) (by kernel_rfl) (by intro _ _ _ h; exact h) (Or.inl ⟨by rfl, ?y11⟩) HS.out ?r11
      case y11 =>
        intro W hSW
        try dsimp only at hSW
        obtain ⟨s0, s1⟩ := hSW
        go_simp
        try with_reducible rfl
      simp only [Act.put, List.setIfInBounds_toArray, List.set_cons_zero, List.set_cons_succ]
      refine wpAnyN_one (i := 12) (by kernel_rfl) (by simp only [List.getElem?_toArray, List.getElem?_cons_succ, List.getElem?_cons_zero]; rfl) (fun K hK => ?_)
      refine step_call rfl 20 _ _ rfl Try.func20 (by kernel_rfl) (by kernel_rfl) #[.slice B dl cb] (by simp [Act.eval]) ?_
      refine (HBy.out _ O0.out).mono ?_
      rintro e w6 ⟨A5, c5, rfl, o6⟩
      have O6 := Lib.hid o6
      refine ⟨_, rfl, ?_⟩
      refine hK _ _ ⟨fun _ => HSF.out _ _ (o6.pick (L := [_, _, _, _, _]) [1]), ?_⟩
      clear hK K o6 O0
      try simp only [Act.put, List.setIfInBounds_toArray, List.set_cons_zero, List.set_cons_succ]
      have HS := Lib.hid (HSF.out _ _ (O6.out.pick (L := [_, _, _, _, _]) [1]))
      refine wpAnyN_one (i := 13) (by kernel_rfl) (by simp only [List.getElem?_toArray, List.getElem?_cons_succ, List.getElem?_cons_zero]; rfl) (fun K hK => ?_)
      go_simp
      refine hK _ _ ⟨fun _ => HS.out, ?_⟩
      clear hK K
      try simp only [Act.put, List.setIfInBounds_toArray, List.set_cons_zero, List.set_cons_succ]
      refine wpAnyN_one (i := 14) (by kernel_rfl) (by simp only [List.getElem?_toArray, List.getElem?_cons_succ, List.getElem?_cons_zero]; rfl) (fun K hK => ?_)
      go_simp
      have O7 := Lib.hid (O6.out.alloc #[.int .i64 (many + 1), .int .i64 a, .int .i64 b, .slice A5 dl c5, .bool false] 60)
      refine hK _ _ ⟨fun _ => HSF.out _ _ (O7.out.pick (L := [_, _, _, _, _, _]) [2]), ?_⟩
      clear hK K O6 HS
      try simp only [Act.put, List.setIfInBounds_toArray, List.set_cons_zero, List.set_cons_succ]
      obtain ⟨w7, hw7⟩ : ∃ x, w6.alloc (.cells #[.int .i64 (many + 1), .int .i64 a, .int .i64 b, .slice A5 dl c5, .bool false] 60) = x := ⟨_, rfl⟩
      obtain ⟨qe, hqe⟩ : ∃ x, w6.heap.size = x := ⟨_, rfl⟩
      rw [hw7, hqe] at O7
      simp only [hw7, hqe]
      clear hw7 hqe
      have O8 := Lib.hid (O7.out.pick (L := [_, _, _, _, _, _]) [3, 0, 1, 2, 4, 5])
      clear O7
      refine wpAnyN_one (i := 15) (by kernel_rfl) (by simp only [List.getElem?_toArray, List.getElem?_cons_succ, List.getElem?_cons_zero]; rfl) (fun K hK => ?_)
      refine step_append_move rfl (.tmp 36) (.tmp 46) 46 rfl 60 mailZero 5 56 Try.underlying46 Try.info60 mailZero_size (by decide) (by simp [Act.eval]) hrl.out O8.out (Below.refl _ _) (some ⟨qe, 0, none⟩) 1 1 [.int .i64 (many + 1), .int .i64 a, .int .i64 b, .slice A5 dl c5, .bool false] (by simp [Act.eval]) rfl (rd_cells (O8.out.pick (L := [_, _]) [1])) (hone.out _ _) (by unfold maxLen; omega) (by omega) ?_
      rintro A8 c8 w8 o8
      have O9 := Lib.hid (o8.pick (L := [_, _, _, _, _, _]) [3, 0, 4, 2, 5])
      refine hK _ _ ⟨fun _ => HSF.out _ _ (O9.out.pick (L := [_, _, _, _, _]) [0, ]), ?_⟩
      have b1 := O9.out.blk_cell 1
      have fr1 := O9.out.blk_free 1
      have O10 := Lib.hid (O9.out.blk_set 1 (.slice A8 (n + 1) c8))
      clear hK K o8 O8 O9
      try simp only [Act.put, List.setIfInBounds_toArray, List.set_cons_zero, List.set_cons_succ]
      refine wpAnyN_one (i := 16) (by kernel_rfl) (by simp only [List.getElem?_toArray, List.getElem?_cons_succ, List.getElem?_cons_zero]; rfl) (fun K hK => ?_)
      go_simp
      refine hK _ _ ⟨fun h => (by cases h), ?_⟩
      clear hK K
      try simp only [Act.put, List.setIfInBounds_toArray, List.set_cons_zero, List.set_cons_succ]
      refine wpAnyN_one (i := 17) (by kernel_rfl) (by simp only [List.getElem?_toArray, List.getElem?_cons_succ, List.getElem?_cons_zero]; rfl) (fun K hK => ?_)
      go_simp
      refine hK _ _ ⟨fun h => (by cases h), ?_⟩
      clear hK K
      try simp only [Act.put, List.setIfInBounds_toArray, List.set_cons_zero, List.set_cons_succ]
      refine wpAnyN_one (i := 18) (by kernel_rfl) (by simp only [List.getElem?_toArray, List.getElem?_cons_succ, List.getElem?_cons_zero]; rfl) (fun K hK => ?_)
      go_simp
      refine hK _ _ ⟨fun h => (by cases h), ?_⟩
      clear hK K
      try simp only [Act.put, List.setIfInBounds_toArray, List.set_cons_zero, List.set_cons_succ]
      refine wpAnyN_done (by kernel_rfl) ?_ _
      go_wp2
      try rw [Exit.noGoto_ret]
      go_ret
      refine ⟨rfl, ?_⟩
      obtain ⟨hds, hn⟩ := HDS.out
      have o11 := O10.out
      have hM : mrow (L ++ [(⟨many + 1, a, b, dat, false⟩ : M)]) (ds ++ [.slice A5 dl c5]) = mrow L ds ++ [.int .i64 (many + 1), .int .i64 a, .int .i64 b, .slice A5 dl c5, .bool false] := by rw [mrow_append hds]; rfl
      have hD : mdata (L ++ [(⟨many + 1, a, b, dat, false⟩ : M)]) (ds ++ [.slice A5 dl c5]) = mdata L ds ++ [SP.row 5 1 (.slice A5 dl c5) (bts dat)] := by rw [mdata_append hds]; rfl
      refine Own.rnet_shut (v := .slice A8 (n + 1) c8) (u := .slice B1 C.length k) ?_
      refine Own.swap (Own.mails_shut (ds := ds ++ [.slice A5 dl c5]) (by rw [List.length_append, List.length_append, hds]; rfl) ?_)
      rw [hM, hD]
      have o12 := (o11.pick (L := [_, _, _, _, _]) [2, 3, 1, 0, 4]).snoc
      exact (o12.pick (L := [_, _, _, _]) [1, 0, 2, 3])
    · rw [show rsendB nodes C L a b = false by rw [rsendB, hl, Bool.true_and]; exact decide_eq_false hlt]
      simp only [addLast, addRow, Bool.false_eq_true, if_false]
      have hlt' : (2000 : Int) ≤ (L.length : Int) := by omega
      clear h hb hl
      obtain ⟨dl, hdd⟩ : ∃ dl, dat.length = dl := ⟨_, rfl⟩
      rw [hdd]
      clear hdd hdl
      go_enter Try.func27, Try.ntmps27
      go_wp2_with fail
      refine (HL.out).mono ?_
      rintro e w1 ⟨rfl, o1⟩
      obtain ⟨A, c, B1, k, -, -, o2⟩ := o1.rnet_open
      have c1 := o2.blk_cell 1
      simp only [rnetA, List.getElem?_toArray, List.getElem?_cons_zero, List.getElem?_cons_succ] at c1
      have O1 := Lib.hid o1
      clear o1 o2 HL
      go_wp2
      go_ret
      exact ⟨rfl, O1.out⟩
  · rw [Bool.not_eq_true] at hl
    rw [show rsendB nodes C L a b = false by rw [rsendB, hl]; rfl]
    simp only [addLast, addRow, Bool.false_eq_true, if_false]
    rw [hl] at HL
    clear hl h hb
    go_enter Try.func27, Try.ntmps27
    go_wp2_with fail
    refine (HL.out).mono ?_
    rintro e w1 ⟨rfl, o1⟩
    have O1 := Lib.hid o1
    clear o1 HL
    go_wp2
    go_ret
    exact ⟨rfl, O1.out⟩
end
end Go.Proofs.Ytlhinhcbbknhcaa
