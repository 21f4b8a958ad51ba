/-
  The document's network: Copy.
  Conditions: none beyond each theorem's own.
-/
import Derived.Test.YtlhinhcbbknhcaaRSnd
import Derived.Test.YtlhinhcbbknhcaaSpoil
import Derived.Test.YtlhinhcbbknhcaaRegionNeed
namespace Go.Proofs.Ytlhinhcbbknhcaa
set_option linter.unusedVariables false
set_option linter.unusedSimpArgs false
open Go.RowKit

section
variable {S : Nat → Prop} {w0 w : World} {R : List SP} {g : Nat} {nodes many : Int} {L : List M} {C : List (Int × Int)}

/-- The mail at a place, opened. -/
theorem rnet_mail (h : Own S w0 w (SP.rnet g nodes many L C :: R)) {i : Nat} {m : M} (hm : L[i]? = some m) :
    ∃ ga off c B1 k Ad cd ds, ds.length = L.length ∧ ds[i]? = some (.slice Ad m.dat.length cd) ∧ L.length ≤ c ∧ c ≤ maxLen ∧ w.cell? ⟨g, 1, none⟩ = some (.slice (some ⟨ga, off, none⟩) L.length c) ∧ w.cell? ⟨g, 2, none⟩ = some (.int .i64 many) ∧
      w.cell? ⟨ga, off + i * 5, none⟩ = some (.int .i64 m.num) ∧ w.cell? ⟨ga, off + i * 5 + 1, none⟩ = some (.int .i64 m.frm) ∧ w.cell? ⟨ga, off + i * 5 + 2, none⟩ = some (.int .i64 m.to) ∧ w.cell? ⟨ga, off + i * 5 + 3, none⟩ = some (.slice Ad m.dat.length cd) ∧ w.cell? ⟨ga, off + i * 5 + 4, none⟩ = some (.bool m.sp) ∧
      m.dat.length ≤ cd ∧ cd ≤ maxLen ∧
      Own S w0 w (SP.blk g 49 (rnetA nodes (.slice (some ⟨ga, off, none⟩) L.length c) many (.slice B1 C.length k)) :: SP.row 60 5 (.slice (some ⟨ga, off, none⟩) L.length c) (mrow L ds) :: SP.stars (mdata L ds) :: SP.row 66 2 (.slice B1 C.length k) (prow C) :: R) := by
  have hi : i < L.length := (List.getElem?_eq_some_iff.1 hm).1
  obtain ⟨A, c, B1, k, -, -, h1⟩ := h.rnet_open
  obtain ⟨A', c', ds, z, hds, hc1, hc2, h2⟩ := h1.swap.mails_open
  cases z
  obtain ⟨d, hd⟩ : ∃ d, ds[i]? = some d := ⟨_, List.getElem?_eq_getElem (by omega)⟩
  obtain ⟨Ad, cd, rfl, hc3, hc4⟩ := SP.row_shape (n := m.dat.length) (by decide) ((h2.swap).focus i (mdata_get hm hd)).head (by rw [bts_length, Nat.mul_one])
  obtain ⟨ga, off, rfl, k0, -⟩ := h2.cell (mrow_get (j := 0) hm hd (by omega))
  obtain ⟨_, _, e1, k1, -⟩ := h2.cell (mrow_get (j := 1) hm hd (by omega)); cases e1
  obtain ⟨_, _, e1, k2, -⟩ := h2.cell (mrow_get (j := 2) hm hd (by omega)); cases e1
  obtain ⟨_, _, e1, k3, -⟩ := h2.cell (mrow_get (j := 3) hm hd (by omega)); cases e1
  obtain ⟨_, _, e1, k4, -⟩ := h2.cell (mrow_get (j := 4) hm hd (by omega)); cases e1
  simp only [mcells, List.getElem?_cons_zero, List.getElem?_cons_succ, ← Nat.add_assoc, Nat.add_zero] at k0 k1 k2 k3 k4
  have c1 := (h2.pick (L := [_, _, _]) [2]).blk_cell 1
  have c2 := (h2.pick (L := [_, _, _]) [2]).blk_cell 2
  simp only [rnetA, List.getElem?_toArray, List.getElem?_cons_zero, List.getElem?_cons_succ] at c1 c2
  exact ⟨ga, off, c, B1, k, Ad, cd, ds, hds, hd, hc1, hc2, c1, c2, k0, k1, k2, k3, k4, hc3, hc4, h2.pick (L := [_, _, _]) [2, 0, 1]⟩

set_option maxHeartbeats 800000 in
theorem rcopy_no (h : Own S w0 w (SP.rnet g nodes many L C :: R)) (i : Int) (hi : ¬ (0 ≤ i ∧ i < (L.length : Int))) :
    Calls Try.prog 36 #[.pointer (some ⟨g, 0, none⟩), .int .i64 i] w fun e w' => e = .returned (.bool false) ∧ Own S w0 w' (SP.rnet g nodes many L C :: R) := by
  have HT := Lib.hid (rthere_own h i)
  rw [show thereB i L.length = false from decide_eq_false hi] at HT
  have H := Lib.hid h
  clear h hi
  go_enter Try.func36, Try.ntmps36
  go_wp2_with fail
  refine (HT.out).mono ?_
  rintro e w1 ⟨rfl, rfl⟩
  go_wp2
  go_ret
  exact ⟨rfl, H.out⟩

set_option maxRecDepth 100000 in
set_option maxHeartbeats 6400000 in
theorem rcopy_yes (hl1 : 0 ≤ many) (hl2 : many ≤ 1000000000) (h : Own S w0 w (SP.rnet g nodes many L C :: R)) (i : Nat) (m : M) (hm : L[i]? = some m) (hdl : m.dat.length ≤ 140737488351232) :
    Calls Try.prog 36 #[.pointer (some ⟨g, 0, none⟩), .int .i64 i] w fun e w' => e = .returned (.bool (decide (L.length < 2000))) ∧ Own S w0 w' (SP.rnet g nodes (addLast (decide (L.length < 2000)) many) (addRow (decide (L.length < 2000)) many L m.frm m.to m.dat m.sp) C :: R) := by
  have hi : i < L.length := (List.getElem?_eq_some_iff.1 hm).1
  have HT := Lib.hid (rthere_own h (i : Int))
  rw [show thereB (i : Int) L.length = true from decide_eq_true (by omega)] at HT
  obtain ⟨ga, off, c, B1, k, Ad, cd, ds, hds, hd, hc1, hc2, c1, c2, k0, k1, k2, k3, k4, hc3, hc4, h2⟩ := rnet_mail h hm
  by_cases hlt : L.length < 2000
  · rw [decide_eq_true hlt]
    simp only [addLast, addRow, if_true]
    obtain ⟨n, hn⟩ : ∃ n, L.length = n := ⟨_, rfl⟩
    have hrl := Lib.hid (show (mrow L ds).length = n * 5 by rw [mrow_length hds, hn])
    have HDS := Lib.hid (And.intro hds hn)
    obtain ⟨dl, hdd⟩ : ∃ dl, m.dat.length = dl := ⟨_, rfl⟩
    have HD := Lib.hid hdd
    have HM := Lib.hid (And.intro hm hd)
    have hi' : (i : Int) < (L.length : Int) := by omega
    rw [hn] at c1 hlt h2 hi hi'
    rw [hdd] at k3 hdl
    have hlt' : ¬ (2000 : Int) ≤ (n : Int) := by omega
    have f2 := h2.blk_free 2
    have o1 := (h2.blk_set 2 (.int .i64 (many + 1))).alloc #[.int .i64 m.num, .int .i64 m.frm, .int .i64 m.to, .slice Ad dl cd, .bool m.sp] 60
    obtain ⟨q, hq⟩ : ∃ q, w.heap.size = q := ⟨_, rfl⟩
    have HQ := Lib.hid hq
    rw [World.size_setCell, hq] at o1
    have lg := h2.blk_lt
    have lr := (h2.pick (L := [_, _]) [1]).row_lt
    rw [hq] at lg lr
    have ng : ¬ ga = g := by
      rintro rfl
      have := (h2.pick (L := [_, _]) [1, 0]).at_
      obtain ⟨S1, S2, -, -, hdj, a, b⟩ := this
      obtain ⟨_, _, _, z, s1, _⟩ := SP.row_open (by decide) a (by omega)
      cases z
      exact hdj _ s1 ((SP.sep_left b).1)
    obtain ⟨W0, hW0⟩ : ∃ W0, ((w.setCell ⟨g, 2, none⟩ (.int .i64 (many + 1))).alloc (.cells #[.int .i64 m.num, .int .i64 m.frm, .int .i64 m.to, .slice Ad dl cd, .bool m.sp] 60)) = W0 := ⟨_, rfl⟩
    rw [hW0] at o1
    have HW0 := Lib.hid hW0
    have O0 := Lib.hid (show Own S w0 W0.drew (SP.blk g 49 (rnetA nodes (.slice (some ⟨ga, off, none⟩) n c) (many + 1) (.slice B1 C.length k)) :: SP.row 60 5 (.slice (some ⟨ga, off, none⟩) n c) (mrow L ds) :: SP.stars (mdata L ds) :: SP.row 66 2 (.slice B1 C.length k) (prow C) :: SP.blk q 60 #[.int .i64 m.num, .int .i64 m.frm, .int .i64 m.to, .slice Ad dl cd, .bool m.sp] :: R) from (o1.pick (L := [_, _, _, _, _]) [1, 2, 3, 4, 0]).drew)
    have HBy := Lib.hid (fun (W : World) (o : Own S w0 W (SP.blk g 49 (rnetA nodes (.slice (some ⟨ga, off, none⟩) n c) (many + 1) (.slice B1 C.length k)) :: SP.row 60 5 (.slice (some ⟨ga, off, none⟩) n c) (mrow L ds) :: SP.stars (mdata L ds) :: SP.row 66 2 (.slice B1 C.length k) (prow C) :: SP.blk q 60 #[.int .i64 m.num, .int .i64 m.frm, .int .i64 m.to, .slice Ad dl cd, .bool m.sp] :: R)) => show Calls Try.prog 20 #[.slice Ad dl cd] W fun e w' => ∃ A' c', e = .returned (.slice A' dl c') ∧ Own S w0 w' (SP.row 5 1 (.slice A' dl c') (bts m.dat) :: SP.blk g 49 (rnetA nodes (.slice (some ⟨ga, off, none⟩) n c) (many + 1) (.slice B1 C.length k)) :: SP.row 60 5 (.slice (some ⟨ga, off, none⟩) n c) (mrow L ds) :: SP.stars (mdata L ds) :: SP.row 66 2 (.slice B1 C.length k) (prow C) :: SP.blk q 60 #[.int .i64 m.num, .int .i64 m.frm, .int .i64 m.to, .slice Ad dl cd, .bool m.sp] :: R) from by
      have := bytes_own (cb := cd) o (Reads.more (reads_mdata HM.out.1 HM.out.2) [_, _]) (by rw [HD.out]; exact hdl)
      rw [HD.out] at this
      exact this)
    clear h h2 hds hd hm o1 hn hdd hq hW0
    go_enter Try.func36, Try.ntmps36
    go_wp2_with fail
    refine (HT.out).mono ?_
    rintro e w1 ⟨rfl, rfl⟩
    go_upto_region 5 with (fail)
    try simp only [HW0.out]
    try simp only [World.size_setCell, HQ.out]
    have HSF := Lib.hid (fun (W : World) (R' : List SP) (o : Own S w0 W (SP.blk g 49 (rnetA nodes (.slice (some ⟨ga, off, none⟩) n c) (many + 1) (.slice B1 C.length k)) :: SP.blk q 60 #[.int .i64 m.num, .int .i64 m.frm, .int .i64 m.to, .slice Ad dl cd, .bool m.sp] :: R')) => show W.cell? ⟨g, 1, none⟩ = some (.slice (some ⟨ga, off, none⟩) n c) ∧ W.cell? ⟨g, 2, none⟩ = some (.int .i64 (many + 1)) ∧ W.cell? ⟨q, 1, none⟩ = some (.int .i64 m.frm) ∧ W.cell? ⟨q, 2, none⟩ = some (.int .i64 m.to) ∧ W.cell? ⟨q, 3, none⟩ = some (.slice Ad dl cd) ∧ W.cell? ⟨q, 4, none⟩ = some (.bool m.sp) from ⟨o.blk_cell 1, o.blk_cell 2, o.swap.blk_cell 1, o.swap.blk_cell 2, o.swap.blk_cell 3, o.swap.blk_cell 4⟩)
    have hone := Lib.hid (fun (A5 : Option Addr) (c5 : Nat) => show ∀ u ∈ [Value.int .i64 (many + 1), .int .i64 m.frm, .int .i64 m.to, .slice A5 dl c5, .bool m.sp], u.oneCell' = true from fun u hu => by
      simp only [List.mem_cons, List.not_mem_nil, or_false] at hu
      rcases hu with rfl | rfl | rfl | rfl | rfl <;> rfl)
    refine wp_region_need (fun W => W.cell? ⟨g, 1, none⟩ = some (.slice (some ⟨ga, off, none⟩) n c) ∧ W.cell? ⟨g, 2, none⟩ = some (.int .i64 (many + 1)) ∧ W.cell? ⟨q, 1, none⟩ = some (.int .i64 m.frm) ∧ W.cell? ⟨q, 2, none⟩ = some (.int .i64 m.to) ∧ W.cell? ⟨q, 3, none⟩ = some (.slice Ad dl cd) ∧ W.cell? ⟨q, 4, none⟩ = some (.bool m.sp)) (fun j => decide (j < 21)) (by kernel_rfl) ?_
    have HS := Lib.hid (HSF.out _ _ (O0.out.pick (L := [_, _, _, _, _]) [0, 4]))
    refine wpAnyN_take (i := 0) (v := ?v0) (by simp only [List.getElem?_toArray, List.getElem?_cons_succ, List.getElem?_cons_zero]; rfl) (by kernel_rfl) (by intro _ _ _ h; exact h) (Or.inl ⟨by rfl, ?y0⟩) HS.out ?r0
    case y0 =>
      intro W hSW
      try dsimp only at hSW
      obtain ⟨s0, s1, s2, s3, s4, s5⟩ := hSW
      go_simp
      try with_reducible rfl
    simp only [Act.put, List.setIfInBounds_toArray, List.set_cons_zero, List.set_cons_succ]
    refine wpAnyN_take (i := 1) (v := ?v1) (by simp only [List.getElem?_toArray, List.getElem?_cons_succ, List.getElem?_cons_zero]; rfl) (by kernel_rfl) (by intro _ _ _ h; exact h) (Or.inl ⟨by rfl, ?y1⟩) HS.out ?r1
    case y1 =>
      intro W hSW
      try dsimp only at hSW
      obtain ⟨s0, s1, s2, s3, s4, s5⟩ := hSW
      go_simp
      try with_reducible rfl
    simp only [Act.put, List.setIfInBounds_toArray, List.set_cons_zero, List.set_cons_succ]
    refine wpAnyN_take (i := 2) (v := ?v2) (by simp only [List.getElem?_toArray, List.getElem?_cons_succ, List.getElem?_cons_zero]; rfl) (by kernel_rfl) (by intro _ _ _ h; exact h) (Or.inl ⟨by rfl, ?y2⟩) HS.out ?r2
    case y2 =>
      intro W hSW
      try dsimp only at hSW
      obtain ⟨s0, s1, s2, s3, s4, s5⟩ := hSW
      go_simp
      try with_reducible rfl
    simp only [Act.put, List.setIfInBounds_toArray, List.set_cons_zero, List.set_cons_succ]
    refine wpAnyN_take (i := 3) (v := ?v3) (by simp only [List.getElem?_toArray, List.getElem?_cons_succ, List.getElem?_cons_zero]; rfl) (by kernel_rfl) (by intro _ _ _ h; exact h) (Or.inl ⟨by rfl, ?y3⟩) HS.out ?r3
    case y3 =>
      intro W hSW
      try dsimp only at hSW
      obtain ⟨s0, s1, s2, s3, s4, s5⟩ := hSW
      go_simp
      try with_reducible rfl
    simp only [Act.put, List.setIfInBounds_toArray, List.set_cons_zero, List.set_cons_succ]
    refine wpAnyN_take (i := 4) (v := ?v4) (by simp only [List.getElem?_toArray, List.getElem?_cons_succ, List.getElem?_cons_zero]; rfl) (by kernel_rfl) (by intro _ _ _ h; exact h) (Or.inl ⟨by rfl, ?y4⟩) HS.out ?r4
    case y4 =>
      intro W hSW
      try dsimp only at hSW
      obtain ⟨s0, s1, s2, s3, s4, s5⟩ := hSW
      go_simp
      try with_reducible rfl
    simp only [Act.put, List.setIfInBounds_toArray, List.set_cons_zero, List.set_cons_succ]
    refine wpAnyN_take (i := 5) (v := ?v5) (by simp only [List.getElem?_toArray, List.getElem?_cons_succ, List.getElem?_cons_zero]; rfl) (by kernel_rfl) (by intro _ _ _ h; exact h) (Or.inl ⟨by rfl, ?y5⟩) HS.out ?r5
    case y5 =>
      intro W hSW
      try dsimp only at hSW
      obtain ⟨s0, s1, s2, s3, s4, s5⟩ := hSW
      go_simp
      try with_reducible rfl
    simp only [Act.put, List.setIfInBounds_toArray, List.set_cons_zero, List.set_cons_succ]
    refine wpAnyN_take (i := 6) (v := ?v6) (by simp only [List.getElem?_toArray, List.getElem?_cons_succ, List.getElem?_cons_zero]; rfl) (by kernel_rfl) (by intro _ _ _ h; exact h) (Or.inl ⟨by rfl, ?y6⟩) HS.out ?r6
    case y6 =>
      intro W hSW
      try dsimp only at hSW
      obtain ⟨s0, s1, s2, s3, s4, s5⟩ := hSW
      go_simp
      try with_reducible rfl
    simp only [Act.put, List.setIfInBounds_toArray, List.set_cons_zero, List.set_cons_succ]
    refine wpAnyN_take (i := 7) (v := ?v7) (by simp only [List.getElem?_toArray, List.getElem?_cons_succ, List.getElem?_cons_zero]; rfl) (by kernel_rfl) (by intro _ _ _ h; exact h) (Or.inl ⟨by rfl, ?y7⟩) HS.out ?r7
    case y7 =>
      intro W hSW
      try dsimp only at hSW
      obtain ⟨s0, s1, s2, s3, s4, s5⟩ := hSW
      go_simp
      try with_reducible rfl
    simp only [Act.put, List.setIfInBounds_toArray, List.set_cons_zero, List.set_cons_succ]
    refine wpAnyN_take (i := 8) (v := ?v8) (by simp only [List.getElem?_toArray, List.getElem?_cons_succ, List.getElem?_cons_zero]; rfl) (by kernel_rfl) (by intro _ _ _ h; exact h) (Or.inl ⟨by rfl, ?y8⟩) HS.out ?r8
    case y8 =>
      intro W hSW
      try dsimp only at hSW
      obtain ⟨s0, s1, s2, s3, s4, s5⟩ := hSW
      go_simp
      try with_reducible rfl
    simp only [Act.put, List.setIfInBounds_toArray, List.set_cons_zero, List.set_cons_succ]
    refine wpAnyN_take (i := 9) (v := ?v9) (by simp only [List.getElem?_toArray, List.getElem?_cons_succ, List.getElem?_cons_zero]; rfl) (by kernel_rfl) (by intro _ _ _ h; exact h) (Or.inl ⟨by rfl, ?y9⟩) HS.out ?r9
    case y9 =>
      intro W hSW
      try dsimp only at hSW
      obtain ⟨s0, s1, s2, s3, s4, s5⟩ := hSW
      go_simp
      try with_reducible rfl
    simp only [Act.put, List.setIfInBounds_toArray, List.set_cons_zero, List.set_cons_succ]
    refine wpAnyN_take (i := 10) (v := ?v10) (by simp only [List.getElem?_toArray, List.getElem?_cons_succ, List.getElem?_cons_zero]; rfl) (by kernel_rfl) (by intro _ _ _ h; exact h) (Or.inl ⟨by rfl, ?y10⟩) HS.out ?r10
    case y10 =>
      intro W hSW
      try dsimp only at hSW
      obtain ⟨s0, s1, s2, s3, s4, s5⟩ := hSW
      go_simp
      try with_reducible rfl
    simp only [Act.put, List.setIfInBounds_toArray, List.set_cons_zero, List.set_cons_succ]
    refine wpAnyN_take (i := 11) (v := ?v11) (by simp only [List.getElem?_toArray, List.getElem?_cons_succ, List.getElem?_cons_zero]; rfl) (by kernel_rfl) (by intro _ _ _ h; exact h) (Or.inl ⟨by rfl, ?y11⟩) HS.out ?r11
    case y11 =>
      intro W hSW
      try dsimp only at hSW
      obtain ⟨s0, s1, s2, s3, s4, s5⟩ := hSW
      go_simp
      try with_reducible rfl
    simp only [Act.put, List.setIfInBounds_toArray, List.set_cons_zero, List.set_cons_succ]
    refine wpAnyN_take (i := 12) (v := ?v12) (by simp only [List.getElem?_toArray, List.getElem?_cons_succ, List.getElem?_cons_zero]; rfl) (by kernel_rfl) (by intro _ _ _ h; exact h) (Or.inl ⟨by rfl, ?y12⟩) HS.out ?r12
    case y12 =>
      intro W hSW
      try dsimp only at hSW
      obtain ⟨s0, s1, s2, s3, s4, s5⟩ := hSW
      go_simp
      try with_reducible rfl
    simp only [Act.put, List.setIfInBounds_toArray, List.set_cons_zero, List.set_cons_succ]
    refine wpAnyN_take (i := 13) (v := ?v13) (by simp only [List.getElem?_toArray, List.getElem?_cons_succ, List.getElem?_cons_zero]; rfl) (by kernel_rfl) (by intro _ _ _ h; exact h) (Or.inl ⟨by rfl, ?y13⟩) HS.out ?r13
    case y13 =>
      intro W hSW
      try dsimp only at hSW
      obtain ⟨s0, s1, s2, s3, s4, s5⟩ := hSW
      go_simp
      try with_reducible rfl
    simp only [Act.put, List.setIfInBounds_toArray, List.set_cons_zero, List.set_cons_succ]
    refine wpAnyN_take (i := 14) (v := ?v14) (by simp only [List.getElem?_toArray, List.getElem?_cons_succ, List.getElem?_cons_zero]; rfl) (by kernel_rfl) (by intro _ _ _ h; exact h) (Or.inl ⟨by rfl, ?y14⟩) HS.out ?r14
    case y14 =>
      intro W hSW
      try dsimp only at hSW
      obtain ⟨s0, s1, s2, s3, s4, s5⟩ := hSW
      go_simp
      try with_reducible rfl
    simp only [Act.put, List.setIfInBounds_toArray, List.set_cons_zero, List.set_cons_succ]
    refine wpAnyN_take (i := 16) (v := ?v16) (by simp only [List.getElem?_toArray, List.getElem?_cons_succ, List.getElem?_cons_zero]; rfl) (by kernel_rfl) (by intro _ _ _ h; exact h) (Or.inl ⟨by rfl, ?y16⟩) HS.out ?r16
    case y16 =>
      intro W hSW
      try dsimp only at hSW
      obtain ⟨s0, s1, s2, s3, s4, s5⟩ := hSW
      go_simp
      try with_reducible rfl
    simp only [Act.put, List.setIfInBounds_toArray, List.set_cons_zero, List.set_cons_succ]
    refine wpAnyN_take (i := 17) (v := ?v17) (by simp only [List.getElem?_toArray, List.getElem?_cons_succ, List.getElem?_cons_zero]; rfl) (by kernel_rfl) (by intro _ _ _ h; exact h) (Or.inl ⟨by rfl, ?y17⟩) HS.out ?r17
    case y17 =>
      intro W hSW
      try dsimp only at hSW
      obtain ⟨s0, s1, s2, s3, s4, s5⟩ := hSW
      go_simp
      try with_reducible rfl
    simp only [Act.put, List.setIfInBounds_toArray, List.set_cons_zero, List.set_cons_succ]
    refine wpAnyN_one (i := 15) (by kernel_rfl) (by simp only [List.getElem?_toArray, List.getElem?_cons_succ, List.getElem?_cons_zero]; rfl) (fun K hK => ?_)
    refine step_call rfl 20 _ _ rfl Try.func20 (by kernel_rfl) (by kernel_rfl) #[.slice Ad dl cd] (by simp [Act.eval]) ?_
    refine (HBy.out _ O0.out).mono ?_
    rintro e w6 ⟨A5, c5, rfl, o6⟩
    have O6 := Lib.hid o6
    refine ⟨_, rfl, ?_⟩
    refine hK _ _ ⟨fun _ => HSF.out _ _ (o6.pick (L := [_, _, _, _, _, _]) [1, 5]), ?_⟩
    clear hK K o6 O0
    try simp only [Act.put, List.setIfInBounds_toArray, List.set_cons_zero, List.set_cons_succ]
    have HS := Lib.hid (HSF.out _ _ (O6.out.pick (L := [_, _, _, _, _, _]) [1, 5]))
    refine wpAnyN_one (i := 18) (by kernel_rfl) (by simp only [List.getElem?_toArray, List.getElem?_cons_succ, List.getElem?_cons_zero]; rfl) (fun K hK => ?_)
    go_simp
    refine hK _ _ ⟨fun _ => HS.out, ?_⟩
    clear hK K
    try simp only [Act.put, List.setIfInBounds_toArray, List.set_cons_zero, List.set_cons_succ]
    refine wpAnyN_one (i := 19) (by kernel_rfl) (by simp only [List.getElem?_toArray, List.getElem?_cons_succ, List.getElem?_cons_zero]; rfl) (fun K hK => ?_)
    go_simp
    have O7 := Lib.hid (O6.out.alloc #[.int .i64 (many + 1), .int .i64 m.frm, .int .i64 m.to, .slice A5 dl c5, .bool m.sp] 60)
    refine hK _ _ ⟨fun _ => HSF.out _ _ (O7.out.pick (L := [_, _, _, _, _, _, _]) [2, 6]), ?_⟩
    clear hK K O6 HS
    try simp only [Act.put, List.setIfInBounds_toArray, List.set_cons_zero, List.set_cons_succ]
    obtain ⟨w7, hw7⟩ : ∃ x, w6.alloc (.cells #[.int .i64 (many + 1), .int .i64 m.frm, .int .i64 m.to, .slice A5 dl c5, .bool m.sp] 60) = x := ⟨_, rfl⟩
    obtain ⟨qe, hqe⟩ : ∃ x, w6.heap.size = x := ⟨_, rfl⟩
    rw [hw7, hqe] at O7
    simp only [hw7, hqe]
    clear hw7 hqe
    have O8 := Lib.hid (O7.out.pick (L := [_, _, _, _, _, _, _]) [3, 0, 1, 2, 4, 5, 6])
    clear O7
    refine wpAnyN_one (i := 20) (by kernel_rfl) (by simp only [List.getElem?_toArray, List.getElem?_cons_succ, List.getElem?_cons_zero]; rfl) (fun K hK => ?_)
    refine step_append_move rfl (.tmp 37) (.tmp 52) 46 rfl 60 mailZero 5 56 Try.underlying46 Try.info60 mailZero_size (by decide) (by simp [Act.eval]) hrl.out O8.out (Below.refl _ _) (some ⟨qe, 0, none⟩) 1 1 [.int .i64 (many + 1), .int .i64 m.frm, .int .i64 m.to, .slice A5 dl c5, .bool m.sp] (by simp [Act.eval]) rfl (rd_cells (O8.out.pick (L := [_, _]) [1])) (hone.out _ _) (by unfold maxLen; omega) (by omega) ?_
    rintro A8 c8 w8 o8
    have O9 := Lib.hid (o8.pick (L := [_, _, _, _, _, _, _]) [3, 0, 4, 2, 5, 6])
    refine hK _ _ ⟨fun _ => HSF.out _ _ (O9.out.pick (L := [_, _, _, _, _, _]) [0, 5]), ?_⟩
    have b1 := O9.out.blk_cell 1
    have fr1 := O9.out.blk_free 1
    have O10 := Lib.hid (O9.out.blk_set 1 (.slice A8 (n + 1) c8))
    clear hK K o8 O8 O9
    try simp only [Act.put, List.setIfInBounds_toArray, List.set_cons_zero, List.set_cons_succ]
    refine wpAnyN_one (i := 21) (by kernel_rfl) (by simp only [List.getElem?_toArray, List.getElem?_cons_succ, List.getElem?_cons_zero]; rfl) (fun K hK => ?_)
    go_simp
    refine hK _ _ ⟨fun h => (by cases h), ?_⟩
    clear hK K
    try simp only [Act.put, List.setIfInBounds_toArray, List.set_cons_zero, List.set_cons_succ]
    refine wpAnyN_one (i := 22) (by kernel_rfl) (by simp only [List.getElem?_toArray, List.getElem?_cons_succ, List.getElem?_cons_zero]; rfl) (fun K hK => ?_)
    go_simp
    refine hK _ _ ⟨fun h => (by cases h), ?_⟩
    clear hK K
    try simp only [Act.put, List.setIfInBounds_toArray, List.set_cons_zero, List.set_cons_succ]
    refine wpAnyN_one (i := 23) (by kernel_rfl) (by simp only [List.getElem?_toArray, List.getElem?_cons_succ, List.getElem?_cons_zero]; rfl) (fun K hK => ?_)
    go_simp
    refine hK _ _ ⟨fun h => (by cases h), ?_⟩
    clear hK K
    try simp only [Act.put, List.setIfInBounds_toArray, List.set_cons_zero, List.set_cons_succ]
    refine wpAnyN_done (by kernel_rfl) ?_ _
    go_wp2
    try rw [Exit.noGoto_ret]
    go_ret
    refine ⟨rfl, ?_⟩
    obtain ⟨hds, hn⟩ := HDS.out
    have o11 := O10.out
    have hM : mrow (L ++ [(⟨many + 1, m.frm, m.to, m.dat, m.sp⟩ : M)]) (ds ++ [.slice A5 dl c5]) = mrow L ds ++ [.int .i64 (many + 1), .int .i64 m.frm, .int .i64 m.to, .slice A5 dl c5, .bool m.sp] := by rw [mrow_append hds]; rfl
    have hD : mdata (L ++ [(⟨many + 1, m.frm, m.to, m.dat, m.sp⟩ : M)]) (ds ++ [.slice A5 dl c5]) = mdata L ds ++ [SP.row 5 1 (.slice A5 dl c5) (bts m.dat)] := by rw [mdata_append hds]; rfl
    refine Own.rnet_shut (v := .slice A8 (n + 1) c8) (u := .slice B1 C.length k) ?_
    refine Own.swap (Own.mails_shut (ds := ds ++ [.slice A5 dl c5]) (by rw [List.length_append, List.length_append, hds]; rfl) ?_)
    rw [hM, hD]
    have o12 := (o11.pick (L := [_, _, _, _, _, _]) [2, 3, 1, 0, 4]).snoc
    exact (o12.pick (L := [_, _, _, _]) [1, 0, 2, 3])
  · rw [decide_eq_false hlt]
    simp only [addLast, addRow, Bool.false_eq_true, if_false]
    have hlt' : (2000 : Int) ≤ (L.length : Int) := by omega
    have H := Lib.hid h
    clear h h2 k0 k1 k2 k3 k4 hds hd hm
    go_enter Try.func36, Try.ntmps36
    go_wp2_with fail
    refine (HT.out).mono ?_
    rintro e w1 ⟨rfl, rfl⟩
    go_wp2
    go_ret
    exact ⟨rfl, H.out⟩
end
end Go.Proofs.Ytlhinhcbbknhcaa
