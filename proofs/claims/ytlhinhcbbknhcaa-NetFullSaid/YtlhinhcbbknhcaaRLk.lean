/-
  The document's network: Link.
  Conditions: none beyond each theorem's own.
-/
import Derived.Test.YtlhinhcbbknhcaaRTk
import Derived.Test.YtlhinhcbbknhcaaAppOwn
import Derived.Test.YtlhinhcbbknhcaaRegionNeed
namespace Go.Proofs.Ytlhinhcbbknhcaa
set_option linter.unusedVariables false
set_option linter.unusedSimpArgs false
open Go.RowKit

def pairZero : Value := .agg #[.int .i64 0, .int .i64 0]
theorem Try.info66 : (Try.prog.info? 66).map (fun i => (i.zero, i.size, i.bytes)) = some (some pairZero, 2, 16) := by kernel_rfl
def offC (q : Int × Int) (C : List (Int × Int)) : List (Int × Int) := C.filter fun p => !(decide (p = q))
def linkC (C : List (Int × Int)) (a b : Int) (up : Bool) : List (Int × Int) := if up then offC (min a b, max a b) C else offC (min a b, max a b) C ++ [(min a b, max a b)]
theorem offC_snoc (q : Int × Int) (C : List (Int × Int)) (p : Int × Int) : offC q (C ++ [p]) = offC q C ++ if p = q then [] else [p] := by
  rw [offC, List.filter_append, offC, List.filter_cons]
  by_cases h : p = q <;> simp [h]
section
variable {S : Nat → Prop} {w0 w : World} {R : List SP} {g : Nat} {nodes many : Int} {L : List M} {C : List (Int × Int)}

set_option maxHeartbeats 800000 in
theorem rlink_no (h : Own S w0 w (SP.rnet g nodes many L C :: R)) (a b : Int) (up : Bool) (h1 : ¬ twoP nodes a b) :
    Calls Try.prog 39 #[.pointer (some ⟨g, 0, none⟩), .int .i64 a, .int .i64 b, .bool up] w fun e w' => e = .returned (.bool false) ∧ w = w' := by
  have HT := Lib.hid (rtwo_own h a b)
  rw [show twoB nodes a b = false from decide_eq_false h1] at HT
  clear h h1
  go_enter Try.func39, Try.ntmps39
  go_wp2_with fail
  refine (HT.out).mono ?_
  rintro e w1 ⟨rfl, rfl⟩
  go_wp2
  go_ret
  exact ⟨rfl, rfl⟩

set_option maxRecDepth 100000 in
set_option maxHeartbeats 6400000 in
theorem rlink_yes (hC : C.length ≤ 1000000) (h : Own S w0 w (SP.rnet g nodes many L C :: R)) (a b : Int) (up : Bool) (h1 : twoP nodes a b) :
    Calls Try.prog 39 #[.pointer (some ⟨g, 0, none⟩), .int .i64 a, .int .i64 b, .bool up] w fun e w' => e = .returned (.bool true) ∧ Own S w0 w' (SP.rnet g nodes many L (linkC C a b up) :: R) := by
  have HT := Lib.hid (rtwo_own h a b)
  rw [show twoB nodes a b = true from decide_eq_true h1] at HT
  clear h1
  obtain ⟨v, h⟩ := h.unex
  obtain ⟨u, h⟩ := h.unex
  have h2 := Own.flat (L := [_, _, _]) h
  obtain ⟨B, k, rfl, hk1, hk2⟩ := SP.row_shape (by decide) (h2.pick (L := [_, _, _]) [2]).head (prow_length C)
  obtain ⟨n, hn⟩ : ∃ n, C.length = n := ⟨_, rfl⟩
  have HZ := Lib.hid hn
  rw [hn] at h2 hC
  obtain ⟨mn, hmn⟩ : ∃ mn, min a b = mn := ⟨_, rfl⟩
  obtain ⟨mx, hmx⟩ : ∃ mx, max a b = mx := ⟨_, rfl⟩
  have HX := Lib.hid (And.intro hmn hmx)
  have H := Lib.hid (show Own S w0 w (SP.row 66 2 (.slice none 0 0) (prow (offC (mn, mx) (C.take 0))) :: SP.blk g 49 (rnetA nodes v many (.slice B n k)) :: SP.mails 60 v L :: SP.row 66 2 (.slice B n k) (prow C) :: R) from h2.add (SP.row_nil _ _ _ _))
  have hq := eq66
  clear h h2 hn hk1 hk2 hmn hmx
  go_enter Try.func39, Try.ntmps39
  go_wp2_with fail
  refine (HT.out).mono ?_
  rintro e w1 ⟨rfl, rfl⟩
  go_wp2
  go_loopw [9, 10] (fun ta ti wr => ∃ (i kk : Nat) (Ao : Option Addr) (co : Nat), i ≤ n ∧ kk ≤ i ∧ ta = .slice Ao kk co ∧ ti = .int .i64 i ∧ Hid (kk = (offC (mn, mx) (C.take i)).length) ∧ Own S w0 wr (SP.row 66 2 (.slice Ao kk co) (prow (offC (mn, mx) (C.take i))) :: SP.blk g 49 (rnetA nodes v many (.slice B n k)) :: SP.mails 60 v L :: SP.row 66 2 (.slice B n k) (prow C) :: R)) (fun _ ti _ => n - (intOf ti).toNat)
  case atStart => exact ⟨0, 0, none, 0, Nat.zero_le _, Nat.le_refl _, rfl, rfl, rfl, H.out⟩
  case round =>
    obtain ⟨i, kk, Ao, co, hi, hki, rfl, rfl, hkk, hown⟩ := hrel
    have d3 := (hown.pick (L := [_, _]) [1]).blk_cell 3
    have f3 := (hown.pick (L := [_, _]) [1]).blk_free 3
    simp only [rnetA, List.getElem?_toArray, List.getElem?_cons_zero, List.getElem?_cons_succ] at d3
    clear H
    by_cases hin : i < n
    · have i1 : (i : Int) < (n : Int) := by omega
      have hL1 := HZ.out
      obtain ⟨p, hp⟩ : ∃ p, C[i]? = some p := ⟨_, List.getElem?_eq_getElem (by omega)⟩
      have o2 := hown.pick (L := [_, _, _, _]) [3]
      obtain ⟨gb, off, rfl, k0, -⟩ := o2.cell (prow_get (j := 0) hp (by omega))
      obtain ⟨_, _, e1, k1, -⟩ := o2.cell (prow_get (j := 1) hp (by omega)); cases e1
      simp only [pcells, List.getElem?_cons_zero, List.getElem?_cons_succ, ← Nat.add_assoc, Nat.add_zero] at k0 k1
      have HP := Lib.hid (pair_own hown.drew a b)
      rw [HX.out.1, HX.out.2] at HP
      have HM := Lib.hid hp
      have HTk := Lib.hid (show C.take (i + 1) = C.take i ++ [p] by rw [List.take_add_one, hp]; rfl)
      clear hown hp o2 hL1
      go_upto_region 7 with (fail)
      go_region_held3 (fun W => W.cell? ⟨g, 3, none⟩ = some (.slice (some ⟨gb, off, none⟩) n k) ∧ W.cell? ⟨gb, off + i * 2, none⟩ = some (.int .i64 p.1) ∧ W.cell? ⟨gb, off + i * 2 + 1, none⟩ = some (.int .i64 p.2))
        (first | go_keep | exact ⟨d3, k0, k1⟩ | exact ⟨d3', e0, e1⟩)
        (first
          | (refine step_call rfl 48 _ _ rfl Try.func48 (by kernel_rfl) (by kernel_rfl) #[.int .i64 a, .int .i64 b] (by rfl) ?_
             refine (HP.out).mono ?_
             rintro e w5 ⟨rfl, o5⟩
             refine ⟨_, rfl, ?_⟩
             have d3' := (o5.pick (L := [_, _]) [1]).blk_cell 3
             simp only [rnetA, List.getElem?_toArray, List.getElem?_cons_zero, List.getElem?_cons_succ] at d3'
             obtain ⟨_, _, z1, e0, -⟩ := (o5.pick (L := [_, _, _, _]) [3]).cell (prow_get (j := 0) HM.out (by omega))
             cases z1
             obtain ⟨_, _, z1, e1, -⟩ := (o5.pick (L := [_, _, _, _]) [3]).cell (prow_get (j := 1) HM.out (by omega))
             cases z1
             simp only [pcells, List.getElem?_cons_zero, List.getElem?_cons_succ, ← Nat.add_assoc, Nat.add_zero] at e0 e1
             have lgb := (o5.pick (L := [_, _, _, _]) [3]).row_lt
             have O5 := Lib.hid o5
             clear o5))
      clear d3 k0 k1 f3
      generalize hbb : (!(p.1 == mn) || !(p.2 == mx)) = bb
      have hiff : bb = false ↔ p = (mn, mx) := by
        rw [← hbb, Bool.or_eq_false_iff, Bool.not_eq_false', Bool.not_eq_false', beq_iff_eq, beq_iff_eq, Prod.ext_iff]
      have HI := Lib.hid hiff
      clear hbb hiff
      cases bb with
      | false =>
        have HPP := Lib.hid (HI.out.1 rfl)
        go_wp2
        go_roundw
        case rel =>
          refine ⟨i + 1, kk, Ao, co, by omega, by omega, rfl, by go_num, ?_, ?_⟩
          · show _ = _
            rw [HTk.out, offC_snoc, if_pos HPP.out, List.append_nil]; exact hkk.out
          · rw [HTk.out, offC_snoc, if_pos HPP.out, List.append_nil]; exact O5.out
        case measure => simp [intOf]; omega
      | true =>
        have HPP := Lib.hid (show p ≠ (mn, mx) from fun h => Bool.noConfusion (HI.out.2 h))
        have HRL := Lib.hid (show (prow (offC (mn, mx) (C.take i))).length = kk * 2 by rw [prow_length, ← hkk.out])
        go_wp2_with (at_builtin; refine wpList_append_own rfl (.tmp 36) (.tmp 44) 47 rfl 66 pairZero 2 16 Try.underlying47 Try.info66 rfl (by decide) rfl HRL.out O5.out ((Below.refl _ _).alloc (Nat.le_refl _) _) _ 1 1 _ rfl ?_ (rd_list _ _ _) ?_ (by unfold maxLen; omega) (by omega) ?_)
        · simp [Value.oneCell']
        rintro A7 c7 w7 o7
        have O7 := Lib.hid o7
        clear o7 O5 d3' e0 e1 lgb
        go_wp2
        go_roundw
        case rel =>
          refine ⟨i + 1, kk + 1, A7, c7, by omega, by omega, rfl, by go_num, ?_, ?_⟩
          · show _ = _
            rw [HTk.out, offC_snoc, if_neg HPP.out, List.length_append, ← hkk.out]; rfl
          · rw [HTk.out, offC_snoc, if_neg HPP.out, prow_append]; exact O7.out
        case measure => simp [intOf]; omega
    · have i1 : ¬ (i : Int) < (n : Int) := by omega
      obtain rfl : i = n := by omega
      have hL1 := HZ.out
      rw [show C.take i = C by rw [← hL1, List.take_length]] at hown hkk
      have o3 := (hown.pick (L := [_, _, _, _]) [1, 0, 2]).blk_set 3 (.slice Ao kk co)
      have O3 := Lib.hid (show Own S w0 (wr.setCell ⟨g, 3, none⟩ (.slice Ao kk co)) (SP.blk g 49 (rnetA nodes v many (.slice Ao kk co)) :: SP.row 66 2 (.slice Ao kk co) (prow (offC (mn, mx) C)) :: SP.mails 60 v L :: R) from o3)
      have HRL := Lib.hid (show (prow (offC (mn, mx) C)).length = kk * 2 by rw [prow_length, ← hkk.out])
      clear hown o3 hL1
      cases up with
      | true =>
        clear HRL
        go_wp2
        go_ret
        refine ⟨rfl, ?_⟩
        refine Own.rnet_shut (v := v) (u := .slice Ao kk co) ?_
        rw [linkC, HX.out.1, HX.out.2, if_pos rfl]
        exact O3.out.pick (L := [_, _, _]) [0, 2, 1]
      | false =>
        go_upto_region 11 with (fail)
        clear d3 f3
        have HSF := Lib.hid (fun (W : World) (R' : List SP) (o : Own S w0 W (SP.blk g 49 (rnetA nodes v many (.slice Ao kk co)) :: R')) => show W.cell? ⟨g, 3, none⟩ = some (.slice Ao kk co) from o.blk_cell 3)
        refine wp_region_need (fun W => W.cell? ⟨g, 3, none⟩ = some (.slice Ao kk co)) (fun j => decide (j < 10)) (by kernel_rfl) ?_
        obtain ⟨W0, hW0⟩ : ∃ W0, (wr.setCell ⟨g, 3, none⟩ (.slice Ao kk co)).drew = W0 := ⟨_, rfl⟩
        have O0 := Lib.hid (show Own S w0 W0 _ from hW0 ▸ O3.out.drew)
        rw [hW0]
        clear hW0 O3
        have HS := Lib.hid (HSF.out _ _ O0.out)
        refine wpAnyN_take (i := 0) (v := ?v0) (by simp only [List.getElem?_toArray, List.getElem?_cons_succ, List.getElem?_cons_zero]; rfl) (by kernel_rfl) (by intro _ _ _ h; exact h) (Or.inl ⟨by rfl, ?y0⟩) HS.out ?r0
        case y0 =>
          intro W hSW
          try dsimp only at hSW
          have s0 := hSW
          go_simp
          try with_reducible rfl
        simp only [Act.put, List.setIfInBounds_toArray, List.set_cons_zero, List.set_cons_succ]
        refine wpAnyN_take (i := 1) (v := ?v1) (by simp only [List.getElem?_toArray, List.getElem?_cons_succ, List.getElem?_cons_zero]; rfl) (by kernel_rfl) (by intro _ _ _ h; exact h) (Or.inl ⟨by rfl, ?y1⟩) HS.out ?r1
        case y1 =>
          intro W hSW
          try dsimp only at hSW
          have s0 := hSW
          go_simp
          try with_reducible rfl
        simp only [Act.put, List.setIfInBounds_toArray, List.set_cons_zero, List.set_cons_succ]
        refine wpAnyN_take (i := 2) (v := ?v2) (by simp only [List.getElem?_toArray, List.getElem?_cons_succ, List.getElem?_cons_zero]; rfl) (by kernel_rfl) (by intro _ _ _ h; exact h) (Or.inl ⟨by rfl, ?y2⟩) HS.out ?r2
        case y2 =>
          intro W hSW
          try dsimp only at hSW
          have s0 := hSW
          go_simp
          try with_reducible rfl
        simp only [Act.put, List.setIfInBounds_toArray, List.set_cons_zero, List.set_cons_succ]
        refine wpAnyN_take (i := 3) (v := ?v3) (by simp only [List.getElem?_toArray, List.getElem?_cons_succ, List.getElem?_cons_zero]; rfl) (by kernel_rfl) (by intro _ _ _ h; exact h) (Or.inl ⟨by rfl, ?y3⟩) HS.out ?r3
        case y3 =>
          intro W hSW
          try dsimp only at hSW
          have s0 := hSW
          go_simp
          try with_reducible rfl
        simp only [Act.put, List.setIfInBounds_toArray, List.set_cons_zero, List.set_cons_succ]
        refine wpAnyN_take (i := 4) (v := ?v4) (by simp only [List.getElem?_toArray, List.getElem?_cons_succ, List.getElem?_cons_zero]; rfl) (by kernel_rfl) (by intro _ _ _ h; exact h) (Or.inl ⟨by rfl, ?y4⟩) HS.out ?r4
        case y4 =>
          intro W hSW
          try dsimp only at hSW
          have s0 := hSW
          go_simp
          try with_reducible rfl
        simp only [Act.put, List.setIfInBounds_toArray, List.set_cons_zero, List.set_cons_succ]
        refine wpAnyN_take (i := 5) (v := ?v5) (by simp only [List.getElem?_toArray, List.getElem?_cons_succ, List.getElem?_cons_zero]; rfl) (by kernel_rfl) (by intro _ _ _ h; exact h) (Or.inl ⟨by rfl, ?y5⟩) HS.out ?r5
        case y5 =>
          intro W hSW
          try dsimp only at hSW
          have s0 := hSW
          go_simp
          try with_reducible rfl
        simp only [Act.put, List.setIfInBounds_toArray, List.set_cons_zero, List.set_cons_succ]
        refine wpAnyN_take (i := 6) (v := ?v6) (by simp only [List.getElem?_toArray, List.getElem?_cons_succ, List.getElem?_cons_zero]; rfl) (by kernel_rfl) (by intro _ _ _ h; exact h) (Or.inl ⟨by rfl, ?y6⟩) HS.out ?r6
        case y6 =>
          intro W hSW
          try dsimp only at hSW
          have s0 := hSW
          go_simp
          try with_reducible rfl
        simp only [Act.put, List.setIfInBounds_toArray, List.set_cons_zero, List.set_cons_succ]
        refine wpAnyN_one (i := 7) (by kernel_rfl) (by simp only [List.getElem?_toArray, List.getElem?_cons_succ, List.getElem?_cons_zero]; rfl) (fun K hK => ?_)
        refine step_call rfl 48 _ _ rfl Try.func48 (by kernel_rfl) (by kernel_rfl) #[.int .i64 a, .int .i64 b] (by simp [Act.eval]) ?_
        refine (pair_own O0.out a b).mono ?_
        rintro e w6 ⟨rfl, o6⟩
        rw [HX.out.1, HX.out.2]
        have O6 := Lib.hid o6
        refine ⟨_, rfl, ?_⟩
        have HS := Lib.hid (HSF.out _ _ o6)
        refine hK _ _ ⟨fun _ => HS.out, ?_⟩
        clear hK K o6 O0
        try simp only [Act.put, List.setIfInBounds_toArray, List.set_cons_zero, List.set_cons_succ]
        refine wpAnyN_one (i := 8) (by kernel_rfl) (by simp only [List.getElem?_toArray, List.getElem?_cons_succ, List.getElem?_cons_zero]; rfl) (fun K hK => ?_)
        go_simp
        have O7 := Lib.hid (O6.out.alloc #[.int .i64 mn, .int .i64 mx] 66)
        refine hK _ _ ⟨fun _ => HSF.out _ _ (O7.out.pick (L := [_, _]) [1]), ?_⟩
        clear hK K O6 HS
        try simp only [Act.put, List.setIfInBounds_toArray, List.set_cons_zero, List.set_cons_succ]
        obtain ⟨w7, hw7⟩ : ∃ x, w6.alloc (.cells #[.int .i64 mn, .int .i64 mx] 66) = x := ⟨_, rfl⟩
        obtain ⟨qe, hqe⟩ : ∃ x, w6.heap.size = x := ⟨_, rfl⟩
        rw [hw7, hqe] at O7
        simp only [hw7, hqe]
        clear hw7 hqe
        have O8 := Lib.hid (O7.out.pick (L := [_, _, _]) [2, 0, 1])
        clear O7
        refine wpAnyN_one (i := 9) (by kernel_rfl) (by simp only [List.getElem?_toArray, List.getElem?_cons_succ, List.getElem?_cons_zero]; rfl) (fun K hK => ?_)
        refine step_append_move rfl (.tmp 56) (.tmp 60) 47 rfl 66 pairZero 2 16 Try.underlying47 Try.info66 rfl (by decide) (by simp [Act.eval]) HRL.out O8.out (Below.refl _ _) (some ⟨qe, 0, none⟩) 1 1 [.int .i64 mn, .int .i64 mx] (by simp [Act.eval]) rfl (rd_cells (O8.out.pick (L := [_, _]) [1])) (fun u hu => by simp only [List.mem_cons, List.not_mem_nil, or_false] at hu; rcases hu with rfl | rfl <;> rfl) (by unfold maxLen; omega) (by omega) ?_
        rintro A8 c8 w8 o8
        have O9 := Lib.hid (o8.pick (L := [_, _, _]) [2, 0])
        refine hK _ _ ⟨fun _ => HSF.out _ _ O9.out, ?_⟩
        have b3 := O9.out.blk_cell 3
        have fr3 := O9.out.blk_free 3
        have O10 := Lib.hid (O9.out.blk_set 3 (.slice A8 (kk + 1) c8))
        clear hK K o8 O8 O9
        try simp only [Act.put, List.setIfInBounds_toArray, List.set_cons_zero, List.set_cons_succ]
        refine wpAnyN_one (i := 10) (by kernel_rfl) (by simp only [List.getElem?_toArray, List.getElem?_cons_succ, List.getElem?_cons_zero]; rfl) (fun K hK => ?_)
        go_simp
        refine hK _ _ ⟨fun h => (by cases h), ?_⟩
        clear hK K
        try simp only [Act.put, List.setIfInBounds_toArray, List.set_cons_zero, List.set_cons_succ]
        refine wpAnyN_one (i := 11) (by kernel_rfl) (by simp only [List.getElem?_toArray, List.getElem?_cons_succ, List.getElem?_cons_zero]; rfl) (fun K hK => ?_)
        go_simp
        refine hK _ _ ⟨fun h => (by cases h), ?_⟩
        clear hK K
        try simp only [Act.put, List.setIfInBounds_toArray, List.set_cons_zero, List.set_cons_succ]
        refine wpAnyN_one (i := 12) (by kernel_rfl) (by simp only [List.getElem?_toArray, List.getElem?_cons_succ, List.getElem?_cons_zero]; rfl) (fun K hK => ?_)
        go_simp
        refine hK _ _ ⟨fun h => (by cases h), ?_⟩
        clear hK K
        try simp only [Act.put, List.setIfInBounds_toArray, List.set_cons_zero, List.set_cons_succ]
        refine wpAnyN_done (by kernel_rfl) ?_ _
        go_wp2
        try rw [Exit.noGoto_ret]
        go_ret
        refine ⟨rfl, ?_⟩
        refine Own.rnet_shut (v := v) (u := .slice A8 (kk + 1) c8) ?_
        rw [linkC, HX.out.1, HX.out.2, if_neg (by decide), prow_append]
        exact O10.out.pick (L := [_, _, _]) [0, 2, 1]
end
end Go.Proofs.Ytlhinhcbbknhcaa
