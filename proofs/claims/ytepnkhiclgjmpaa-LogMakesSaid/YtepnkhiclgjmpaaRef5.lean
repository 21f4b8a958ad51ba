/-
  The document's log: Compact, Restore.
  Conditions: the log is in order.
-/
import Derived.Test.YtepnkhiclgjmpaaRef2
import Derived.Test.YtepnkhiclgjmpaaLog10
namespace Go.Proofs.Ytepnkhiclgjmpaa
set_option linter.unusedVariables false
set_option linter.unusedSimpArgs false
open Go.RowKit

section
variable {S : Nat → Prop} {w0 w : World} {R : List SP} {g : Nat} {x : Lg}
set_option maxRecDepth 100000 in
set_option maxHeartbeats 6400000 in
theorem rcompact_own (hx : x.Ok) (h : Own S w0 w (SP.log 88 g x :: R)) (i : Int) (hi : In64 i) :
    Calls Try.prog 70 #[.pointer (some ⟨g, 0, none⟩), .int .i64 i] w fun e w' => e = .returned (.int .i64 (x.compact i).1) ∧ Own S w0 w' (SP.log 88 g (x.compact i).2 :: R) := by
  obtain ⟨A0, n0, -, -, -, -, c0, -, -, -, -, -, -, c7⟩ := h.log_cells
  by_cases h1 : i < x.index
  · rw [compact_gone h1]
    have H := Lib.hid h
    clear h
    go_enter Try.func70, Try.ntmps70
    go_wp2
    go_ret
    exact ⟨rfl, H.out⟩
  · by_cases h2 : x.ad < i
    · rw [compact_far h1 h2]
      have H := Lib.hid h
      clear h
      go_enter Try.func70, Try.ntmps70
      go_wp2
      go_ret
      exact ⟨rfl, H.out⟩
    · rw [compact_yes h1 h2]
      have hla : x.ad ≤ x.lastI := by have := hx.a1; have := hx.a2; have := hx.a3; omega
      have hTm := rat_own hx h i hi
      obtain ⟨t, ht⟩ : ∃ t, (x.at i).1 = t := ⟨_, rfl⟩
      obtain ⟨er, her⟩ : ∃ er, (x.at i).2 = er := ⟨_, rfl⟩
      rw [ht, her] at hTm
      rw [ht]
      have HTm := Lib.hid hTm
      have hlen := hx.len
      have hx0 := hx.i0
      have hx1 := hx.last
      have hdat := hx.dat
      rw [maxI_eq] at hx1
      clear h ht her hTm
      obtain ⟨b, tb, L, hv, sv, cv, pv, av⟩ := x
      unfold Lg.lastI at hla hx1
      simp only at *
      obtain ⟨k, hk⟩ : ∃ k : Nat, i - b = (k : Int) := ⟨(i - b).toNat, by omega⟩
      have hkL : k ≤ L.length := by omega
      rw [show (i - b).toNat = k by omega]
      obtain ⟨n, hn⟩ : ∃ n, L.length = n := ⟨_, rfl⟩
      rw [hn] at hlen hkL hla hx1
      have HNL := Lib.hid hn
      have wk : IntKind.i64.wrap (i - b) = (k : Int) := by rw [IntWalk.i64_in _ (by omega)]; omega
      clear hn hk
      go_enter Try.func70, Try.ntmps70
      go_wp2_with fail
      refine (HTm.out).mono ?_
      rintro e w1 ⟨rfl, o1⟩
      obtain ⟨A, c, hc1, hc2, o2, -, d0, -, d2, -, -, -, -, -⟩ := o1.log_cells
      have hn := HNL.out
      simp only at hc1 o2 d0 d2
      rw [hn] at hc1 o2 d2
      have q1 : (k : Int) ≤ (n : Int) := by omega
      have q2 : (0 : Int) ≤ (k : Int) := by omega
      have q3 : (n : Int) ≤ (c : Int) := by omega
      unfold maxLen at hc2
      rcases row_open o2.swap hn with ⟨rfl, rfl, rfl⟩ | ⟨bl, off, rfl⟩
      · obtain rfl : k = 0 := by omega
        have w9 : IntKind.i64.wrap 0 = 0 := IntWalk.i64_in _ (by omega)
        have HCo := Lib.hid (fun (W : World) (o : Own S w0 W (SP.blk g 88 (logA ⟨b, tb, L, hv, sv, cv, pv, av⟩ (.slice none 0 0)) :: SP.ents 26 (.slice none 0 0) L :: R)) => show Calls Try.prog 34 #[.slice none 0 0] W fun e w' => ∃ A' c', e = .returned (.slice A' 0 c') ∧ Own S w0 w' (SP.ents 26 (.slice A' 0 c') (L.drop 0) :: SP.blk g 88 (logA ⟨b, tb, L, hv, sv, cv, pv, av⟩ (.slice none 0 0)) :: SP.ents 26 (.slice none 0 0) L :: R) from by
          have := copies_own (c := 0) (A := none) (es := ([] : List E)) (by simp) (fun m hm => by cases hm) o EReads.nil
          rw [show L.drop 0 = [] from List.drop_eq_nil_of_le (by omega)]
          exact this)
        have O1 := Lib.hid o2
        clear hdat hn o1 o2 HTm c0 c7
        go_upto_region 6 with (fail)
        have HSF := Lib.hid (fun (W : World) (R' : List SP) (o : Own S w0 W (SP.blk g 88 (logA ⟨b, tb, L, hv, sv, cv, pv, av⟩ (.slice none 0 0)) :: R')) => show W.cell? ⟨g, 2, none⟩ = some (.slice none 0 0) ∧ W.cell? ⟨g, 0, none⟩ = some (.int .i64 b) from ⟨o.blk_cell 2, o.blk_cell 0⟩)
        refine wp_region_need (fun W => W.cell? ⟨g, 2, none⟩ = some (.slice none 0 0) ∧ W.cell? ⟨g, 0, none⟩ = some (.int .i64 b)) (fun j => decide (j < 13)) (by kernel_rfl) ?_
        obtain ⟨W0, hW0⟩ : ∃ W0, w1.drew = W0 := ⟨_, rfl⟩
        have HS := Lib.hid (HSF.out _ _ O1.out.drew)
        have O2 := Lib.hid O1.out.drew
        rw [hW0] at HS O2 ⊢
        clear hW0 d0 d2
        refine wpAnyN_take (i := 0) (v := ?va0) (by simp only [List.getElem?_toArray, List.getElem?_cons_succ, List.getElem?_cons_zero]; rfl) (by kernel_rfl) (by intro _ _ _ h; exact h) (Or.inl ⟨by rfl, ?ya0⟩) HS.out ?ra0
        case ya0 =>
          intro W hSW
          try dsimp only at hSW
          obtain ⟨s0, s1⟩ := hSW
          go_simp
          try with_reducible rfl
        simp only [Act.put, List.setIfInBounds_toArray, List.set_cons_zero, List.set_cons_succ]
        refine wpAnyN_take (i := 1) (v := ?va1) (by simp only [List.getElem?_toArray, List.getElem?_cons_succ, List.getElem?_cons_zero]; rfl) (by kernel_rfl) (by intro _ _ _ h; exact h) (Or.inl ⟨by rfl, ?ya1⟩) HS.out ?ra1
        case ya1 =>
          intro W hSW
          try dsimp only at hSW
          obtain ⟨s0, s1⟩ := hSW
          go_simp
          try with_reducible rfl
        simp only [Act.put, List.setIfInBounds_toArray, List.set_cons_zero, List.set_cons_succ]
        refine wpAnyN_take (i := 2) (v := ?va2) (by simp only [List.getElem?_toArray, List.getElem?_cons_succ, List.getElem?_cons_zero]; rfl) (by kernel_rfl) (by intro _ _ _ h; exact h) (Or.inl ⟨by rfl, ?ya2⟩) HS.out ?ra2
        case ya2 =>
          intro W hSW
          try dsimp only at hSW
          obtain ⟨s0, s1⟩ := hSW
          go_simp
          try with_reducible rfl
        simp only [Act.put, List.setIfInBounds_toArray, List.set_cons_zero, List.set_cons_succ]
        refine wpAnyN_take (i := 3) (v := ?va3) (by simp only [List.getElem?_toArray, List.getElem?_cons_succ, List.getElem?_cons_zero]; rfl) (by kernel_rfl) (by intro _ _ _ h; exact h) (Or.inl ⟨by rfl, ?ya3⟩) HS.out ?ra3
        case ya3 =>
          intro W hSW
          try dsimp only at hSW
          obtain ⟨s0, s1⟩ := hSW
          go_simp
          try with_reducible rfl
        simp only [Act.put, List.setIfInBounds_toArray, List.set_cons_zero, List.set_cons_succ]
        refine wpAnyN_take (i := 4) (v := ?va4) (by simp only [List.getElem?_toArray, List.getElem?_cons_succ, List.getElem?_cons_zero]; rfl) (by kernel_rfl) (by intro _ _ _ h; exact h) (Or.inl ⟨by rfl, ?ya4⟩) HS.out ?ra4
        case ya4 =>
          intro W hSW
          try dsimp only at hSW
          obtain ⟨s0, s1⟩ := hSW
          go_simp
          try with_reducible rfl
        simp only [Act.put, List.setIfInBounds_toArray, List.set_cons_zero, List.set_cons_succ]
        refine wpAnyN_take (i := 5) (v := ?va5) (by simp only [List.getElem?_toArray, List.getElem?_cons_succ, List.getElem?_cons_zero]; rfl) (by kernel_rfl) (by intro _ _ _ h; exact h) (Or.inl ⟨by rfl, ?ya5⟩) HS.out ?ra5
        case ya5 =>
          intro W hSW
          try dsimp only at hSW
          obtain ⟨s0, s1⟩ := hSW
          go_simp
          try with_reducible rfl
        simp only [Act.put, List.setIfInBounds_toArray, List.set_cons_zero, List.set_cons_succ]
        refine wpAnyN_take (i := 6) (v := ?va6) (by simp only [List.getElem?_toArray, List.getElem?_cons_succ, List.getElem?_cons_zero]; rfl) (by kernel_rfl) (by intro _ _ _ h; exact h) (Or.inl ⟨by rfl, ?ya6⟩) HS.out ?ra6
        case ya6 =>
          intro W hSW
          try dsimp only at hSW
          obtain ⟨s0, s1⟩ := hSW
          go_simp
          try with_reducible rfl
        simp only [Act.put, List.setIfInBounds_toArray, List.set_cons_zero, List.set_cons_succ]
        refine wpAnyN_take (i := 7) (v := ?va7) (by simp only [List.getElem?_toArray, List.getElem?_cons_succ, List.getElem?_cons_zero]; rfl) (by kernel_rfl) (by intro _ _ _ h; exact h) (Or.inl ⟨by rfl, ?ya7⟩) HS.out ?ra7
        case ya7 =>
          intro W hSW
          try dsimp only at hSW
          obtain ⟨s0, s1⟩ := hSW
          go_simp
          try with_reducible rfl
        simp only [Act.put, List.setIfInBounds_toArray, List.set_cons_zero, List.set_cons_succ]
        refine wpAnyN_take (i := 8) (v := ?va8) (by simp only [List.getElem?_toArray, List.getElem?_cons_succ, List.getElem?_cons_zero]; rfl) (by kernel_rfl) (by intro _ _ _ h; exact h) (Or.inl ⟨by rfl, ?ya8⟩) HS.out ?ra8
        case ya8 =>
          intro W hSW
          try dsimp only at hSW
          obtain ⟨s0, s1⟩ := hSW
          go_simp
          try with_reducible rfl
        simp only [Act.put, List.setIfInBounds_toArray, List.set_cons_zero, List.set_cons_succ]
        refine wpAnyN_take (i := 9) (v := ?va9) (by simp only [List.getElem?_toArray, List.getElem?_cons_succ, List.getElem?_cons_zero]; rfl) (by kernel_rfl) (by intro _ _ _ h; exact h) (Or.inl ⟨by rfl, ?ya9⟩) HS.out ?ra9
        case ya9 =>
          intro W hSW
          try dsimp only at hSW
          obtain ⟨s0, s1⟩ := hSW
          go_simp
          try with_reducible rfl
        simp only [Act.put, List.setIfInBounds_toArray, List.set_cons_zero, List.set_cons_succ]
        refine wpAnyN_take (i := 10) (v := ?va10) (by simp only [List.getElem?_toArray, List.getElem?_cons_succ, List.getElem?_cons_zero]; rfl) (by kernel_rfl) (by intro _ _ _ h; exact h) (Or.inl ⟨by rfl, ?ya10⟩) HS.out ?ra10
        case ya10 =>
          intro W hSW
          try dsimp only at hSW
          obtain ⟨s0, s1⟩ := hSW
          go_simp
          try with_reducible rfl
        simp only [Act.put, List.setIfInBounds_toArray, List.set_cons_zero, List.set_cons_succ]
        refine wpAnyN_take (i := 11) (v := ?va11) (by simp only [List.getElem?_toArray, List.getElem?_cons_succ, List.getElem?_cons_zero]; rfl) (by kernel_rfl) (by intro _ _ _ h; exact h) (Or.inl ⟨by rfl, ?ya11⟩) HS.out ?ra11
        case ya11 =>
          intro W hSW
          try dsimp only at hSW
          obtain ⟨s0, s1⟩ := hSW
          go_simp
          try with_reducible rfl
        simp only [Act.put, List.setIfInBounds_toArray, List.set_cons_zero, List.set_cons_succ]
        refine wpAnyN_one (i := 12) (by kernel_rfl) (by simp only [List.getElem?_toArray, List.getElem?_cons_succ, List.getElem?_cons_zero]; rfl) (fun K hK => ?_)
        refine step_call rfl 34 _ _ rfl Try.func34 (by kernel_rfl) (by kernel_rfl) #[.slice none 0 0] (by simp [Act.eval]) ?_
        refine (HCo.out _ O2.out).mono ?_
        rintro e w5 ⟨A5, c5, rfl, o5⟩
        refine ⟨_, rfl, ?_⟩
        refine hK _ _ ⟨fun _ => HSF.out _ _ (o5.pick (L := [_, _]) [1]), ?_⟩
        clear hK K HS O2
        try simp only [Act.put, List.setIfInBounds_toArray, List.set_cons_zero, List.set_cons_succ]
        have d2 := (o5.pick (L := [_, _]) [1]).blk_cell 2
        have f2 := (o5.pick (L := [_, _]) [1]).blk_free 2
        have o6 := (o5.pick (L := [_, _, _]) [1, 0]).blk_set 2 (.slice A5 0 c5)
        have f0 := o6.blk_free 0
        have o7 := o6.blk_set 0 (.int .i64 i)
        have f1 := o7.blk_free 1
        have O8 := Lib.hid (o7.blk_set 1 (.int .i64 t))
        have d0 := o6.blk_cell 0
        have d1 := o7.blk_cell 1
        simp only [logA, List.getElem?_toArray, List.setIfInBounds_toArray, List.set_cons_zero, List.set_cons_succ, List.getElem?_cons_zero, List.getElem?_cons_succ] at d0 d1 d2
        clear o5 o6 o7 HCo O1
        refine wpAnyN_one (i := 13) (by kernel_rfl) (by simp only [List.getElem?_toArray, List.getElem?_cons_succ, List.getElem?_cons_zero]; rfl) (fun K hK => ?_)
        go_simp
        refine hK _ _ ⟨fun h => (by cases h), ?_⟩
        clear hK K
        try simp only [Act.put, List.setIfInBounds_toArray, List.set_cons_zero, List.set_cons_succ]
        refine wpAnyN_one (i := 14) (by kernel_rfl) (by simp only [List.getElem?_toArray, List.getElem?_cons_succ, List.getElem?_cons_zero]; rfl) (fun K hK => ?_)
        go_simp
        refine hK _ _ ⟨fun h => (by cases h), ?_⟩
        clear hK K
        try simp only [Act.put, List.setIfInBounds_toArray, List.set_cons_zero, List.set_cons_succ]
        refine wpAnyN_one (i := 15) (by kernel_rfl) (by simp only [List.getElem?_toArray, List.getElem?_cons_succ, List.getElem?_cons_zero]; rfl) (fun K hK => ?_)
        go_simp
        refine hK _ _ ⟨fun h => (by cases h), ?_⟩
        clear hK K
        try simp only [Act.put, List.setIfInBounds_toArray, List.set_cons_zero, List.set_cons_succ]
        refine wpAnyN_done (by kernel_rfl) ?_ _
        try skip
        go_wp2
        go_ret
        exact ⟨rfl, Own.log_shut (x := ⟨i, t, L.drop 0, hv, sv, cv, pv, av⟩) (v := .slice A5 0 c5) O8.out⟩
      · have HCo := Lib.hid (fun (W : World) (o : Own S w0 W (SP.blk g 88 (logA ⟨b, tb, L, hv, sv, cv, pv, av⟩ (.slice (some ⟨bl, off, none⟩) n c)) :: SP.ents 26 (.slice (some ⟨bl, off, none⟩) n c) L :: R)) => show Calls Try.prog 34 #[.slice (if c = k then some ⟨bl, off, none⟩ else some ⟨bl, off + k * 4, none⟩) (n - k) (c - k)] W fun e w' => ∃ A' c', e = .returned (.slice A' (n - k) c') ∧ Own S w0 w' (SP.ents 26 (.slice A' (n - k) c') (L.drop k) :: SP.blk g 88 (logA ⟨b, tb, L, hv, sv, cv, pv, av⟩ (.slice (some ⟨bl, off, none⟩) n c)) :: SP.ents 26 (.slice (some ⟨bl, off, none⟩) n c) L :: R) from by
          have hr := cut_reads (S := S) (w0 := w0) (R := R) (bl := bl) (off := off) (lo := k) n hkL hc1 hn
          rw [List.take_of_length_le (by rw [List.length_drop]; omega)] at hr
          have := copies_own (c := c - k) (es := L.drop k) (by rw [List.length_drop]; omega) (fun m hm => by have := hdat m (List.mem_of_mem_drop hm); omega) o (EReads.more hr [_])
          rw [List.length_drop, hn] at this
          exact this)
        have O1 := Lib.hid o2
        clear hdat hn o1 o2 HTm c0 c7
        go_upto_region 6 with (fail)
        have HSF := Lib.hid (fun (W : World) (R' : List SP) (o : Own S w0 W (SP.blk g 88 (logA ⟨b, tb, L, hv, sv, cv, pv, av⟩ (.slice (some ⟨bl, off, none⟩) n c)) :: R')) => show W.cell? ⟨g, 2, none⟩ = some (.slice (some ⟨bl, off, none⟩) n c) ∧ W.cell? ⟨g, 0, none⟩ = some (.int .i64 b) from ⟨o.blk_cell 2, o.blk_cell 0⟩)
        refine wp_region_need (fun W => W.cell? ⟨g, 2, none⟩ = some (.slice (some ⟨bl, off, none⟩) n c) ∧ W.cell? ⟨g, 0, none⟩ = some (.int .i64 b)) (fun j => decide (j < 13)) (by kernel_rfl) ?_
        obtain ⟨W0, hW0⟩ : ∃ W0, w1.drew = W0 := ⟨_, rfl⟩
        have HS := Lib.hid (HSF.out _ _ O1.out.drew)
        have O2 := Lib.hid O1.out.drew
        rw [hW0] at HS O2 ⊢
        clear hW0 d0 d2
        refine wpAnyN_take (i := 0) (v := ?vb0) (by simp only [List.getElem?_toArray, List.getElem?_cons_succ, List.getElem?_cons_zero]; rfl) (by kernel_rfl) (by intro _ _ _ h; exact h) (Or.inl ⟨by rfl, ?yb0⟩) HS.out ?rb0
        case yb0 =>
          intro W hSW
          try dsimp only at hSW
          obtain ⟨s0, s1⟩ := hSW
          go_simp
          try with_reducible rfl
        simp only [Act.put, List.setIfInBounds_toArray, List.set_cons_zero, List.set_cons_succ]
        refine wpAnyN_take (i := 1) (v := ?vb1) (by simp only [List.getElem?_toArray, List.getElem?_cons_succ, List.getElem?_cons_zero]; rfl) (by kernel_rfl) (by intro _ _ _ h; exact h) (Or.inl ⟨by rfl, ?yb1⟩) HS.out ?rb1
        case yb1 =>
          intro W hSW
          try dsimp only at hSW
          obtain ⟨s0, s1⟩ := hSW
          go_simp
          try with_reducible rfl
        simp only [Act.put, List.setIfInBounds_toArray, List.set_cons_zero, List.set_cons_succ]
        refine wpAnyN_take (i := 2) (v := ?vb2) (by simp only [List.getElem?_toArray, List.getElem?_cons_succ, List.getElem?_cons_zero]; rfl) (by kernel_rfl) (by intro _ _ _ h; exact h) (Or.inl ⟨by rfl, ?yb2⟩) HS.out ?rb2
        case yb2 =>
          intro W hSW
          try dsimp only at hSW
          obtain ⟨s0, s1⟩ := hSW
          go_simp
          try with_reducible rfl
        simp only [Act.put, List.setIfInBounds_toArray, List.set_cons_zero, List.set_cons_succ]
        refine wpAnyN_take (i := 3) (v := ?vb3) (by simp only [List.getElem?_toArray, List.getElem?_cons_succ, List.getElem?_cons_zero]; rfl) (by kernel_rfl) (by intro _ _ _ h; exact h) (Or.inl ⟨by rfl, ?yb3⟩) HS.out ?rb3
        case yb3 =>
          intro W hSW
          try dsimp only at hSW
          obtain ⟨s0, s1⟩ := hSW
          go_simp
          try with_reducible rfl
        simp only [Act.put, List.setIfInBounds_toArray, List.set_cons_zero, List.set_cons_succ]
        refine wpAnyN_take (i := 4) (v := ?vb4) (by simp only [List.getElem?_toArray, List.getElem?_cons_succ, List.getElem?_cons_zero]; rfl) (by kernel_rfl) (by intro _ _ _ h; exact h) (Or.inl ⟨by rfl, ?yb4⟩) HS.out ?rb4
        case yb4 =>
          intro W hSW
          try dsimp only at hSW
          obtain ⟨s0, s1⟩ := hSW
          go_simp
          try with_reducible rfl
        simp only [Act.put, List.setIfInBounds_toArray, List.set_cons_zero, List.set_cons_succ]
        refine wpAnyN_take (i := 5) (v := ?vb5) (by simp only [List.getElem?_toArray, List.getElem?_cons_succ, List.getElem?_cons_zero]; rfl) (by kernel_rfl) (by intro _ _ _ h; exact h) (Or.inl ⟨by rfl, ?yb5⟩) HS.out ?rb5
        case yb5 =>
          intro W hSW
          try dsimp only at hSW
          obtain ⟨s0, s1⟩ := hSW
          go_simp
          try with_reducible rfl
        simp only [Act.put, List.setIfInBounds_toArray, List.set_cons_zero, List.set_cons_succ]
        refine wpAnyN_take (i := 6) (v := ?vb6) (by simp only [List.getElem?_toArray, List.getElem?_cons_succ, List.getElem?_cons_zero]; rfl) (by kernel_rfl) (by intro _ _ _ h; exact h) (Or.inl ⟨by rfl, ?yb6⟩) HS.out ?rb6
        case yb6 =>
          intro W hSW
          try dsimp only at hSW
          obtain ⟨s0, s1⟩ := hSW
          go_simp
          try with_reducible rfl
        simp only [Act.put, List.setIfInBounds_toArray, List.set_cons_zero, List.set_cons_succ]
        refine wpAnyN_take (i := 7) (v := ?vb7) (by simp only [List.getElem?_toArray, List.getElem?_cons_succ, List.getElem?_cons_zero]; rfl) (by kernel_rfl) (by intro _ _ _ h; exact h) (Or.inl ⟨by rfl, ?yb7⟩) HS.out ?rb7
        case yb7 =>
          intro W hSW
          try dsimp only at hSW
          obtain ⟨s0, s1⟩ := hSW
          go_simp
          try with_reducible rfl
        simp only [Act.put, List.setIfInBounds_toArray, List.set_cons_zero, List.set_cons_succ]
        refine wpAnyN_take (i := 8) (v := ?vb8) (by simp only [List.getElem?_toArray, List.getElem?_cons_succ, List.getElem?_cons_zero]; rfl) (by kernel_rfl) (by intro _ _ _ h; exact h) (Or.inl ⟨by rfl, ?yb8⟩) HS.out ?rb8
        case yb8 =>
          intro W hSW
          try dsimp only at hSW
          obtain ⟨s0, s1⟩ := hSW
          go_simp
          try with_reducible rfl
        simp only [Act.put, List.setIfInBounds_toArray, List.set_cons_zero, List.set_cons_succ]
        refine wpAnyN_take (i := 9) (v := ?vb9) (by simp only [List.getElem?_toArray, List.getElem?_cons_succ, List.getElem?_cons_zero]; rfl) (by kernel_rfl) (by intro _ _ _ h; exact h) (Or.inl ⟨by rfl, ?yb9⟩) HS.out ?rb9
        case yb9 =>
          intro W hSW
          try dsimp only at hSW
          obtain ⟨s0, s1⟩ := hSW
          go_simp
          try with_reducible rfl
        simp only [Act.put, List.setIfInBounds_toArray, List.set_cons_zero, List.set_cons_succ]
        refine wpAnyN_take (i := 10) (v := ?vb10) (by simp only [List.getElem?_toArray, List.getElem?_cons_succ, List.getElem?_cons_zero]; rfl) (by kernel_rfl) (by intro _ _ _ h; exact h) (Or.inl ⟨by rfl, ?yb10⟩) HS.out ?rb10
        case yb10 =>
          intro W hSW
          try dsimp only at hSW
          obtain ⟨s0, s1⟩ := hSW
          go_simp
          try with_reducible rfl
        simp only [Act.put, List.setIfInBounds_toArray, List.set_cons_zero, List.set_cons_succ]
        refine wpAnyN_take (i := 11) (v := ?vb11) (by simp only [List.getElem?_toArray, List.getElem?_cons_succ, List.getElem?_cons_zero]; rfl) (by kernel_rfl) (by intro _ _ _ h; exact h) (Or.inl ⟨by rfl, ?yb11⟩) HS.out ?rb11
        case yb11 =>
          intro W hSW
          try dsimp only at hSW
          obtain ⟨s0, s1⟩ := hSW
          go_simp
          try with_reducible rfl
        simp only [Act.put, List.setIfInBounds_toArray, List.set_cons_zero, List.set_cons_succ]
        refine wpAnyN_one (i := 12) (by kernel_rfl) (by simp only [List.getElem?_toArray, List.getElem?_cons_succ, List.getElem?_cons_zero]; rfl) (fun K hK => ?_)
        refine step_call rfl 34 _ _ rfl Try.func34 (by kernel_rfl) (by kernel_rfl) #[.slice (if c = k then some ⟨bl, off, none⟩ else some ⟨bl, off + k * 4, none⟩) (n - k) (c - k)] (by simp [Act.eval]) ?_
        refine (HCo.out _ O2.out).mono ?_
        rintro e w5 ⟨A5, c5, rfl, o5⟩
        refine ⟨_, rfl, ?_⟩
        refine hK _ _ ⟨fun _ => HSF.out _ _ (o5.pick (L := [_, _]) [1]), ?_⟩
        clear hK K HS O2
        try simp only [Act.put, List.setIfInBounds_toArray, List.set_cons_zero, List.set_cons_succ]
        have d2 := (o5.pick (L := [_, _]) [1]).blk_cell 2
        have f2 := (o5.pick (L := [_, _]) [1]).blk_free 2
        have o6 := (o5.pick (L := [_, _, _]) [1, 0]).blk_set 2 (.slice A5 (n - k) c5)
        have f0 := o6.blk_free 0
        have o7 := o6.blk_set 0 (.int .i64 i)
        have f1 := o7.blk_free 1
        have O8 := Lib.hid (o7.blk_set 1 (.int .i64 t))
        have d0 := o6.blk_cell 0
        have d1 := o7.blk_cell 1
        simp only [logA, List.getElem?_toArray, List.setIfInBounds_toArray, List.set_cons_zero, List.set_cons_succ, List.getElem?_cons_zero, List.getElem?_cons_succ] at d0 d1 d2
        clear o5 o6 o7 HCo O1
        refine wpAnyN_one (i := 13) (by kernel_rfl) (by simp only [List.getElem?_toArray, List.getElem?_cons_succ, List.getElem?_cons_zero]; rfl) (fun K hK => ?_)
        go_simp
        refine hK _ _ ⟨fun h => (by cases h), ?_⟩
        clear hK K
        try simp only [Act.put, List.setIfInBounds_toArray, List.set_cons_zero, List.set_cons_succ]
        refine wpAnyN_one (i := 14) (by kernel_rfl) (by simp only [List.getElem?_toArray, List.getElem?_cons_succ, List.getElem?_cons_zero]; rfl) (fun K hK => ?_)
        go_simp
        refine hK _ _ ⟨fun h => (by cases h), ?_⟩
        clear hK K
        try simp only [Act.put, List.setIfInBounds_toArray, List.set_cons_zero, List.set_cons_succ]
        refine wpAnyN_one (i := 15) (by kernel_rfl) (by simp only [List.getElem?_toArray, List.getElem?_cons_succ, List.getElem?_cons_zero]; rfl) (fun K hK => ?_)
        go_simp
        refine hK _ _ ⟨fun h => (by cases h), ?_⟩
        clear hK K
        try simp only [Act.put, List.setIfInBounds_toArray, List.set_cons_zero, List.set_cons_succ]
        refine wpAnyN_done (by kernel_rfl) ?_ _
        generalize (if c = k then some (⟨bl, off, none⟩ : Addr) else some ⟨bl, off + k * 4, none⟩) = A2
        go_wp2
        go_ret
        exact ⟨rfl, Own.log_shut (x := ⟨i, t, L.drop k, hv, sv, cv, pv, av⟩) (v := .slice A5 (n - k) c5) O8.out⟩

set_option maxRecDepth 100000 in
set_option maxHeartbeats 6400000 in
theorem rrestore_own (h : Own S w0 w (SP.log 88 g x :: R)) (i t : Int) :
    Calls Try.prog 71 #[.pointer (some ⟨g, 0, none⟩), .int .i64 i, .int .i64 t] w fun e w' => e = .returned (.int .i64 (x.restore i t).1) ∧ Own S w0 w' (SP.log 88 g (x.restore i t).2 :: R) := by
  obtain ⟨A, c, hc1, hc2, o, -, c0, c1, c2, c3, c4, c5, c6, c7⟩ := h.log_cells
  have H := Lib.hid h
  have O := Lib.hid o
  clear h o
  have no : (¬ (1 ≤ i ∧ i ≤ maxI) ∨ ¬ (1 ≤ t ∧ t ≤ maxI) ∨ i ≤ x.c) → (Calls Try.prog 71 #[.pointer (some ⟨g, 0, none⟩), .int .i64 i, .int .i64 t] w fun e w' => e = .returned (.int .i64 1) ∧ Own S w0 w' (SP.log 88 g x :: R)) → Calls Try.prog 71 #[.pointer (some ⟨g, 0, none⟩), .int .i64 i, .int .i64 t] w fun e w' => e = .returned (.int .i64 (x.restore i t).1) ∧ Own S w0 w' (SP.log 88 g (x.restore i t).2 :: R) := fun h1 h2 => by
    rw [show x.restore i t = (1, x) by rw [Lg.restore, if_pos h1]]; exact h2
  rw [maxI_eq] at no
  by_cases h1 : i < 1
  · refine no (by omega) ?_
    clear no
    go_enter Try.func71, Try.ntmps71
    go_wp2
    go_ret
    exact ⟨rfl, H.out⟩
  · by_cases h2 : 4611686018427387904 < i
    · refine no (by omega) ?_
      clear no
      go_enter Try.func71, Try.ntmps71
      go_wp2
      go_ret
      exact ⟨rfl, H.out⟩
    · by_cases h3 : t < 1
      · refine no (by omega) ?_
        clear no
        go_enter Try.func71, Try.ntmps71
        go_wp2
        go_ret
        exact ⟨rfl, H.out⟩
      · by_cases h4 : 4611686018427387904 < t
        · refine no (by omega) ?_
          clear no
          go_enter Try.func71, Try.ntmps71
          go_wp2
          go_ret
          exact ⟨rfl, H.out⟩
        · by_cases h5 : i ≤ x.c
          · refine no (by omega) ?_
            clear no
            go_enter Try.func71, Try.ntmps71
            go_wp2
            go_ret
            exact ⟨rfl, H.out⟩
          · rw [show x.restore i t = (0, ⟨i, t, [], i, i, i, i, i⟩) by rw [Lg.restore, maxI_eq, if_neg (by omega)]]
            clear no
            have f0 := O.out.blk_free 0
            have o0 := O.out.blk_set 0 (.int .i64 i)
            have f1 := o0.blk_free 1
            have o1 := o0.blk_set 1 (.int .i64 t)
            have f2 := o1.blk_free 2
            have o2 := o1.blk_set 2 (.slice none 0 0)
            have f3 := o2.blk_free 3
            have o3 := o2.blk_set 3 (.int .i64 i)
            have f4 := o3.blk_free 4
            have o4 := o3.blk_set 4 (.int .i64 i)
            have f5 := o4.blk_free 5
            have o5 := o4.blk_set 5 (.int .i64 i)
            have f6 := o5.blk_free 6
            have o6 := o5.blk_set 6 (.int .i64 i)
            have f7 := o6.blk_free 7
            have O7 := Lib.hid (o6.blk_set 7 (.int .i64 i))
            have g1 := o0.blk_cell 1
            have g2 := o1.blk_cell 2
            have g3 := o2.blk_cell 3
            have g4 := o3.blk_cell 4
            have g5 := o4.blk_cell 5
            have g6 := o5.blk_cell 6
            have g7 := o6.blk_cell 7
            simp only [logA, List.getElem?_toArray, List.setIfInBounds_toArray, List.set_cons_zero, List.set_cons_succ, List.getElem?_cons_zero, List.getElem?_cons_succ] at g1 g2 g3 g4 g5 g6 g7
            clear o0 o1 o2 o3 o4 o5 o6 H
            go_enter Try.func71, Try.ntmps71
            go_upto_region 3 with (fail)
            clear c1 c2 c3 c4 c6 c7
            go_wp2
            go_ret
            refine ⟨rfl, Own.log_shut (x := ⟨i, t, [], i, i, i, i, i⟩) (v := .slice none 0 0) ?_⟩
            exact Own.swap (Own.ents_nil (O7.out.pick (L := [_, _]) [0]) 26)
end
end Go.Proofs.Ytepnkhiclgjmpaa
