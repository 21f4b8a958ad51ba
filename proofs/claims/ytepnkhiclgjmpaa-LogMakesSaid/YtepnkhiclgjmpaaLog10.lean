/-
  Compact and Restore.
  Conditions: the log is in order.
-/
import Derived.Test.YtepnkhiclgjmpaaLog9
import Derived.Test.YtepnkhiclgjmpaaAppOwn
import Derived.Test.YtepnkhiclgjmpaaRegionNeed
namespace Go.Proofs.Ytepnkhiclgjmpaa
set_option linter.unusedVariables false
set_option linter.unusedSimpArgs false
open Go.RowKit

theorem mdata_drop (L : List E) (ds : List Value) (k : Nat) : (mdata L ds).drop k = mdata (L.drop k) (ds.drop k) := by
  rw [mdata, mdata, List.drop_zipWith]
theorem Own.mdata_drop {S : Nat → Prop} {w0 w : World} {R : List SP} {L : List E} {ds : List Value} (k : Nat) (h : Own S w0 w (SP.stars (mdata L ds) :: R)) : Own S w0 w (SP.stars (mdata (L.drop k) (ds.drop k)) :: R) := by
  rw [← Ytepnkhiclgjmpaa.mdata_drop]
  have h1 := h
  rw [← List.take_append_drop k (mdata L ds)] at h1
  have h2 := (Own.flat (L := mdata L ds) (by rw [← List.take_append_drop k (mdata L ds)]; exact h1))
  rw [← List.take_append_drop k (mdata L ds), List.append_assoc] at h2
  exact (Own.drop_left h2).unflat
theorem Own.nil_data {S : Nat → Prop} {w0 w : World} {R : List SP} {A : SP} (h : Own S w0 w (A :: R)) : Own S w0 w (A :: SP.stars (mdata [] []) :: R) :=
  (h.add (B := SP.stars (mdata [] [])) trivial).swap
theorem compact_gone {x : Lg} {i : Int} (h : i < x.index) : x.compact i = (14, x) := by rw [Lg.compact, if_pos h]
theorem compact_far {x : Lg} {i : Int} (h : ¬ i < x.index) (h2 : x.ad < i) : x.compact i = (1, x) := by rw [Lg.compact, if_neg h, if_pos h2]
theorem compact_yes {x : Lg} {i : Int} (h : ¬ i < x.index) (h2 : ¬ x.ad < i) : x.compact i = (0, { x with L := x.L.drop (i - x.index).toNat, index := i, term := (x.at i).1 }) := by rw [Lg.compact, if_neg h, if_neg h2]

section
variable {S : Nat → Prop} {w0 w : World} {R : List SP} {g : Nat} {x : Lg}
set_option maxRecDepth 100000 in
set_option maxHeartbeats 6400000 in
theorem compact_own (hx : x.Ok) (h : Own S w0 w (SP.log 85 g x :: R)) (i : Int) (hi : In64 i) :
    Calls Try.prog 40 #[.pointer (some ⟨g, 0, none⟩), .int .i64 i] w fun e w' => e = .returned (.int .i64 (x.compact i).1) ∧ Own S w0 w' (SP.log 85 g (x.compact i).2 :: R) := by
  obtain ⟨A0, n0, -, -, -, -, c0, -, -, -, -, -, -, c7⟩ := h.log_cells
  by_cases h1 : i < x.index
  · rw [compact_gone h1]
    have H := Lib.hid h
    clear h
    go_enter Try.func40, Try.ntmps40
    go_wp2
    go_ret
    exact ⟨rfl, H.out⟩
  · by_cases h2 : x.ad < i
    · rw [compact_far h1 h2]
      have H := Lib.hid h
      clear h
      go_enter Try.func40, Try.ntmps40
      go_wp2
      go_ret
      exact ⟨rfl, H.out⟩
    · rw [compact_yes h1 h2]
      have hla : x.ad ≤ x.lastI := by have := hx.a1; have := hx.a2; have := hx.a3; omega
      have hTm := term_own hx.i0 (by have := hx.len; omega) h i hi
      obtain ⟨t, ht⟩ : ∃ t, (x.at i).1 = t := ⟨_, rfl⟩
      obtain ⟨er, her⟩ : ∃ er, (x.at i).2 = er := ⟨_, rfl⟩
      rw [ht, her] at hTm
      rw [ht]
      have HTm := Lib.hid hTm
      have hlen := hx.len
      have hx0 := hx.i0
      have hx1 := hx.last
      rw [maxI_eq] at hx1
      clear h ht her hTm
      obtain ⟨b, tb, L, h', s', c', p', a'⟩ := x
      unfold Lg.lastI at hla hx1
      simp only at *
      obtain ⟨k, hk⟩ : ∃ k : Nat, i - b = (k : Int) := ⟨(i - b).toNat, by omega⟩
      have hik : i = b + (k : Int) := by omega
      have hkL : k ≤ L.length := by omega
      rw [show (i - b).toNat = k by omega]
      obtain ⟨n, hn⟩ : ∃ n, L.length = n := ⟨_, rfl⟩
      rw [hn] at hlen hkL hla hx1
      have HNL := Lib.hid hn
      have wk : IntKind.i64.wrap (i - b) = (k : Int) := by rw [IntWalk.i64_in _ (by omega)]; omega
      clear hn hik hk
      go_enter Try.func40, Try.ntmps40
      go_wp2_with fail
      refine (HTm.out).mono ?_
      rintro e w1 ⟨rfl, o1⟩
      obtain ⟨A, c, hc1, hc2, o2, -, d0, -, d2, -, -, -, -, -⟩ := o1.log_cells
      simp only at hc1 o2 d0 d2
      rw [HNL.out] at hc1 o2 d2
      obtain ⟨A9, c9, ds, z, hds, -, -, o3⟩ := o2.swap.ents_open
      rw [HNL.out] at z o3
      cases z
      have q1 : (k : Int) ≤ (n : Int) := by omega
      have q2 : (0 : Int) ≤ (k : Int) := by omega
      have q3 : (n : Int) ≤ (c : Int) := by omega
      have hrl := mrow_length hds
      rw [HNL.out] at hrl
      have HDK := Lib.hid (show (ds.drop k).length = (L.drop k).length ∧ (L.drop k).length = n - k from ⟨by rw [List.length_drop, List.length_drop, hds], by rw [List.length_drop, HNL.out]⟩)
      have HON := Lib.hid (show ∀ u ∈ mrow (L.drop k) (ds.drop k), u.oneCell' = true from fun u hu => mrow_one u hu (fun d hd => Own.mdata_one hds (o3.pick (L := [_, _]) [1]) d (List.mem_of_mem_drop hd)))
      unfold maxLen at hc2
      have o4 := ((o3.pick (L := [_, _, _]) [2, 0, 1]).drew.add (B := SP.row 26 4 (.slice none 0 0) []) (SP.row_nil _ _ _ _))
      have O3 := Lib.hid o4
      cases A with
      | none =>
        obtain ⟨rfl, rfl, hnil⟩ := o3.row_none
        obtain rfl : k = 0 := by omega
        have HDN := Lib.hid (show L.drop 0 = [] from List.drop_eq_nil_of_le (by rw [HNL.out]; exact Nat.le_refl _))
        clear o1 o2 o3 o4 hrl hnil hds HTm c0 c7
        go_upto_region 6 with (fail)
        have HSF := Lib.hid (fun (W : World) (R' : List SP) (o : Own S w0 W (SP.blk g 85 (logA ⟨b, tb, L, h', s', c', p', a'⟩ (.slice none 0 0)) :: R')) => show W.cell? ⟨g, 2, none⟩ = some (.slice none 0 0) ∧ W.cell? ⟨g, 0, none⟩ = some (.int .i64 b) from ⟨o.blk_cell 2, o.blk_cell 0⟩)
        have HS := Lib.hid (HSF.out _ _ (O3.out.pick (L := [_, _]) [1]))
        refine wp_region_need (fun W => W.cell? ⟨g, 2, none⟩ = some (.slice none 0 0) ∧ W.cell? ⟨g, 0, none⟩ = some (.int .i64 b)) (fun j => decide (j < 13)) (by kernel_rfl) ?_
        obtain ⟨W0, hW0⟩ : ∃ W0, w1.drew = W0 := ⟨_, rfl⟩
        rw [hW0] at O3 HS ⊢
        try rw [hW0] at HRD
        clear hW0
        refine wpAnyN_take (i := 0) (v := ?va0) (by simp only [List.getElem?_toArray, List.getElem?_cons_succ, List.getElem?_cons_zero]; rfl) (by kernel_rfl) (by intro _ _ _ h; exact h) (Or.inl ⟨by rfl, ?ya0⟩) HS.out ?ra0
        case ya0 =>
          intro W hSW
          try dsimp only at hSW
          obtain ⟨s0, s1⟩ := hSW
          go_simp
          try with_reducible rfl
        simp only [Act.put, List.setIfInBounds_toArray, List.set_cons_zero, List.set_cons_succ]
        refine wpAnyN_take (i := 1) (v := ?va1) (by simp only [List.getElem?_toArray, List.getElem?_cons_succ, List.getElem?_cons_zero]; rfl) (by kernel_rfl) (by intro _ _ _ h; exact h) (Or.inl ⟨by rfl, ?ya1⟩) HS.out ?ra1
        case ya1 =>
          intro W hSW
          try dsimp only at hSW
          obtain ⟨s0, s1⟩ := hSW
          go_simp
          try with_reducible rfl
        simp only [Act.put, List.setIfInBounds_toArray, List.set_cons_zero, List.set_cons_succ]
        refine wpAnyN_take (i := 2) (v := ?va2) (by simp only [List.getElem?_toArray, List.getElem?_cons_succ, List.getElem?_cons_zero]; rfl) (by kernel_rfl) (by intro _ _ _ h; exact h) (Or.inl ⟨by rfl, ?ya2⟩) HS.out ?ra2
        case ya2 =>
          intro W hSW
          try dsimp only at hSW
          obtain ⟨s0, s1⟩ := hSW
          go_simp
          try with_reducible rfl
        simp only [Act.put, List.setIfInBounds_toArray, List.set_cons_zero, List.set_cons_succ]
        refine wpAnyN_take (i := 3) (v := ?va3) (by simp only [List.getElem?_toArray, List.getElem?_cons_succ, List.getElem?_cons_zero]; rfl) (by kernel_rfl) (by intro _ _ _ h; exact h) (Or.inl ⟨by rfl, ?ya3⟩) HS.out ?ra3
        case ya3 =>
          intro W hSW
          try dsimp only at hSW
          obtain ⟨s0, s1⟩ := hSW
          go_simp
          try with_reducible rfl
        simp only [Act.put, List.setIfInBounds_toArray, List.set_cons_zero, List.set_cons_succ]
        refine wpAnyN_take (i := 4) (v := ?va4) (by simp only [List.getElem?_toArray, List.getElem?_cons_succ, List.getElem?_cons_zero]; rfl) (by kernel_rfl) (by intro _ _ _ h; exact h) (Or.inl ⟨by rfl, ?ya4⟩) HS.out ?ra4
        case ya4 =>
          intro W hSW
          try dsimp only at hSW
          obtain ⟨s0, s1⟩ := hSW
          go_simp
          try with_reducible rfl
        simp only [Act.put, List.setIfInBounds_toArray, List.set_cons_zero, List.set_cons_succ]
        refine wpAnyN_take (i := 5) (v := ?va5) (by simp only [List.getElem?_toArray, List.getElem?_cons_succ, List.getElem?_cons_zero]; rfl) (by kernel_rfl) (by intro _ _ _ h; exact h) (Or.inl ⟨by rfl, ?ya5⟩) HS.out ?ra5
        case ya5 =>
          intro W hSW
          try dsimp only at hSW
          obtain ⟨s0, s1⟩ := hSW
          go_simp
          try with_reducible rfl
        simp only [Act.put, List.setIfInBounds_toArray, List.set_cons_zero, List.set_cons_succ]
        refine wpAnyN_take (i := 6) (v := ?va6) (by simp only [List.getElem?_toArray, List.getElem?_cons_succ, List.getElem?_cons_zero]; rfl) (by kernel_rfl) (by intro _ _ _ h; exact h) (Or.inl ⟨by rfl, ?ya6⟩) HS.out ?ra6
        case ya6 =>
          intro W hSW
          try dsimp only at hSW
          obtain ⟨s0, s1⟩ := hSW
          go_simp
          try with_reducible rfl
        simp only [Act.put, List.setIfInBounds_toArray, List.set_cons_zero, List.set_cons_succ]
        refine wpAnyN_take (i := 7) (v := ?va7) (by simp only [List.getElem?_toArray, List.getElem?_cons_succ, List.getElem?_cons_zero]; rfl) (by kernel_rfl) (by intro _ _ _ h; exact h) (Or.inl ⟨by rfl, ?ya7⟩) HS.out ?ra7
        case ya7 =>
          intro W hSW
          try dsimp only at hSW
          obtain ⟨s0, s1⟩ := hSW
          go_simp
          try with_reducible rfl
        simp only [Act.put, List.setIfInBounds_toArray, List.set_cons_zero, List.set_cons_succ]
        refine wpAnyN_take (i := 8) (v := ?va8) (by simp only [List.getElem?_toArray, List.getElem?_cons_succ, List.getElem?_cons_zero]; rfl) (by kernel_rfl) (by intro _ _ _ h; exact h) (Or.inl ⟨by rfl, ?ya8⟩) HS.out ?ra8
        case ya8 =>
          intro W hSW
          try dsimp only at hSW
          obtain ⟨s0, s1⟩ := hSW
          go_simp
          try with_reducible rfl
        simp only [Act.put, List.setIfInBounds_toArray, List.set_cons_zero, List.set_cons_succ]
        refine wpAnyN_take (i := 9) (v := ?va9) (by simp only [List.getElem?_toArray, List.getElem?_cons_succ, List.getElem?_cons_zero]; rfl) (by kernel_rfl) (by intro _ _ _ h; exact h) (Or.inl ⟨by rfl, ?ya9⟩) HS.out ?ra9
        case ya9 =>
          intro W hSW
          try dsimp only at hSW
          obtain ⟨s0, s1⟩ := hSW
          go_simp
          try with_reducible rfl
        simp only [Act.put, List.setIfInBounds_toArray, List.set_cons_zero, List.set_cons_succ]
        refine wpAnyN_take (i := 10) (v := ?va10) (by simp only [List.getElem?_toArray, List.getElem?_cons_succ, List.getElem?_cons_zero]; rfl) (by kernel_rfl) (by intro _ _ _ h; exact h) (Or.inl ⟨by rfl, ?ya10⟩) HS.out ?ra10
        case ya10 =>
          intro W hSW
          try dsimp only at hSW
          obtain ⟨s0, s1⟩ := hSW
          go_simp
          try with_reducible rfl
        simp only [Act.put, List.setIfInBounds_toArray, List.set_cons_zero, List.set_cons_succ]
        refine wpAnyN_take (i := 11) (v := ?va11) (by simp only [List.getElem?_toArray, List.getElem?_cons_succ, List.getElem?_cons_zero]; rfl) (by kernel_rfl) (by intro _ _ _ h; exact h) (Or.inl ⟨by rfl, ?ya11⟩) HS.out ?ra11
        case ya11 =>
          intro W hSW
          try dsimp only at hSW
          obtain ⟨s0, s1⟩ := hSW
          go_simp
          try with_reducible rfl
        simp only [Act.put, List.setIfInBounds_toArray, List.set_cons_zero, List.set_cons_succ]
        refine wpAnyN_one (i := 12) (by kernel_rfl) (by simp only [List.getElem?_toArray, List.getElem?_cons_succ, List.getElem?_cons_zero]; rfl) (fun K hK => ?_)
        refine step_append_move rfl (.const (.slice none 0 0)) (.tmp 37) 23 rfl 26 entZero 4 48 Try.underlying23 Try.info26 entZero_size (by decide) (by rfl) rfl O3.out (Below.refl _ _) none 0 0 [] (by first | rfl | simp [Act.eval]) rfl (Rd.nil _ _) (by simp) (by unfold maxLen; omega) (by omega) ?_
        rintro A5 c5 w5 o5
        rw [Nat.zero_add, List.nil_append] at o5
        simp only [Nat.zero_add]
        refine hK _ _ ⟨fun _ => HSF.out _ _ (o5.pick (L := [_, _]) [1]), ?_⟩
        clear hK K HS
        try simp only [Act.put, List.setIfInBounds_toArray, List.set_cons_zero, List.set_cons_succ]
        have d2 := (o5.pick (L := [_, _]) [1]).blk_cell 2
        have f2 := (o5.pick (L := [_, _]) [1]).blk_free 2
        have o6 := (o5.pick (L := [_, _, _, _]) [1, 0, 3]).blk_set 2 (.slice A5 0 c5)
        have f0 := o6.blk_free 0
        have o7 := o6.blk_set 0 (.int .i64 i)
        have f1 := o7.blk_free 1
        have O8 := Lib.hid (o7.blk_set 1 (.int .i64 t))
        have d0 := o6.blk_cell 0
        have d1 := o7.blk_cell 1
        simp only [logA, List.getElem?_toArray, List.setIfInBounds_toArray, List.set_cons_zero, List.set_cons_succ, List.getElem?_cons_zero, List.getElem?_cons_succ] at d0 d1 d2
        clear o5 o6 o7 O3
        refine wpAnyN_one (i := 13) (by kernel_rfl) (by simp only [List.getElem?_toArray, List.getElem?_cons_succ, List.getElem?_cons_zero]; rfl) (fun K hK => ?_)
        go_simp
        refine hK _ _ ⟨fun h => (by cases h), ?_⟩
        clear hK K
        try simp only [Act.put, List.setIfInBounds_toArray, List.set_cons_zero, List.set_cons_succ]
        refine wpAnyN_one (i := 14) (by kernel_rfl) (by simp only [List.getElem?_toArray, List.getElem?_cons_succ, List.getElem?_cons_zero]; rfl) (fun K hK => ?_)
        go_simp
        refine hK _ _ ⟨fun h => (by cases h), ?_⟩
        clear hK K
        try simp only [Act.put, List.setIfInBounds_toArray, List.set_cons_zero, List.set_cons_succ]
        refine wpAnyN_one (i := 15) (by kernel_rfl) (by simp only [List.getElem?_toArray, List.getElem?_cons_succ, List.getElem?_cons_zero]; rfl) (fun K hK => ?_)
        go_simp
        refine hK _ _ ⟨fun h => (by cases h), ?_⟩
        clear hK K
        try simp only [Act.put, List.setIfInBounds_toArray, List.set_cons_zero, List.set_cons_succ]
        refine wpAnyN_done (by kernel_rfl) ?_ _
        go_wp2
        go_ret
        refine ⟨rfl, ?_⟩
        have o9 := O8.out
        rw [HDN.out]
        exact Own.log_shut (x := ⟨i, t, [], h', s', c', p', a'⟩) (v := .slice A5 0 c5) (Own.swap (Own.ents_shut (ds := []) rfl (o9.pick (L := [_, _, _]) [1, 0] |>.nil_data)))
      | some ad =>
        obtain ⟨gb, off, e1⟩ : ∃ gb off, ad = ⟨gb, off, none⟩ := by
          rcases o3.row_addr with ⟨h, _⟩ | ⟨gb, off, _, _, h⟩
          · cases h
          · cases h; exact ⟨gb, off, rfl⟩
        subst e1
        by_cases hck : c = k
        · subst hck
          obtain rfl : n = c := by omega
          have HDN := Lib.hid (show L.drop n = [] from List.drop_eq_nil_of_le (by rw [HNL.out]; exact Nat.le_refl _))
          clear o1 o2 o3 o4 hrl hds HTm c0 c7
          go_upto_region 6 with (fail)
          have HSF := Lib.hid (fun (W : World) (R' : List SP) (o : Own S w0 W (SP.blk g 85 (logA ⟨b, tb, L, h', s', c', p', a'⟩ (.slice (some ⟨gb, off, none⟩) n n)) :: R')) => show W.cell? ⟨g, 2, none⟩ = some (.slice (some ⟨gb, off, none⟩) n n) ∧ W.cell? ⟨g, 0, none⟩ = some (.int .i64 b) from ⟨o.blk_cell 2, o.blk_cell 0⟩)
          have HS := Lib.hid (HSF.out _ _ (O3.out.pick (L := [_, _]) [1]))
          refine wp_region_need (fun W => W.cell? ⟨g, 2, none⟩ = some (.slice (some ⟨gb, off, none⟩) n n) ∧ W.cell? ⟨g, 0, none⟩ = some (.int .i64 b)) (fun j => decide (j < 13)) (by kernel_rfl) ?_
          obtain ⟨W0, hW0⟩ : ∃ W0, w1.drew = W0 := ⟨_, rfl⟩
          rw [hW0] at O3 HS ⊢
          try rw [hW0] at HRD
          clear hW0
          refine wpAnyN_take (i := 0) (v := ?vb0) (by simp only [List.getElem?_toArray, List.getElem?_cons_succ, List.getElem?_cons_zero]; rfl) (by kernel_rfl) (by intro _ _ _ h; exact h) (Or.inl ⟨by rfl, ?yb0⟩) HS.out ?rb0
          case yb0 =>
            intro W hSW
            try dsimp only at hSW
            obtain ⟨s0, s1⟩ := hSW
            go_simp
            try with_reducible rfl
          simp only [Act.put, List.setIfInBounds_toArray, List.set_cons_zero, List.set_cons_succ]
          refine wpAnyN_take (i := 1) (v := ?vb1) (by simp only [List.getElem?_toArray, List.getElem?_cons_succ, List.getElem?_cons_zero]; rfl) (by kernel_rfl) (by intro _ _ _ h; exact h) (Or.inl ⟨by rfl, ?yb1⟩) HS.out ?rb1
          case yb1 =>
            intro W hSW
            try dsimp only at hSW
            obtain ⟨s0, s1⟩ := hSW
            go_simp
            try with_reducible rfl
          simp only [Act.put, List.setIfInBounds_toArray, List.set_cons_zero, List.set_cons_succ]
          refine wpAnyN_take (i := 2) (v := ?vb2) (by simp only [List.getElem?_toArray, List.getElem?_cons_succ, List.getElem?_cons_zero]; rfl) (by kernel_rfl) (by intro _ _ _ h; exact h) (Or.inl ⟨by rfl, ?yb2⟩) HS.out ?rb2
          case yb2 =>
            intro W hSW
            try dsimp only at hSW
            obtain ⟨s0, s1⟩ := hSW
            go_simp
            try with_reducible rfl
          simp only [Act.put, List.setIfInBounds_toArray, List.set_cons_zero, List.set_cons_succ]
          refine wpAnyN_take (i := 3) (v := ?vb3) (by simp only [List.getElem?_toArray, List.getElem?_cons_succ, List.getElem?_cons_zero]; rfl) (by kernel_rfl) (by intro _ _ _ h; exact h) (Or.inl ⟨by rfl, ?yb3⟩) HS.out ?rb3
          case yb3 =>
            intro W hSW
            try dsimp only at hSW
            obtain ⟨s0, s1⟩ := hSW
            go_simp
            try with_reducible rfl
          simp only [Act.put, List.setIfInBounds_toArray, List.set_cons_zero, List.set_cons_succ]
          refine wpAnyN_take (i := 4) (v := ?vb4) (by simp only [List.getElem?_toArray, List.getElem?_cons_succ, List.getElem?_cons_zero]; rfl) (by kernel_rfl) (by intro _ _ _ h; exact h) (Or.inl ⟨by rfl, ?yb4⟩) HS.out ?rb4
          case yb4 =>
            intro W hSW
            try dsimp only at hSW
            obtain ⟨s0, s1⟩ := hSW
            go_simp
            try with_reducible rfl
          simp only [Act.put, List.setIfInBounds_toArray, List.set_cons_zero, List.set_cons_succ]
          refine wpAnyN_take (i := 5) (v := ?vb5) (by simp only [List.getElem?_toArray, List.getElem?_cons_succ, List.getElem?_cons_zero]; rfl) (by kernel_rfl) (by intro _ _ _ h; exact h) (Or.inl ⟨by rfl, ?yb5⟩) HS.out ?rb5
          case yb5 =>
            intro W hSW
            try dsimp only at hSW
            obtain ⟨s0, s1⟩ := hSW
            go_simp
            try with_reducible rfl
          simp only [Act.put, List.setIfInBounds_toArray, List.set_cons_zero, List.set_cons_succ]
          refine wpAnyN_take (i := 6) (v := ?vb6) (by simp only [List.getElem?_toArray, List.getElem?_cons_succ, List.getElem?_cons_zero]; rfl) (by kernel_rfl) (by intro _ _ _ h; exact h) (Or.inl ⟨by rfl, ?yb6⟩) HS.out ?rb6
          case yb6 =>
            intro W hSW
            try dsimp only at hSW
            obtain ⟨s0, s1⟩ := hSW
            go_simp
            try with_reducible rfl
          simp only [Act.put, List.setIfInBounds_toArray, List.set_cons_zero, List.set_cons_succ]
          refine wpAnyN_take (i := 7) (v := ?vb7) (by simp only [List.getElem?_toArray, List.getElem?_cons_succ, List.getElem?_cons_zero]; rfl) (by kernel_rfl) (by intro _ _ _ h; exact h) (Or.inl ⟨by rfl, ?yb7⟩) HS.out ?rb7
          case yb7 =>
            intro W hSW
            try dsimp only at hSW
            obtain ⟨s0, s1⟩ := hSW
            go_simp
            try with_reducible rfl
          simp only [Act.put, List.setIfInBounds_toArray, List.set_cons_zero, List.set_cons_succ]
          refine wpAnyN_take (i := 8) (v := ?vb8) (by simp only [List.getElem?_toArray, List.getElem?_cons_succ, List.getElem?_cons_zero]; rfl) (by kernel_rfl) (by intro _ _ _ h; exact h) (Or.inl ⟨by rfl, ?yb8⟩) HS.out ?rb8
          case yb8 =>
            intro W hSW
            try dsimp only at hSW
            obtain ⟨s0, s1⟩ := hSW
            go_simp
            try with_reducible rfl
          simp only [Act.put, List.setIfInBounds_toArray, List.set_cons_zero, List.set_cons_succ]
          refine wpAnyN_take (i := 9) (v := ?vb9) (by simp only [List.getElem?_toArray, List.getElem?_cons_succ, List.getElem?_cons_zero]; rfl) (by kernel_rfl) (by intro _ _ _ h; exact h) (Or.inl ⟨by rfl, ?yb9⟩) HS.out ?rb9
          case yb9 =>
            intro W hSW
            try dsimp only at hSW
            obtain ⟨s0, s1⟩ := hSW
            go_simp
            try with_reducible rfl
          simp only [Act.put, List.setIfInBounds_toArray, List.set_cons_zero, List.set_cons_succ]
          refine wpAnyN_take (i := 10) (v := ?vb10) (by simp only [List.getElem?_toArray, List.getElem?_cons_succ, List.getElem?_cons_zero]; rfl) (by kernel_rfl) (by intro _ _ _ h; exact h) (Or.inl ⟨by rfl, ?yb10⟩) HS.out ?rb10
          case yb10 =>
            intro W hSW
            try dsimp only at hSW
            obtain ⟨s0, s1⟩ := hSW
            go_simp
            try with_reducible rfl
          simp only [Act.put, List.setIfInBounds_toArray, List.set_cons_zero, List.set_cons_succ]
          refine wpAnyN_take (i := 11) (v := ?vb11) (by simp only [List.getElem?_toArray, List.getElem?_cons_succ, List.getElem?_cons_zero]; rfl) (by kernel_rfl) (by intro _ _ _ h; exact h) (Or.inl ⟨by rfl, ?yb11⟩) HS.out ?rb11
          case yb11 =>
            intro W hSW
            try dsimp only at hSW
            obtain ⟨s0, s1⟩ := hSW
            go_simp
            try with_reducible rfl
          simp only [Act.put, List.setIfInBounds_toArray, List.set_cons_zero, List.set_cons_succ]
          refine wpAnyN_one (i := 12) (by kernel_rfl) (by simp only [List.getElem?_toArray, List.getElem?_cons_succ, List.getElem?_cons_zero]; rfl) (fun K hK => ?_)
          refine step_append_move rfl (.const (.slice none 0 0)) (.tmp 37) 23 rfl 26 entZero 4 48 Try.underlying23 Try.info26 entZero_size (by decide) (by rfl) rfl O3.out (Below.refl _ _) (some ⟨gb, off, none⟩) 0 0 [] (by first | rfl | simp [Act.eval]) rfl (Rd.nil _ _) (by simp) (by unfold maxLen; omega) (by omega) ?_
          rintro A5 c5 w5 o5
          rw [Nat.zero_add, List.nil_append] at o5
          simp only [Nat.zero_add]
          refine hK _ _ ⟨fun _ => HSF.out _ _ (o5.pick (L := [_, _]) [1]), ?_⟩
          clear hK K HS
          try simp only [Act.put, List.setIfInBounds_toArray, List.set_cons_zero, List.set_cons_succ]
          have d2 := (o5.pick (L := [_, _]) [1]).blk_cell 2
          have f2 := (o5.pick (L := [_, _]) [1]).blk_free 2
          have o6 := (o5.pick (L := [_, _, _, _]) [1, 0, 3]).blk_set 2 (.slice A5 0 c5)
          have f0 := o6.blk_free 0
          have o7 := o6.blk_set 0 (.int .i64 i)
          have f1 := o7.blk_free 1
          have O8 := Lib.hid (o7.blk_set 1 (.int .i64 t))
          have d0 := o6.blk_cell 0
          have d1 := o7.blk_cell 1
          simp only [logA, List.getElem?_toArray, List.setIfInBounds_toArray, List.set_cons_zero, List.set_cons_succ, List.getElem?_cons_zero, List.getElem?_cons_succ] at d0 d1 d2
          clear o5 o6 o7 O3
          refine wpAnyN_one (i := 13) (by kernel_rfl) (by simp only [List.getElem?_toArray, List.getElem?_cons_succ, List.getElem?_cons_zero]; rfl) (fun K hK => ?_)
          go_simp
          refine hK _ _ ⟨fun h => (by cases h), ?_⟩
          clear hK K
          try simp only [Act.put, List.setIfInBounds_toArray, List.set_cons_zero, List.set_cons_succ]
          refine wpAnyN_one (i := 14) (by kernel_rfl) (by simp only [List.getElem?_toArray, List.getElem?_cons_succ, List.getElem?_cons_zero]; rfl) (fun K hK => ?_)
          go_simp
          refine hK _ _ ⟨fun h => (by cases h), ?_⟩
          clear hK K
          try simp only [Act.put, List.setIfInBounds_toArray, List.set_cons_zero, List.set_cons_succ]
          refine wpAnyN_one (i := 15) (by kernel_rfl) (by simp only [List.getElem?_toArray, List.getElem?_cons_succ, List.getElem?_cons_zero]; rfl) (fun K hK => ?_)
          go_simp
          refine hK _ _ ⟨fun h => (by cases h), ?_⟩
          clear hK K
          try simp only [Act.put, List.setIfInBounds_toArray, List.set_cons_zero, List.set_cons_succ]
          refine wpAnyN_done (by kernel_rfl) ?_ _
          go_wp2
          go_ret
          refine ⟨rfl, ?_⟩
          have o9 := O8.out
          rw [HDN.out]
          exact Own.log_shut (x := ⟨i, t, [], h', s', c', p', a'⟩) (v := .slice A5 0 c5) (Own.swap (Own.ents_shut (ds := []) rfl (o9.pick (L := [_, _, _]) [1, 0] |>.nil_data)))
        · have HRD := Lib.hid (show Rd w1.drew (some ⟨gb, off + k * 4, none⟩) (mrow (L.drop k) (ds.drop k)) from by
            have := (o3.cutRow hkL hc1 hrl).rd
            rw [if_neg hck, mrow_drop] at this
            exact this)
          clear o1 o2 o3 o4 hrl hds HTm c0 c7
          go_upto_region 6 with (fail)
          have HSF := Lib.hid (fun (W : World) (R' : List SP) (o : Own S w0 W (SP.blk g 85 (logA ⟨b, tb, L, h', s', c', p', a'⟩ (.slice (some ⟨gb, off, none⟩) n c)) :: R')) => show W.cell? ⟨g, 2, none⟩ = some (.slice (some ⟨gb, off, none⟩) n c) ∧ W.cell? ⟨g, 0, none⟩ = some (.int .i64 b) from ⟨o.blk_cell 2, o.blk_cell 0⟩)
          have HS := Lib.hid (HSF.out _ _ (O3.out.pick (L := [_, _]) [1]))
          refine wp_region_need (fun W => W.cell? ⟨g, 2, none⟩ = some (.slice (some ⟨gb, off, none⟩) n c) ∧ W.cell? ⟨g, 0, none⟩ = some (.int .i64 b)) (fun j => decide (j < 13)) (by kernel_rfl) ?_
          obtain ⟨W0, hW0⟩ : ∃ W0, w1.drew = W0 := ⟨_, rfl⟩
          rw [hW0] at O3 HS ⊢
          try rw [hW0] at HRD
          clear hW0
          refine wpAnyN_take (i := 0) (v := ?vc0) (by simp only [List.getElem?_toArray, List.getElem?_cons_succ, List.getElem?_cons_zero]; rfl) (by kernel_rfl) (by intro _ _ _ h; exact h) (Or.inl ⟨by rfl, ?yc0⟩) HS.out ?rc0
          case yc0 =>
            intro W hSW
            try dsimp only at hSW
            obtain ⟨s0, s1⟩ := hSW
            go_simp
            try with_reducible rfl
          simp only [Act.put, List.setIfInBounds_toArray, List.set_cons_zero, List.set_cons_succ]
          refine wpAnyN_take (i := 1) (v := ?vc1) (by simp only [List.getElem?_toArray, List.getElem?_cons_succ, List.getElem?_cons_zero]; rfl) (by kernel_rfl) (by intro _ _ _ h; exact h) (Or.inl ⟨by rfl, ?yc1⟩) HS.out ?rc1
          case yc1 =>
            intro W hSW
            try dsimp only at hSW
            obtain ⟨s0, s1⟩ := hSW
            go_simp
            try with_reducible rfl
          simp only [Act.put, List.setIfInBounds_toArray, List.set_cons_zero, List.set_cons_succ]
          refine wpAnyN_take (i := 2) (v := ?vc2) (by simp only [List.getElem?_toArray, List.getElem?_cons_succ, List.getElem?_cons_zero]; rfl) (by kernel_rfl) (by intro _ _ _ h; exact h) (Or.inl ⟨by rfl, ?yc2⟩) HS.out ?rc2
          case yc2 =>
            intro W hSW
            try dsimp only at hSW
            obtain ⟨s0, s1⟩ := hSW
            go_simp
            try with_reducible rfl
          simp only [Act.put, List.setIfInBounds_toArray, List.set_cons_zero, List.set_cons_succ]
          refine wpAnyN_take (i := 3) (v := ?vc3) (by simp only [List.getElem?_toArray, List.getElem?_cons_succ, List.getElem?_cons_zero]; rfl) (by kernel_rfl) (by intro _ _ _ h; exact h) (Or.inl ⟨by rfl, ?yc3⟩) HS.out ?rc3
          case yc3 =>
            intro W hSW
            try dsimp only at hSW
            obtain ⟨s0, s1⟩ := hSW
            go_simp
            try with_reducible rfl
          simp only [Act.put, List.setIfInBounds_toArray, List.set_cons_zero, List.set_cons_succ]
          refine wpAnyN_take (i := 4) (v := ?vc4) (by simp only [List.getElem?_toArray, List.getElem?_cons_succ, List.getElem?_cons_zero]; rfl) (by kernel_rfl) (by intro _ _ _ h; exact h) (Or.inl ⟨by rfl, ?yc4⟩) HS.out ?rc4
          case yc4 =>
            intro W hSW
            try dsimp only at hSW
            obtain ⟨s0, s1⟩ := hSW
            go_simp
            try with_reducible rfl
          simp only [Act.put, List.setIfInBounds_toArray, List.set_cons_zero, List.set_cons_succ]
          refine wpAnyN_take (i := 5) (v := ?vc5) (by simp only [List.getElem?_toArray, List.getElem?_cons_succ, List.getElem?_cons_zero]; rfl) (by kernel_rfl) (by intro _ _ _ h; exact h) (Or.inl ⟨by rfl, ?yc5⟩) HS.out ?rc5
          case yc5 =>
            intro W hSW
            try dsimp only at hSW
            obtain ⟨s0, s1⟩ := hSW
            go_simp
            try with_reducible rfl
          simp only [Act.put, List.setIfInBounds_toArray, List.set_cons_zero, List.set_cons_succ]
          refine wpAnyN_take (i := 6) (v := ?vc6) (by simp only [List.getElem?_toArray, List.getElem?_cons_succ, List.getElem?_cons_zero]; rfl) (by kernel_rfl) (by intro _ _ _ h; exact h) (Or.inl ⟨by rfl, ?yc6⟩) HS.out ?rc6
          case yc6 =>
            intro W hSW
            try dsimp only at hSW
            obtain ⟨s0, s1⟩ := hSW
            go_simp
            try with_reducible rfl
          simp only [Act.put, List.setIfInBounds_toArray, List.set_cons_zero, List.set_cons_succ]
          refine wpAnyN_take (i := 7) (v := ?vc7) (by simp only [List.getElem?_toArray, List.getElem?_cons_succ, List.getElem?_cons_zero]; rfl) (by kernel_rfl) (by intro _ _ _ h; exact h) (Or.inl ⟨by rfl, ?yc7⟩) HS.out ?rc7
          case yc7 =>
            intro W hSW
            try dsimp only at hSW
            obtain ⟨s0, s1⟩ := hSW
            go_simp
            try with_reducible rfl
          simp only [Act.put, List.setIfInBounds_toArray, List.set_cons_zero, List.set_cons_succ]
          refine wpAnyN_take (i := 8) (v := ?vc8) (by simp only [List.getElem?_toArray, List.getElem?_cons_succ, List.getElem?_cons_zero]; rfl) (by kernel_rfl) (by intro _ _ _ h; exact h) (Or.inl ⟨by rfl, ?yc8⟩) HS.out ?rc8
          case yc8 =>
            intro W hSW
            try dsimp only at hSW
            obtain ⟨s0, s1⟩ := hSW
            go_simp
            try with_reducible rfl
          simp only [Act.put, List.setIfInBounds_toArray, List.set_cons_zero, List.set_cons_succ]
          refine wpAnyN_take (i := 9) (v := ?vc9) (by simp only [List.getElem?_toArray, List.getElem?_cons_succ, List.getElem?_cons_zero]; rfl) (by kernel_rfl) (by intro _ _ _ h; exact h) (Or.inl ⟨by rfl, ?yc9⟩) HS.out ?rc9
          case yc9 =>
            intro W hSW
            try dsimp only at hSW
            obtain ⟨s0, s1⟩ := hSW
            go_simp
            try with_reducible rfl
          simp only [Act.put, List.setIfInBounds_toArray, List.set_cons_zero, List.set_cons_succ]
          refine wpAnyN_take (i := 10) (v := ?vc10) (by simp only [List.getElem?_toArray, List.getElem?_cons_succ, List.getElem?_cons_zero]; rfl) (by kernel_rfl) (by intro _ _ _ h; exact h) (Or.inl ⟨by rfl, ?yc10⟩) HS.out ?rc10
          case yc10 =>
            intro W hSW
            try dsimp only at hSW
            obtain ⟨s0, s1⟩ := hSW
            go_simp
            try with_reducible rfl
          simp only [Act.put, List.setIfInBounds_toArray, List.set_cons_zero, List.set_cons_succ]
          refine wpAnyN_take (i := 11) (v := ?vc11) (by simp only [List.getElem?_toArray, List.getElem?_cons_succ, List.getElem?_cons_zero]; rfl) (by kernel_rfl) (by intro _ _ _ h; exact h) (Or.inl ⟨by rfl, ?yc11⟩) HS.out ?rc11
          case yc11 =>
            intro W hSW
            try dsimp only at hSW
            obtain ⟨s0, s1⟩ := hSW
            go_simp
            try with_reducible rfl
          simp only [Act.put, List.setIfInBounds_toArray, List.set_cons_zero, List.set_cons_succ]
          refine wpAnyN_one (i := 12) (by kernel_rfl) (by simp only [List.getElem?_toArray, List.getElem?_cons_succ, List.getElem?_cons_zero]; rfl) (fun K hK => ?_)
          refine step_append_move rfl (.const (.slice none 0 0)) (.tmp 37) 23 rfl 26 entZero 4 48 Try.underlying23 Try.info26 entZero_size (by decide) (by rfl) rfl O3.out (Below.refl _ _) (some ⟨gb, off + k * 4, none⟩) (n - k) (c - k) (mrow (L.drop k) (ds.drop k)) (by first | rfl | simp [Act.eval]) (by rw [mrow_length HDK.out.1, HDK.out.2]) HRD.out HON.out (by unfold maxLen; omega) (by omega) ?_
          rintro A5 c5 w5 o5
          rw [Nat.zero_add, List.nil_append] at o5
          simp only [Nat.zero_add]
          refine hK _ _ ⟨fun _ => HSF.out _ _ (o5.pick (L := [_, _]) [1]), ?_⟩
          clear hK K HS
          try simp only [Act.put, List.setIfInBounds_toArray, List.set_cons_zero, List.set_cons_succ]
          have d2 := (o5.pick (L := [_, _]) [1]).blk_cell 2
          have f2 := (o5.pick (L := [_, _]) [1]).blk_free 2
          have o6 := (o5.pick (L := [_, _, _, _]) [1, 0, 3]).blk_set 2 (.slice A5 (n - k) c5)
          have f0 := o6.blk_free 0
          have o7 := o6.blk_set 0 (.int .i64 i)
          have f1 := o7.blk_free 1
          have O8 := Lib.hid (o7.blk_set 1 (.int .i64 t))
          have d0 := o6.blk_cell 0
          have d1 := o7.blk_cell 1
          simp only [logA, List.getElem?_toArray, List.setIfInBounds_toArray, List.set_cons_zero, List.set_cons_succ, List.getElem?_cons_zero, List.getElem?_cons_succ] at d0 d1 d2
          clear o5 o6 o7 O3
          refine wpAnyN_one (i := 13) (by kernel_rfl) (by simp only [List.getElem?_toArray, List.getElem?_cons_succ, List.getElem?_cons_zero]; rfl) (fun K hK => ?_)
          go_simp
          refine hK _ _ ⟨fun h => (by cases h), ?_⟩
          clear hK K
          try simp only [Act.put, List.setIfInBounds_toArray, List.set_cons_zero, List.set_cons_succ]
          refine wpAnyN_one (i := 14) (by kernel_rfl) (by simp only [List.getElem?_toArray, List.getElem?_cons_succ, List.getElem?_cons_zero]; rfl) (fun K hK => ?_)
          go_simp
          refine hK _ _ ⟨fun h => (by cases h), ?_⟩
          clear hK K
          try simp only [Act.put, List.setIfInBounds_toArray, List.set_cons_zero, List.set_cons_succ]
          refine wpAnyN_one (i := 15) (by kernel_rfl) (by simp only [List.getElem?_toArray, List.getElem?_cons_succ, List.getElem?_cons_zero]; rfl) (fun K hK => ?_)
          go_simp
          refine hK _ _ ⟨fun h => (by cases h), ?_⟩
          clear hK K
          try simp only [Act.put, List.setIfInBounds_toArray, List.set_cons_zero, List.set_cons_succ]
          refine wpAnyN_done (by kernel_rfl) ?_ _
          go_wp2
          go_ret
          refine ⟨rfl, ?_⟩
          have o9 := O8.out
          refine Own.log_shut (x := ⟨i, t, L.drop k, h', s', c', p', a'⟩) (v := .slice A5 (n - k) c5) ?_
          refine Own.swap (Own.ents_shut (ds := ds.drop k) HDK.out.1 ?_)
          have o10 := o9.pick (L := [_, _, _]) [1, 2, 0]
          exact (Own.mdata_drop k (o10.pick (L := [_, _]) [1, 0])).swap

end
end Go.Proofs.Ytepnkhiclgjmpaa
