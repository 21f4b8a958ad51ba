/-
  The document's log: Entries.
  Conditions: the log is in order.
-/
import Derived.Test.YtepnkhiclgjmpaaRef2
namespace Go.Proofs.Ytepnkhiclgjmpaa
set_option linter.unusedVariables false
set_option linter.unusedSimpArgs false
open Go.RowKit

section
variable {S : Nat → Prop} {w0 w : World} {R : List SP} {g : Nat} {x : Lg}
theorem rlast_own2 {v : Value} (hl : x.L.length ≤ 1000000) (hi : x.lastI ≤ maxI) (hi0 : 0 ≤ x.index) (h : Own S w0 w (SP.blk g 88 (logA x v) :: SP.ents 26 v x.L :: R)) :
    Calls Try.prog 18 #[.pointer (some ⟨g, 0, none⟩)] w fun e w' => e = .returned (.int .i64 x.lastI) ∧ Own S w0 w' (SP.blk g 88 (logA x v) :: SP.ents 26 v x.L :: R) := by
  have H := Lib.hid h
  obtain ⟨A, c, ds, z, -, -, -, -⟩ := h.swap.ents_open
  subst z
  have c0 := h.blk_cell 0
  have c2 := h.blk_cell 2
  simp only [logA, List.getElem?_toArray, List.getElem?_cons_zero, List.getElem?_cons_succ] at c0 c2
  obtain ⟨p, hp⟩ : ∃ p, x.lastI = p := ⟨_, rfl⟩
  rw [maxI_eq, hp] at hi
  have hw : IntKind.i64.wrap (x.index + (x.L.length : Int)) = p := by rw [IntWalk.i64_in _ (by unfold Lg.lastI at hp; omega), ← hp]; rfl
  rw [hp]
  clear h hp hi hl
  go_enter Try.func18, Try.ntmps18
  go_wp2_with fail
  go_quiet (fail)
  go_wp2
  go_ret
  exact ⟨rfl, Own.drewN H.out _⟩
set_option maxRecDepth 100000 in
set_option maxHeartbeats 12800000 in
theorem rentries_own (hx : x.Ok) (h : Own S w0 w (SP.log 88 g x :: R)) (a most : Int) (ha : In64 a) (hm : In64 most) :
    Calls Try.prog 73 #[.pointer (some ⟨g, 0, none⟩), .int .i64 a, .int .i64 most] w fun e w' => ∃ A' c', e = .returned (.tuple #[.slice A' (x.entries a most).1.length c', .int .i64 (x.entries a most).2]) ∧ Own S w0 w' (SP.ents 26 (.slice A' (x.entries a most).1.length c') (x.entries a most).1 :: SP.log 88 g x :: R) := by
  have HLg := Lib.hid (rlast_own (by have := hx.len; omega) hx.last hx.i0 h)
  have H := Lib.hid h
  obtain ⟨A, c, hc1, hc2, o1, -, c0, -, c2, -, -, -, -, -⟩ := h.log_cells
  have hlen := hx.len
  have hx0 := hx.i0
  have hla := hx.last
  have hdat := hx.dat
  obtain ⟨ha1, ha2⟩ := ha
  obtain ⟨hm1, hm2⟩ := hm
  have HXX := Lib.hid (show x.L.length ≤ 1000000 ∧ x.lastI ≤ maxI ∧ 0 ≤ x.index from ⟨by omega, hla, hx0⟩)
  clear h hx
  obtain ⟨b, tb, L, hv, sv, cv, pv, av⟩ := x
  by_cases h1 : a ≤ b
  · have he : Lg.entries ⟨b, tb, L, hv, sv, cv, pv, av⟩ a most = ([], 14) := by rw [Lg.entries, if_pos h1]
    rw [he]
    clear he
    go_enter Try.func73, Try.ntmps73
    go_wp2
    go_ret2
    exact ⟨none, 0, rfl, H.out.ents_nil'⟩
  · obtain ⟨la, hlq⟩ : ∃ la, Lg.lastI ⟨b, tb, L, hv, sv, cv, pv, av⟩ = la := ⟨_, rfl⟩
    have HLq := Lib.hid hlq
    rw [hlq] at HLg hla
    rw [maxI_eq] at hla
    by_cases h2 : la + 1 < a
    · have he : Lg.entries ⟨b, tb, L, hv, sv, cv, pv, av⟩ a most = ([], 8) := by rw [Lg.entries, if_neg h1, hlq, if_pos h2]
      rw [he]
      have hb0 : 0 ≤ b := hx0
      have w3 : IntKind.i64.wrap (a - 1) = a - 1 := IntWalk.i64_in _ (by omega)
      have g3 : la < a - 1 := by omega
      clear he hlq
      go_enter Try.func73, Try.ntmps73
      go_wp2_with fail
      refine (HLg.out).mono ?_
      rintro e w1 ⟨rfl, o1⟩
      have O1 := Lib.hid o1
      clear o1 HLg
      go_wp2
      go_ret2
      exact ⟨none, 0, rfl, O1.out.ents_nil'⟩
    · unfold Lg.lastI at hlq
      simp only at hlq hlen hdat hc1 o1 hx0 HXX c0 c2
      obtain ⟨lo, hlo⟩ : ∃ lo : Nat, a = b + 1 + (lo : Int) := ⟨(a - b - 1).toNat, by omega⟩
      obtain ⟨n, hn⟩ : ∃ n, L.length = n := ⟨_, rfl⟩
      rw [hn] at hlen hlq hc1 o1 c2
      obtain ⟨rn, hr⟩ : ∃ rn, n - lo = rn := ⟨_, rfl⟩
      unfold maxLen at hc2
      have w1 : IntKind.i64.wrap (a - b) = (lo : Int) + 1 := by rw [IntWalk.i64_in _ (by omega)]; omega
      have w2 : IntKind.i64.wrap ((lo : Int) + 1 - 1) = (lo : Int) := by rw [IntWalk.i64_in _ (by omega)]; omega
      have w3 : IntKind.i64.wrap (a - 1) = a - 1 := IntWalk.i64_in _ (by omega)
      have g2 : ¬ la < a - 1 := by omega
      have HLO := Lib.hid hlo
      have hlon : lo ≤ n := by omega
      clear hlo hlq
      rcases row_open o1.swap hn with ⟨rfl, rfl, rfl⟩ | ⟨bl, off, rfl⟩
      · obtain rfl : lo = 0 := by omega
        obtain rfl : rn = 0 := by omega
        have w9 : IntKind.i64.wrap 0 = 0 := IntWalk.i64_in _ (by omega)
        have HLa := Lib.hid (rlast_own2 HXX.out.1 HXX.out.2.1 HXX.out.2.2 o1)
        rw [HLq.out] at HLa
        clear o1 HLg
        by_cases hm0 : most < 0
        · have hlo := HLO.out
          have HE := Lib.hid (show Lg.entries ⟨b, tb, L, hv, sv, cv, pv, av⟩ a most = ((L.drop 0).take 0, 0) from by
            unfold Lg.entries Lg.lastI
            simp only
            rw [if_neg h1, if_neg (by omega), show (a - b - 1).toNat = 0 by omega]
            rw [show most.toNat = 0 by omega])
          rw [HE.out]
          have hLL : ((L.drop 0).take 0).length = 0 := by rw [List.length_take, List.length_drop]; omega
          have HLL := Lib.hid hLL
          show Calls Try.prog 73 #[.pointer (some ⟨g, 0, none⟩), .int .i64 a, .int .i64 most] w fun e w' => ∃ A' c', e = .returned (.tuple #[.slice A' ((L.drop 0).take 0).length c', .int .i64 0]) ∧ Own S w0 w' (SP.ents 26 (.slice A' ((L.drop 0).take 0).length c') ((L.drop 0).take 0) :: SP.log 88 g ⟨b, tb, L, hv, sv, cv, pv, av⟩ :: R)
          rw [hLL]
          have HCo := Lib.hid (fun (W : World) (o : Own S w0 W (SP.blk g 88 (logA ⟨b, tb, L, hv, sv, cv, pv, av⟩ (.slice none 0 0)) :: SP.ents 26 (.slice none 0 0) L :: R)) => show Calls Try.prog 34 #[.slice none 0 0] W fun e w' => ∃ A' c', e = .returned (.slice A' 0 c') ∧ Own S w0 w' (SP.ents 26 (.slice A' 0 c') ((L.drop 0).take 0) :: SP.blk g 88 (logA ⟨b, tb, L, hv, sv, cv, pv, av⟩ (.slice none 0 0)) :: SP.ents 26 (.slice none 0 0) L :: R) from by
            have := copies_own (c := 0) (A := none) (es := ([] : List E)) (by simp) (fun m hm => by cases hm) o EReads.nil
            rw [show (L.drop 0).take 0 = [] from by rw [List.drop_eq_nil_of_le (by omega), List.take_nil]]
            exact this)
          have wl : IntKind.i64.wrap (0 : Int) = (0 : Int) := IntWalk.i64_in _ (by omega)
          have q1 : (0 : Int) ≤ (0 : Int) := by omega
          have q2 : (0 : Int) ≤ (0 : Int) := by omega
          have q3 : ¬ (0 : Int) < 0 := by omega
          have e7 : (if most < 0 then 0 else most) = 0 := if_pos hm0
          have e15 : (if (0 : Int) < 0 then (0 : Int) else 0) = 0 := if_neg q3
          have q4 : (0 : Int) ≤ (0 : Int) := by omega
          have q5 : (0 : Int) ≤ (0 : Int) := by omega
          have wr : IntKind.i64.wrap ((0 : Int) - (0 : Int)) = (0 : Int) := by rw [IntWalk.i64_in _ (by omega)]; omega
          clear hdat hn HE HLL hLL hlo hr
          go_enter Try.func73, Try.ntmps73
          go_wp2_with fail
          refine (HLa.out).mono ?_
          rintro e w1 ⟨rfl, o1⟩
          have e0 := o1.blk_cell 0
          simp only [logA, List.getElem?_toArray, List.getElem?_cons_zero, List.getElem?_cons_succ] at e0
          have O1 := Lib.hid o1
          clear o1 HLa c0 c2
          go_upto_region 6 with (fail)
          clear e0
          have HSF := Lib.hid (fun (W : World) (R' : List SP) (o : Own S w0 W (SP.blk g 88 (logA ⟨b, tb, L, hv, sv, cv, pv, av⟩ (.slice none 0 0)) :: R')) => show W.cell? ⟨g, 2, none⟩ = some (.slice none 0 0) ∧ W.cell? ⟨g, 0, none⟩ = some (.int .i64 b) from ⟨o.blk_cell 2, o.blk_cell 0⟩)
          refine wp_region_need (fun W => W.cell? ⟨g, 2, none⟩ = some (.slice none 0 0) ∧ W.cell? ⟨g, 0, none⟩ = some (.int .i64 b)) (fun j => decide (j < 18)) (by kernel_rfl) ?_
          obtain ⟨W0, hW0⟩ : ∃ W0, w1.drew = W0 := ⟨_, rfl⟩
          have HS := Lib.hid (HSF.out _ _ O1.out.drew)
          have O2 := Lib.hid O1.out.drew
          rw [hW0] at HS O2 ⊢
          clear hW0
          refine wpAnyN_take (i := 0) (v := ?vn0a0) (by simp only [List.getElem?_toArray, List.getElem?_cons_succ, List.getElem?_cons_zero]; rfl) (by kernel_rfl) (by intro _ _ _ h; exact h) (Or.inl ⟨by rfl, ?yn0a0⟩) HS.out ?rn0a0
          case yn0a0 =>
            intro W hSW
            try dsimp only at hSW
            obtain ⟨s0, s1⟩ := hSW
            go_simp
            try with_reducible rfl
          simp only [Act.put, List.setIfInBounds_toArray, List.set_cons_zero, List.set_cons_succ]
          refine wpAnyN_take (i := 1) (v := ?vn0a1) (by simp only [List.getElem?_toArray, List.getElem?_cons_succ, List.getElem?_cons_zero]; rfl) (by kernel_rfl) (by intro _ _ _ h; exact h) (Or.inl ⟨by rfl, ?yn0a1⟩) HS.out ?rn0a1
          case yn0a1 =>
            intro W hSW
            try dsimp only at hSW
            obtain ⟨s0, s1⟩ := hSW
            go_simp
            try with_reducible rfl
          simp only [Act.put, List.setIfInBounds_toArray, List.set_cons_zero, List.set_cons_succ]
          refine wpAnyN_take (i := 2) (v := ?vn0a2) (by simp only [List.getElem?_toArray, List.getElem?_cons_succ, List.getElem?_cons_zero]; rfl) (by kernel_rfl) (by intro _ _ _ h; exact h) (Or.inl ⟨by rfl, ?yn0a2⟩) HS.out ?rn0a2
          case yn0a2 =>
            intro W hSW
            try dsimp only at hSW
            obtain ⟨s0, s1⟩ := hSW
            go_simp
            try with_reducible rfl
          simp only [Act.put, List.setIfInBounds_toArray, List.set_cons_zero, List.set_cons_succ]
          refine wpAnyN_take (i := 3) (v := ?vn0a3) (by simp only [List.getElem?_toArray, List.getElem?_cons_succ, List.getElem?_cons_zero]; rfl) (by kernel_rfl) (by intro _ _ _ h; exact h) (Or.inl ⟨by rfl, ?yn0a3⟩) HS.out ?rn0a3
          case yn0a3 =>
            intro W hSW
            try dsimp only at hSW
            obtain ⟨s0, s1⟩ := hSW
            go_simp
            try with_reducible rfl
          simp only [Act.put, List.setIfInBounds_toArray, List.set_cons_zero, List.set_cons_succ]
          refine wpAnyN_take (i := 4) (v := ?vn0a4) (by simp only [List.getElem?_toArray, List.getElem?_cons_succ, List.getElem?_cons_zero]; rfl) (by kernel_rfl) (by intro _ _ _ h; exact h) (Or.inl ⟨by rfl, ?yn0a4⟩) HS.out ?rn0a4
          case yn0a4 =>
            intro W hSW
            try dsimp only at hSW
            obtain ⟨s0, s1⟩ := hSW
            go_simp
            try with_reducible rfl
          simp only [Act.put, List.setIfInBounds_toArray, List.set_cons_zero, List.set_cons_succ]
          refine wpAnyN_take (i := 5) (v := ?vn0a5) (by simp only [List.getElem?_toArray, List.getElem?_cons_succ, List.getElem?_cons_zero]; rfl) (by kernel_rfl) (by intro _ _ _ h; exact h) (Or.inl ⟨by rfl, ?yn0a5⟩) HS.out ?rn0a5
          case yn0a5 =>
            intro W hSW
            try dsimp only at hSW
            obtain ⟨s0, s1⟩ := hSW
            go_simp
            try with_reducible rfl
          simp only [Act.put, List.setIfInBounds_toArray, List.set_cons_zero, List.set_cons_succ]
          refine wpAnyN_take (i := 6) (v := ?vn0a6) (by simp only [List.getElem?_toArray, List.getElem?_cons_succ, List.getElem?_cons_zero]; rfl) (by kernel_rfl) (by intro _ _ _ h; exact h) (Or.inl ⟨by rfl, ?yn0a6⟩) HS.out ?rn0a6
          case yn0a6 =>
            intro W hSW
            try dsimp only at hSW
            obtain ⟨s0, s1⟩ := hSW
            go_simp
            try with_reducible rfl
          simp only [Act.put, List.setIfInBounds_toArray, List.set_cons_zero, List.set_cons_succ]
          refine wpAnyN_take (i := 7) (v := ?vn0a7) (by simp only [List.getElem?_toArray, List.getElem?_cons_succ, List.getElem?_cons_zero]; rfl) (by kernel_rfl) (by intro _ _ _ h; exact h) (Or.inl ⟨by rfl, ?yn0a7⟩) HS.out ?rn0a7
          case yn0a7 =>
            intro W hSW
            try dsimp only at hSW
            obtain ⟨s0, s1⟩ := hSW
            go_simp
            try with_reducible rfl
          simp only [Act.put, List.setIfInBounds_toArray, List.set_cons_zero, List.set_cons_succ]
          refine wpAnyN_take (i := 8) (v := ?vn0a8) (by simp only [List.getElem?_toArray, List.getElem?_cons_succ, List.getElem?_cons_zero]; rfl) (by kernel_rfl) (by intro _ _ _ h; exact h) (Or.inl ⟨by rfl, ?yn0a8⟩) HS.out ?rn0a8
          case yn0a8 =>
            intro W hSW
            try dsimp only at hSW
            obtain ⟨s0, s1⟩ := hSW
            go_simp
            try with_reducible rfl
          simp only [Act.put, List.setIfInBounds_toArray, List.set_cons_zero, List.set_cons_succ]
          refine wpAnyN_take (i := 9) (v := ?vn0a9) (by simp only [List.getElem?_toArray, List.getElem?_cons_succ, List.getElem?_cons_zero]; rfl) (by kernel_rfl) (by intro _ _ _ h; exact h) (Or.inl ⟨by rfl, ?yn0a9⟩) HS.out ?rn0a9
          case yn0a9 =>
            intro W hSW
            try dsimp only at hSW
            obtain ⟨s0, s1⟩ := hSW
            go_simp
            try with_reducible rfl
          simp only [Act.put, List.setIfInBounds_toArray, List.set_cons_zero, List.set_cons_succ]
          refine wpAnyN_take (i := 10) (v := ?vn0a10) (by simp only [List.getElem?_toArray, List.getElem?_cons_succ, List.getElem?_cons_zero]; rfl) (by kernel_rfl) (by intro _ _ _ h; exact h) (Or.inl ⟨by rfl, ?yn0a10⟩) HS.out ?rn0a10
          case yn0a10 =>
            intro W hSW
            try dsimp only at hSW
            obtain ⟨s0, s1⟩ := hSW
            go_simp
            try with_reducible rfl
          simp only [Act.put, List.setIfInBounds_toArray, List.set_cons_zero, List.set_cons_succ]
          refine wpAnyN_take (i := 11) (v := ?vn0a11) (by simp only [List.getElem?_toArray, List.getElem?_cons_succ, List.getElem?_cons_zero]; rfl) (by kernel_rfl) (by intro _ _ _ h; exact h) (Or.inl ⟨by rfl, ?yn0a11⟩) HS.out ?rn0a11
          case yn0a11 =>
            intro W hSW
            try dsimp only at hSW
            obtain ⟨s0, s1⟩ := hSW
            go_simp
            try with_reducible rfl
          simp only [Act.put, List.setIfInBounds_toArray, List.set_cons_zero, List.set_cons_succ]
          refine wpAnyN_take (i := 12) (v := ?vn0a12) (by simp only [List.getElem?_toArray, List.getElem?_cons_succ, List.getElem?_cons_zero]; rfl) (by kernel_rfl) (by intro _ _ _ h; exact h) (Or.inl ⟨by rfl, ?yn0a12⟩) HS.out ?rn0a12
          case yn0a12 =>
            intro W hSW
            try dsimp only at hSW
            obtain ⟨s0, s1⟩ := hSW
            go_simp
            try with_reducible rfl
          simp only [Act.put, List.setIfInBounds_toArray, List.set_cons_zero, List.set_cons_succ]
          refine wpAnyN_take (i := 13) (v := ?vn0a13) (by simp only [List.getElem?_toArray, List.getElem?_cons_succ, List.getElem?_cons_zero]; rfl) (by kernel_rfl) (by intro _ _ _ h; exact h) (Or.inl ⟨by rfl, ?yn0a13⟩) HS.out ?rn0a13
          case yn0a13 =>
            intro W hSW
            try dsimp only at hSW
            obtain ⟨s0, s1⟩ := hSW
            go_simp
            try with_reducible rfl
          simp only [Act.put, List.setIfInBounds_toArray, List.set_cons_zero, List.set_cons_succ]
          refine wpAnyN_take (i := 14) (v := ?vn0a14) (by simp only [List.getElem?_toArray, List.getElem?_cons_succ, List.getElem?_cons_zero]; rfl) (by kernel_rfl) (by intro _ _ _ h; exact h) (Or.inl ⟨by rfl, ?yn0a14⟩) HS.out ?rn0a14
          case yn0a14 =>
            intro W hSW
            try dsimp only at hSW
            obtain ⟨s0, s1⟩ := hSW
            go_simp
            try with_reducible rfl
          simp only [Act.put, List.setIfInBounds_toArray, List.set_cons_zero, List.set_cons_succ]
          refine wpAnyN_take (i := 15) (v := ?vn0a15) (by simp only [List.getElem?_toArray, List.getElem?_cons_succ, List.getElem?_cons_zero]; rfl) (by kernel_rfl) (by intro _ _ _ h; exact h) (Or.inl ⟨by rfl, ?yn0a15⟩) HS.out ?rn0a15
          case yn0a15 =>
            intro W hSW
            try dsimp only at hSW
            obtain ⟨s0, s1⟩ := hSW
            go_simp
            try with_reducible rfl
          simp only [Act.put, List.setIfInBounds_toArray, List.set_cons_zero, List.set_cons_succ]
          refine wpAnyN_take (i := 16) (v := ?vn0a16) (by simp only [List.getElem?_toArray, List.getElem?_cons_succ, List.getElem?_cons_zero]; rfl) (by kernel_rfl) (by intro _ _ _ h; exact h) (Or.inl ⟨by rfl, ?yn0a16⟩) HS.out ?rn0a16
          case yn0a16 =>
            intro W hSW
            try dsimp only at hSW
            obtain ⟨s0, s1⟩ := hSW
            go_simp
            try with_reducible rfl
          simp only [Act.put, List.setIfInBounds_toArray, List.set_cons_zero, List.set_cons_succ]
          refine wpAnyN_take (i := 17) (v := ?vn0a17) (by simp only [List.getElem?_toArray, List.getElem?_cons_succ, List.getElem?_cons_zero]; rfl) (by kernel_rfl) (by intro _ _ _ h; exact h) (Or.inl ⟨by rfl, ?yn0a17⟩) HS.out ?rn0a17
          case yn0a17 =>
            intro W hSW
            try dsimp only at hSW
            obtain ⟨s0, s1⟩ := hSW
            go_simp
            try with_reducible rfl
          simp only [Act.put, List.setIfInBounds_toArray, List.set_cons_zero, List.set_cons_succ]
          refine wpAnyN_one (i := 18) (by kernel_rfl) (by simp only [List.getElem?_toArray, List.getElem?_cons_succ, List.getElem?_cons_zero]; rfl) (fun K hK => ?_)
          refine step_call rfl 34 _ _ rfl Try.func34 (by kernel_rfl) (by kernel_rfl) #[.slice none 0 0] (by simp [Act.eval]) ?_
          refine (HCo.out _ O2.out).mono ?_
          rintro e w2 ⟨A5, c5, rfl, o5⟩
          refine ⟨_, rfl, ?_⟩
          refine hK _ _ ⟨fun h => (by cases h), ?_⟩
          clear hK K HS O2
          try simp only [Act.put, List.setIfInBounds_toArray, List.set_cons_zero, List.set_cons_succ]
          refine wpAnyN_one (i := 19) (by kernel_rfl) (by simp only [List.getElem?_toArray, List.getElem?_cons_succ, List.getElem?_cons_zero]; rfl) (fun K hK => ?_)
          go_simp
          refine hK _ _ ⟨fun h => (by cases h), ?_⟩
          clear hK K
          try simp only [Act.put, List.setIfInBounds_toArray, List.set_cons_zero, List.set_cons_succ]
          refine wpAnyN_one (i := 20) (by kernel_rfl) (by simp only [List.getElem?_toArray, List.getElem?_cons_succ, List.getElem?_cons_zero]; rfl) (fun K hK => ?_)
          go_simp
          refine hK _ _ ⟨fun h => (by cases h), ?_⟩
          clear hK K
          try simp only [Act.put, List.setIfInBounds_toArray, List.set_cons_zero, List.set_cons_succ]
          refine wpAnyN_done (by kernel_rfl) ?_ _
          have O5 := Lib.hid (Own.log_shut (x := ⟨b, tb, L, hv, sv, cv, pv, av⟩) (o5.pick (L := [_, _, _]) [1, 2, 0])).swap
          clear o5 O1 HCo
          try skip
          go_wp2
          go_ret2
          exact ⟨A5, c5, rfl, O5.out⟩
        · obtain ⟨mn, hmn⟩ : ∃ mn : Nat, most = (mn : Int) := ⟨most.toNat, by omega⟩
          subst hmn
          by_cases hrm : 0 < mn
          · obtain ⟨hi, hhi⟩ : ∃ hi, hi = 0 := ⟨_, rfl⟩
            have hlo := HLO.out
            have HE := Lib.hid (show Lg.entries ⟨b, tb, L, hv, sv, cv, pv, av⟩ a (mn : Int) = ((L.drop 0).take 0, 0) from by
              unfold Lg.entries Lg.lastI
              simp only
              rw [if_neg h1, if_neg (by omega), show (a - b - 1).toNat = 0 by omega]
              rw [List.take_of_length_le (by rw [List.length_drop]; omega), List.take_of_length_le (by rw [List.length_drop]; omega)])
            rw [HE.out]
            have hLL : ((L.drop 0).take 0).length = 0 := by rw [List.length_take, List.length_drop]; omega
            have HLL := Lib.hid hLL
            show Calls Try.prog 73 #[.pointer (some ⟨g, 0, none⟩), .int .i64 a, .int .i64 (mn : Int)] w fun e w' => ∃ A' c', e = .returned (.tuple #[.slice A' ((L.drop 0).take 0).length c', .int .i64 0]) ∧ Own S w0 w' (SP.ents 26 (.slice A' ((L.drop 0).take 0).length c') ((L.drop 0).take 0) :: SP.log 88 g ⟨b, tb, L, hv, sv, cv, pv, av⟩ :: R)
            rw [hLL]
            have HCo := Lib.hid (fun (W : World) (o : Own S w0 W (SP.blk g 88 (logA ⟨b, tb, L, hv, sv, cv, pv, av⟩ (.slice none 0 0)) :: SP.ents 26 (.slice none 0 0) L :: R)) => show Calls Try.prog 34 #[.slice none 0 0] W fun e w' => ∃ A' c', e = .returned (.slice A' 0 c') ∧ Own S w0 w' (SP.ents 26 (.slice A' 0 c') ((L.drop 0).take 0) :: SP.blk g 88 (logA ⟨b, tb, L, hv, sv, cv, pv, av⟩ (.slice none 0 0)) :: SP.ents 26 (.slice none 0 0) L :: R) from by
              have := copies_own (c := 0) (A := none) (es := ([] : List E)) (by simp) (fun m hm => by cases hm) o EReads.nil
              rw [show (L.drop 0).take 0 = [] from by rw [List.drop_eq_nil_of_le (by omega), List.take_nil]]
              exact this)
            have wl : IntKind.i64.wrap (0 : Int) = (0 : Int) := IntWalk.i64_in _ (by omega)
            have q1 : (0 : Int) ≤ (hi : Int) := by omega
            have q2 : (0 : Int) ≤ (0 : Int) := by omega
            have q3 : ¬ (mn : Int) < 0 := by omega
            have q4 : (hi : Int) ≤ (0 : Int) := by omega
            have q5 : (0 : Int) ≤ (0 : Int) := by omega
            have q6 : (0 : Int) < (mn : Int) := by omega
            have e7 : (if (mn : Int) < 0 then 0 else (mn : Int)) = (mn : Int) := if_neg q3
            have e15 : (if (0 : Int) < (mn : Int) then (0 : Int) else (mn : Int)) = (0 : Int) := by split <;> omega
            have wr : IntKind.i64.wrap ((0 : Int) - (0 : Int)) = (0 : Int) := by rw [IntWalk.i64_in _ (by omega)]; omega
            have wh : IntKind.i64.wrap ((0 : Int) + (0 : Int)) = (hi : Int) := by rw [IntWalk.i64_in _ (by omega)]; omega
            clear hdat hn HE HLL hLL hlo hr hhi
            go_enter Try.func73, Try.ntmps73
            go_wp2_with fail
            refine (HLa.out).mono ?_
            rintro e w1 ⟨rfl, o1⟩
            have e0 := o1.blk_cell 0
            simp only [logA, List.getElem?_toArray, List.getElem?_cons_zero, List.getElem?_cons_succ] at e0
            have O1 := Lib.hid o1
            clear o1 HLa c0 c2
            go_upto_region 6 with (fail)
            clear e0
            have HSF := Lib.hid (fun (W : World) (R' : List SP) (o : Own S w0 W (SP.blk g 88 (logA ⟨b, tb, L, hv, sv, cv, pv, av⟩ (.slice none 0 0)) :: R')) => show W.cell? ⟨g, 2, none⟩ = some (.slice none 0 0) ∧ W.cell? ⟨g, 0, none⟩ = some (.int .i64 b) from ⟨o.blk_cell 2, o.blk_cell 0⟩)
            refine wp_region_need (fun W => W.cell? ⟨g, 2, none⟩ = some (.slice none 0 0) ∧ W.cell? ⟨g, 0, none⟩ = some (.int .i64 b)) (fun j => decide (j < 18)) (by kernel_rfl) ?_
            obtain ⟨W0, hW0⟩ : ∃ W0, w1.drew = W0 := ⟨_, rfl⟩
            have HS := Lib.hid (HSF.out _ _ O1.out.drew)
            have O2 := Lib.hid O1.out.drew
            rw [hW0] at HS O2 ⊢
            clear hW0
            refine wpAnyN_take (i := 0) (v := ?vn0b0) (by simp only [List.getElem?_toArray, List.getElem?_cons_succ, List.getElem?_cons_zero]; rfl) (by kernel_rfl) (by intro _ _ _ h; exact h) (Or.inl ⟨by rfl, ?yn0b0⟩) HS.out ?rn0b0
            case yn0b0 =>
              intro W hSW
              try dsimp only at hSW
              obtain ⟨s0, s1⟩ := hSW
              go_simp
              try with_reducible rfl
            simp only [Act.put, List.setIfInBounds_toArray, List.set_cons_zero, List.set_cons_succ]
            refine wpAnyN_take (i := 1) (v := ?vn0b1) (by simp only [List.getElem?_toArray, List.getElem?_cons_succ, List.getElem?_cons_zero]; rfl) (by kernel_rfl) (by intro _ _ _ h; exact h) (Or.inl ⟨by rfl, ?yn0b1⟩) HS.out ?rn0b1
            case yn0b1 =>
              intro W hSW
              try dsimp only at hSW
              obtain ⟨s0, s1⟩ := hSW
              go_simp
              try with_reducible rfl
            simp only [Act.put, List.setIfInBounds_toArray, List.set_cons_zero, List.set_cons_succ]
            refine wpAnyN_take (i := 2) (v := ?vn0b2) (by simp only [List.getElem?_toArray, List.getElem?_cons_succ, List.getElem?_cons_zero]; rfl) (by kernel_rfl) (by intro _ _ _ h; exact h) (Or.inl ⟨by rfl, ?yn0b2⟩) HS.out ?rn0b2
            case yn0b2 =>
              intro W hSW
              try dsimp only at hSW
              obtain ⟨s0, s1⟩ := hSW
              go_simp
              try with_reducible rfl
            simp only [Act.put, List.setIfInBounds_toArray, List.set_cons_zero, List.set_cons_succ]
            refine wpAnyN_take (i := 3) (v := ?vn0b3) (by simp only [List.getElem?_toArray, List.getElem?_cons_succ, List.getElem?_cons_zero]; rfl) (by kernel_rfl) (by intro _ _ _ h; exact h) (Or.inl ⟨by rfl, ?yn0b3⟩) HS.out ?rn0b3
            case yn0b3 =>
              intro W hSW
              try dsimp only at hSW
              obtain ⟨s0, s1⟩ := hSW
              go_simp
              try with_reducible rfl
            simp only [Act.put, List.setIfInBounds_toArray, List.set_cons_zero, List.set_cons_succ]
            refine wpAnyN_take (i := 4) (v := ?vn0b4) (by simp only [List.getElem?_toArray, List.getElem?_cons_succ, List.getElem?_cons_zero]; rfl) (by kernel_rfl) (by intro _ _ _ h; exact h) (Or.inl ⟨by rfl, ?yn0b4⟩) HS.out ?rn0b4
            case yn0b4 =>
              intro W hSW
              try dsimp only at hSW
              obtain ⟨s0, s1⟩ := hSW
              go_simp
              try with_reducible rfl
            simp only [Act.put, List.setIfInBounds_toArray, List.set_cons_zero, List.set_cons_succ]
            refine wpAnyN_take (i := 5) (v := ?vn0b5) (by simp only [List.getElem?_toArray, List.getElem?_cons_succ, List.getElem?_cons_zero]; rfl) (by kernel_rfl) (by intro _ _ _ h; exact h) (Or.inl ⟨by rfl, ?yn0b5⟩) HS.out ?rn0b5
            case yn0b5 =>
              intro W hSW
              try dsimp only at hSW
              obtain ⟨s0, s1⟩ := hSW
              go_simp
              try with_reducible rfl
            simp only [Act.put, List.setIfInBounds_toArray, List.set_cons_zero, List.set_cons_succ]
            refine wpAnyN_take (i := 6) (v := ?vn0b6) (by simp only [List.getElem?_toArray, List.getElem?_cons_succ, List.getElem?_cons_zero]; rfl) (by kernel_rfl) (by intro _ _ _ h; exact h) (Or.inl ⟨by rfl, ?yn0b6⟩) HS.out ?rn0b6
            case yn0b6 =>
              intro W hSW
              try dsimp only at hSW
              obtain ⟨s0, s1⟩ := hSW
              go_simp
              try with_reducible rfl
            simp only [Act.put, List.setIfInBounds_toArray, List.set_cons_zero, List.set_cons_succ]
            refine wpAnyN_take (i := 7) (v := ?vn0b7) (by simp only [List.getElem?_toArray, List.getElem?_cons_succ, List.getElem?_cons_zero]; rfl) (by kernel_rfl) (by intro _ _ _ h; exact h) (Or.inl ⟨by rfl, ?yn0b7⟩) HS.out ?rn0b7
            case yn0b7 =>
              intro W hSW
              try dsimp only at hSW
              obtain ⟨s0, s1⟩ := hSW
              go_simp
              try with_reducible rfl
            simp only [Act.put, List.setIfInBounds_toArray, List.set_cons_zero, List.set_cons_succ]
            refine wpAnyN_take (i := 8) (v := ?vn0b8) (by simp only [List.getElem?_toArray, List.getElem?_cons_succ, List.getElem?_cons_zero]; rfl) (by kernel_rfl) (by intro _ _ _ h; exact h) (Or.inl ⟨by rfl, ?yn0b8⟩) HS.out ?rn0b8
            case yn0b8 =>
              intro W hSW
              try dsimp only at hSW
              obtain ⟨s0, s1⟩ := hSW
              go_simp
              try with_reducible rfl
            simp only [Act.put, List.setIfInBounds_toArray, List.set_cons_zero, List.set_cons_succ]
            refine wpAnyN_take (i := 9) (v := ?vn0b9) (by simp only [List.getElem?_toArray, List.getElem?_cons_succ, List.getElem?_cons_zero]; rfl) (by kernel_rfl) (by intro _ _ _ h; exact h) (Or.inl ⟨by rfl, ?yn0b9⟩) HS.out ?rn0b9
            case yn0b9 =>
              intro W hSW
              try dsimp only at hSW
              obtain ⟨s0, s1⟩ := hSW
              go_simp
              try with_reducible rfl
            simp only [Act.put, List.setIfInBounds_toArray, List.set_cons_zero, List.set_cons_succ]
            refine wpAnyN_take (i := 10) (v := ?vn0b10) (by simp only [List.getElem?_toArray, List.getElem?_cons_succ, List.getElem?_cons_zero]; rfl) (by kernel_rfl) (by intro _ _ _ h; exact h) (Or.inl ⟨by rfl, ?yn0b10⟩) HS.out ?rn0b10
            case yn0b10 =>
              intro W hSW
              try dsimp only at hSW
              obtain ⟨s0, s1⟩ := hSW
              go_simp
              try with_reducible rfl
            simp only [Act.put, List.setIfInBounds_toArray, List.set_cons_zero, List.set_cons_succ]
            refine wpAnyN_take (i := 11) (v := ?vn0b11) (by simp only [List.getElem?_toArray, List.getElem?_cons_succ, List.getElem?_cons_zero]; rfl) (by kernel_rfl) (by intro _ _ _ h; exact h) (Or.inl ⟨by rfl, ?yn0b11⟩) HS.out ?rn0b11
            case yn0b11 =>
              intro W hSW
              try dsimp only at hSW
              obtain ⟨s0, s1⟩ := hSW
              go_simp
              try with_reducible rfl
            simp only [Act.put, List.setIfInBounds_toArray, List.set_cons_zero, List.set_cons_succ]
            refine wpAnyN_take (i := 12) (v := ?vn0b12) (by simp only [List.getElem?_toArray, List.getElem?_cons_succ, List.getElem?_cons_zero]; rfl) (by kernel_rfl) (by intro _ _ _ h; exact h) (Or.inl ⟨by rfl, ?yn0b12⟩) HS.out ?rn0b12
            case yn0b12 =>
              intro W hSW
              try dsimp only at hSW
              obtain ⟨s0, s1⟩ := hSW
              go_simp
              try with_reducible rfl
            simp only [Act.put, List.setIfInBounds_toArray, List.set_cons_zero, List.set_cons_succ]
            refine wpAnyN_take (i := 13) (v := ?vn0b13) (by simp only [List.getElem?_toArray, List.getElem?_cons_succ, List.getElem?_cons_zero]; rfl) (by kernel_rfl) (by intro _ _ _ h; exact h) (Or.inl ⟨by rfl, ?yn0b13⟩) HS.out ?rn0b13
            case yn0b13 =>
              intro W hSW
              try dsimp only at hSW
              obtain ⟨s0, s1⟩ := hSW
              go_simp
              try with_reducible rfl
            simp only [Act.put, List.setIfInBounds_toArray, List.set_cons_zero, List.set_cons_succ]
            refine wpAnyN_take (i := 14) (v := ?vn0b14) (by simp only [List.getElem?_toArray, List.getElem?_cons_succ, List.getElem?_cons_zero]; rfl) (by kernel_rfl) (by intro _ _ _ h; exact h) (Or.inl ⟨by rfl, ?yn0b14⟩) HS.out ?rn0b14
            case yn0b14 =>
              intro W hSW
              try dsimp only at hSW
              obtain ⟨s0, s1⟩ := hSW
              go_simp
              try with_reducible rfl
            simp only [Act.put, List.setIfInBounds_toArray, List.set_cons_zero, List.set_cons_succ]
            refine wpAnyN_take (i := 15) (v := ?vn0b15) (by simp only [List.getElem?_toArray, List.getElem?_cons_succ, List.getElem?_cons_zero]; rfl) (by kernel_rfl) (by intro _ _ _ h; exact h) (Or.inl ⟨by rfl, ?yn0b15⟩) HS.out ?rn0b15
            case yn0b15 =>
              intro W hSW
              try dsimp only at hSW
              obtain ⟨s0, s1⟩ := hSW
              go_simp
              try with_reducible rfl
            simp only [Act.put, List.setIfInBounds_toArray, List.set_cons_zero, List.set_cons_succ]
            refine wpAnyN_take (i := 16) (v := ?vn0b16) (by simp only [List.getElem?_toArray, List.getElem?_cons_succ, List.getElem?_cons_zero]; rfl) (by kernel_rfl) (by intro _ _ _ h; exact h) (Or.inl ⟨by rfl, ?yn0b16⟩) HS.out ?rn0b16
            case yn0b16 =>
              intro W hSW
              try dsimp only at hSW
              obtain ⟨s0, s1⟩ := hSW
              go_simp
              try with_reducible rfl
            simp only [Act.put, List.setIfInBounds_toArray, List.set_cons_zero, List.set_cons_succ]
            refine wpAnyN_take (i := 17) (v := ?vn0b17) (by simp only [List.getElem?_toArray, List.getElem?_cons_succ, List.getElem?_cons_zero]; rfl) (by kernel_rfl) (by intro _ _ _ h; exact h) (Or.inl ⟨by rfl, ?yn0b17⟩) HS.out ?rn0b17
            case yn0b17 =>
              intro W hSW
              try dsimp only at hSW
              obtain ⟨s0, s1⟩ := hSW
              go_simp
              try with_reducible rfl
            simp only [Act.put, List.setIfInBounds_toArray, List.set_cons_zero, List.set_cons_succ]
            refine wpAnyN_one (i := 18) (by kernel_rfl) (by simp only [List.getElem?_toArray, List.getElem?_cons_succ, List.getElem?_cons_zero]; rfl) (fun K hK => ?_)
            refine step_call rfl 34 _ _ rfl Try.func34 (by kernel_rfl) (by kernel_rfl) #[.slice none 0 0] (by simp [Act.eval]) ?_
            refine (HCo.out _ O2.out).mono ?_
            rintro e w2 ⟨A5, c5, rfl, o5⟩
            refine ⟨_, rfl, ?_⟩
            refine hK _ _ ⟨fun h => (by cases h), ?_⟩
            clear hK K HS O2
            try simp only [Act.put, List.setIfInBounds_toArray, List.set_cons_zero, List.set_cons_succ]
            refine wpAnyN_one (i := 19) (by kernel_rfl) (by simp only [List.getElem?_toArray, List.getElem?_cons_succ, List.getElem?_cons_zero]; rfl) (fun K hK => ?_)
            go_simp
            refine hK _ _ ⟨fun h => (by cases h), ?_⟩
            clear hK K
            try simp only [Act.put, List.setIfInBounds_toArray, List.set_cons_zero, List.set_cons_succ]
            refine wpAnyN_one (i := 20) (by kernel_rfl) (by simp only [List.getElem?_toArray, List.getElem?_cons_succ, List.getElem?_cons_zero]; rfl) (fun K hK => ?_)
            go_simp
            refine hK _ _ ⟨fun h => (by cases h), ?_⟩
            clear hK K
            try simp only [Act.put, List.setIfInBounds_toArray, List.set_cons_zero, List.set_cons_succ]
            refine wpAnyN_done (by kernel_rfl) ?_ _
            have O5 := Lib.hid (Own.log_shut (x := ⟨b, tb, L, hv, sv, cv, pv, av⟩) (o5.pick (L := [_, _, _]) [1, 2, 0])).swap
            clear o5 O1 HCo
            try skip
            go_wp2
            go_ret2
            exact ⟨A5, c5, rfl, O5.out⟩
          · obtain rfl : mn = 0 := by omega
            obtain ⟨hi, hhi⟩ : ∃ hi, hi = 0 := ⟨_, rfl⟩
            have hlo := HLO.out
            have HE := Lib.hid (show Lg.entries ⟨b, tb, L, hv, sv, cv, pv, av⟩ a ((0 : Nat) : Int) = ((L.drop 0).take 0, 0) from by
              unfold Lg.entries Lg.lastI
              simp only
              rw [if_neg h1, if_neg (by omega), show (a - b - 1).toNat = 0 by omega]
              rw [show ((((0 : Nat) : Int))).toNat = 0 by omega])
            rw [HE.out]
            have hLL : ((L.drop 0).take 0).length = 0 := by rw [List.length_take, List.length_drop]; omega
            have HLL := Lib.hid hLL
            show Calls Try.prog 73 #[.pointer (some ⟨g, 0, none⟩), .int .i64 a, .int .i64 ((0 : Nat) : Int)] w fun e w' => ∃ A' c', e = .returned (.tuple #[.slice A' ((L.drop 0).take 0).length c', .int .i64 0]) ∧ Own S w0 w' (SP.ents 26 (.slice A' ((L.drop 0).take 0).length c') ((L.drop 0).take 0) :: SP.log 88 g ⟨b, tb, L, hv, sv, cv, pv, av⟩ :: R)
            rw [hLL]
            have HCo := Lib.hid (fun (W : World) (o : Own S w0 W (SP.blk g 88 (logA ⟨b, tb, L, hv, sv, cv, pv, av⟩ (.slice none 0 0)) :: SP.ents 26 (.slice none 0 0) L :: R)) => show Calls Try.prog 34 #[.slice none 0 0] W fun e w' => ∃ A' c', e = .returned (.slice A' 0 c') ∧ Own S w0 w' (SP.ents 26 (.slice A' 0 c') ((L.drop 0).take 0) :: SP.blk g 88 (logA ⟨b, tb, L, hv, sv, cv, pv, av⟩ (.slice none 0 0)) :: SP.ents 26 (.slice none 0 0) L :: R) from by
              have := copies_own (c := 0) (A := none) (es := ([] : List E)) (by simp) (fun m hm => by cases hm) o EReads.nil
              rw [show (L.drop 0).take 0 = [] from by rw [List.drop_eq_nil_of_le (by omega), List.take_nil]]
              exact this)
            have wl : IntKind.i64.wrap (0 : Int) = (0 : Int) := IntWalk.i64_in _ (by omega)
            have q1 : (0 : Int) ≤ (hi : Int) := by omega
            have q2 : (0 : Int) ≤ (0 : Int) := by omega
            have q3 : ¬ ((0 : Nat) : Int) < 0 := by omega
            have q4 : (hi : Int) ≤ (0 : Int) := by omega
            have q5 : (0 : Int) ≤ (0 : Int) := by omega
            have q6 : ¬ (0 : Int) < (0 : Int) := by omega
            have e7 : (if ((0 : Nat) : Int) < 0 then 0 else ((0 : Nat) : Int)) = ((0 : Nat) : Int) := if_neg q3
            have e15 : (if (0 : Int) < ((0 : Nat) : Int) then (0 : Int) else ((0 : Nat) : Int)) = (0 : Int) := by split <;> omega
            have wr : IntKind.i64.wrap ((0 : Int) - (0 : Int)) = (0 : Int) := by rw [IntWalk.i64_in _ (by omega)]; omega
            have wh : IntKind.i64.wrap ((0 : Int) + (0 : Int)) = (hi : Int) := by rw [IntWalk.i64_in _ (by omega)]; omega
            clear hdat hn HE HLL hLL hlo hr hhi
            go_enter Try.func73, Try.ntmps73
            go_wp2_with fail
            refine (HLa.out).mono ?_
            rintro e w1 ⟨rfl, o1⟩
            have e0 := o1.blk_cell 0
            simp only [logA, List.getElem?_toArray, List.getElem?_cons_zero, List.getElem?_cons_succ] at e0
            have O1 := Lib.hid o1
            clear o1 HLa c0 c2
            go_upto_region 6 with (fail)
            clear e0
            have HSF := Lib.hid (fun (W : World) (R' : List SP) (o : Own S w0 W (SP.blk g 88 (logA ⟨b, tb, L, hv, sv, cv, pv, av⟩ (.slice none 0 0)) :: R')) => show W.cell? ⟨g, 2, none⟩ = some (.slice none 0 0) ∧ W.cell? ⟨g, 0, none⟩ = some (.int .i64 b) from ⟨o.blk_cell 2, o.blk_cell 0⟩)
            refine wp_region_need (fun W => W.cell? ⟨g, 2, none⟩ = some (.slice none 0 0) ∧ W.cell? ⟨g, 0, none⟩ = some (.int .i64 b)) (fun j => decide (j < 18)) (by kernel_rfl) ?_
            obtain ⟨W0, hW0⟩ : ∃ W0, w1.drew = W0 := ⟨_, rfl⟩
            have HS := Lib.hid (HSF.out _ _ O1.out.drew)
            have O2 := Lib.hid O1.out.drew
            rw [hW0] at HS O2 ⊢
            clear hW0
            refine wpAnyN_take (i := 0) (v := ?vn0c0) (by simp only [List.getElem?_toArray, List.getElem?_cons_succ, List.getElem?_cons_zero]; rfl) (by kernel_rfl) (by intro _ _ _ h; exact h) (Or.inl ⟨by rfl, ?yn0c0⟩) HS.out ?rn0c0
            case yn0c0 =>
              intro W hSW
              try dsimp only at hSW
              obtain ⟨s0, s1⟩ := hSW
              go_simp
              try with_reducible rfl
            simp only [Act.put, List.setIfInBounds_toArray, List.set_cons_zero, List.set_cons_succ]
            refine wpAnyN_take (i := 1) (v := ?vn0c1) (by simp only [List.getElem?_toArray, List.getElem?_cons_succ, List.getElem?_cons_zero]; rfl) (by kernel_rfl) (by intro _ _ _ h; exact h) (Or.inl ⟨by rfl, ?yn0c1⟩) HS.out ?rn0c1
            case yn0c1 =>
              intro W hSW
              try dsimp only at hSW
              obtain ⟨s0, s1⟩ := hSW
              go_simp
              try with_reducible rfl
            simp only [Act.put, List.setIfInBounds_toArray, List.set_cons_zero, List.set_cons_succ]
            refine wpAnyN_take (i := 2) (v := ?vn0c2) (by simp only [List.getElem?_toArray, List.getElem?_cons_succ, List.getElem?_cons_zero]; rfl) (by kernel_rfl) (by intro _ _ _ h; exact h) (Or.inl ⟨by rfl, ?yn0c2⟩) HS.out ?rn0c2
            case yn0c2 =>
              intro W hSW
              try dsimp only at hSW
              obtain ⟨s0, s1⟩ := hSW
              go_simp
              try with_reducible rfl
            simp only [Act.put, List.setIfInBounds_toArray, List.set_cons_zero, List.set_cons_succ]
            refine wpAnyN_take (i := 3) (v := ?vn0c3) (by simp only [List.getElem?_toArray, List.getElem?_cons_succ, List.getElem?_cons_zero]; rfl) (by kernel_rfl) (by intro _ _ _ h; exact h) (Or.inl ⟨by rfl, ?yn0c3⟩) HS.out ?rn0c3
            case yn0c3 =>
              intro W hSW
              try dsimp only at hSW
              obtain ⟨s0, s1⟩ := hSW
              go_simp
              try with_reducible rfl
            simp only [Act.put, List.setIfInBounds_toArray, List.set_cons_zero, List.set_cons_succ]
            refine wpAnyN_take (i := 4) (v := ?vn0c4) (by simp only [List.getElem?_toArray, List.getElem?_cons_succ, List.getElem?_cons_zero]; rfl) (by kernel_rfl) (by intro _ _ _ h; exact h) (Or.inl ⟨by rfl, ?yn0c4⟩) HS.out ?rn0c4
            case yn0c4 =>
              intro W hSW
              try dsimp only at hSW
              obtain ⟨s0, s1⟩ := hSW
              go_simp
              try with_reducible rfl
            simp only [Act.put, List.setIfInBounds_toArray, List.set_cons_zero, List.set_cons_succ]
            refine wpAnyN_take (i := 5) (v := ?vn0c5) (by simp only [List.getElem?_toArray, List.getElem?_cons_succ, List.getElem?_cons_zero]; rfl) (by kernel_rfl) (by intro _ _ _ h; exact h) (Or.inl ⟨by rfl, ?yn0c5⟩) HS.out ?rn0c5
            case yn0c5 =>
              intro W hSW
              try dsimp only at hSW
              obtain ⟨s0, s1⟩ := hSW
              go_simp
              try with_reducible rfl
            simp only [Act.put, List.setIfInBounds_toArray, List.set_cons_zero, List.set_cons_succ]
            refine wpAnyN_take (i := 6) (v := ?vn0c6) (by simp only [List.getElem?_toArray, List.getElem?_cons_succ, List.getElem?_cons_zero]; rfl) (by kernel_rfl) (by intro _ _ _ h; exact h) (Or.inl ⟨by rfl, ?yn0c6⟩) HS.out ?rn0c6
            case yn0c6 =>
              intro W hSW
              try dsimp only at hSW
              obtain ⟨s0, s1⟩ := hSW
              go_simp
              try with_reducible rfl
            simp only [Act.put, List.setIfInBounds_toArray, List.set_cons_zero, List.set_cons_succ]
            refine wpAnyN_take (i := 7) (v := ?vn0c7) (by simp only [List.getElem?_toArray, List.getElem?_cons_succ, List.getElem?_cons_zero]; rfl) (by kernel_rfl) (by intro _ _ _ h; exact h) (Or.inl ⟨by rfl, ?yn0c7⟩) HS.out ?rn0c7
            case yn0c7 =>
              intro W hSW
              try dsimp only at hSW
              obtain ⟨s0, s1⟩ := hSW
              go_simp
              try with_reducible rfl
            simp only [Act.put, List.setIfInBounds_toArray, List.set_cons_zero, List.set_cons_succ]
            refine wpAnyN_take (i := 8) (v := ?vn0c8) (by simp only [List.getElem?_toArray, List.getElem?_cons_succ, List.getElem?_cons_zero]; rfl) (by kernel_rfl) (by intro _ _ _ h; exact h) (Or.inl ⟨by rfl, ?yn0c8⟩) HS.out ?rn0c8
            case yn0c8 =>
              intro W hSW
              try dsimp only at hSW
              obtain ⟨s0, s1⟩ := hSW
              go_simp
              try with_reducible rfl
            simp only [Act.put, List.setIfInBounds_toArray, List.set_cons_zero, List.set_cons_succ]
            refine wpAnyN_take (i := 9) (v := ?vn0c9) (by simp only [List.getElem?_toArray, List.getElem?_cons_succ, List.getElem?_cons_zero]; rfl) (by kernel_rfl) (by intro _ _ _ h; exact h) (Or.inl ⟨by rfl, ?yn0c9⟩) HS.out ?rn0c9
            case yn0c9 =>
              intro W hSW
              try dsimp only at hSW
              obtain ⟨s0, s1⟩ := hSW
              go_simp
              try with_reducible rfl
            simp only [Act.put, List.setIfInBounds_toArray, List.set_cons_zero, List.set_cons_succ]
            refine wpAnyN_take (i := 10) (v := ?vn0c10) (by simp only [List.getElem?_toArray, List.getElem?_cons_succ, List.getElem?_cons_zero]; rfl) (by kernel_rfl) (by intro _ _ _ h; exact h) (Or.inl ⟨by rfl, ?yn0c10⟩) HS.out ?rn0c10
            case yn0c10 =>
              intro W hSW
              try dsimp only at hSW
              obtain ⟨s0, s1⟩ := hSW
              go_simp
              try with_reducible rfl
            simp only [Act.put, List.setIfInBounds_toArray, List.set_cons_zero, List.set_cons_succ]
            refine wpAnyN_take (i := 11) (v := ?vn0c11) (by simp only [List.getElem?_toArray, List.getElem?_cons_succ, List.getElem?_cons_zero]; rfl) (by kernel_rfl) (by intro _ _ _ h; exact h) (Or.inl ⟨by rfl, ?yn0c11⟩) HS.out ?rn0c11
            case yn0c11 =>
              intro W hSW
              try dsimp only at hSW
              obtain ⟨s0, s1⟩ := hSW
              go_simp
              try with_reducible rfl
            simp only [Act.put, List.setIfInBounds_toArray, List.set_cons_zero, List.set_cons_succ]
            refine wpAnyN_take (i := 12) (v := ?vn0c12) (by simp only [List.getElem?_toArray, List.getElem?_cons_succ, List.getElem?_cons_zero]; rfl) (by kernel_rfl) (by intro _ _ _ h; exact h) (Or.inl ⟨by rfl, ?yn0c12⟩) HS.out ?rn0c12
            case yn0c12 =>
              intro W hSW
              try dsimp only at hSW
              obtain ⟨s0, s1⟩ := hSW
              go_simp
              try with_reducible rfl
            simp only [Act.put, List.setIfInBounds_toArray, List.set_cons_zero, List.set_cons_succ]
            refine wpAnyN_take (i := 13) (v := ?vn0c13) (by simp only [List.getElem?_toArray, List.getElem?_cons_succ, List.getElem?_cons_zero]; rfl) (by kernel_rfl) (by intro _ _ _ h; exact h) (Or.inl ⟨by rfl, ?yn0c13⟩) HS.out ?rn0c13
            case yn0c13 =>
              intro W hSW
              try dsimp only at hSW
              obtain ⟨s0, s1⟩ := hSW
              go_simp
              try with_reducible rfl
            simp only [Act.put, List.setIfInBounds_toArray, List.set_cons_zero, List.set_cons_succ]
            refine wpAnyN_take (i := 14) (v := ?vn0c14) (by simp only [List.getElem?_toArray, List.getElem?_cons_succ, List.getElem?_cons_zero]; rfl) (by kernel_rfl) (by intro _ _ _ h; exact h) (Or.inl ⟨by rfl, ?yn0c14⟩) HS.out ?rn0c14
            case yn0c14 =>
              intro W hSW
              try dsimp only at hSW
              obtain ⟨s0, s1⟩ := hSW
              go_simp
              try with_reducible rfl
            simp only [Act.put, List.setIfInBounds_toArray, List.set_cons_zero, List.set_cons_succ]
            refine wpAnyN_take (i := 15) (v := ?vn0c15) (by simp only [List.getElem?_toArray, List.getElem?_cons_succ, List.getElem?_cons_zero]; rfl) (by kernel_rfl) (by intro _ _ _ h; exact h) (Or.inl ⟨by rfl, ?yn0c15⟩) HS.out ?rn0c15
            case yn0c15 =>
              intro W hSW
              try dsimp only at hSW
              obtain ⟨s0, s1⟩ := hSW
              go_simp
              try with_reducible rfl
            simp only [Act.put, List.setIfInBounds_toArray, List.set_cons_zero, List.set_cons_succ]
            refine wpAnyN_take (i := 16) (v := ?vn0c16) (by simp only [List.getElem?_toArray, List.getElem?_cons_succ, List.getElem?_cons_zero]; rfl) (by kernel_rfl) (by intro _ _ _ h; exact h) (Or.inl ⟨by rfl, ?yn0c16⟩) HS.out ?rn0c16
            case yn0c16 =>
              intro W hSW
              try dsimp only at hSW
              obtain ⟨s0, s1⟩ := hSW
              go_simp
              try with_reducible rfl
            simp only [Act.put, List.setIfInBounds_toArray, List.set_cons_zero, List.set_cons_succ]
            refine wpAnyN_take (i := 17) (v := ?vn0c17) (by simp only [List.getElem?_toArray, List.getElem?_cons_succ, List.getElem?_cons_zero]; rfl) (by kernel_rfl) (by intro _ _ _ h; exact h) (Or.inl ⟨by rfl, ?yn0c17⟩) HS.out ?rn0c17
            case yn0c17 =>
              intro W hSW
              try dsimp only at hSW
              obtain ⟨s0, s1⟩ := hSW
              go_simp
              try with_reducible rfl
            simp only [Act.put, List.setIfInBounds_toArray, List.set_cons_zero, List.set_cons_succ]
            refine wpAnyN_one (i := 18) (by kernel_rfl) (by simp only [List.getElem?_toArray, List.getElem?_cons_succ, List.getElem?_cons_zero]; rfl) (fun K hK => ?_)
            refine step_call rfl 34 _ _ rfl Try.func34 (by kernel_rfl) (by kernel_rfl) #[.slice none 0 0] (by simp [Act.eval]) ?_
            refine (HCo.out _ O2.out).mono ?_
            rintro e w2 ⟨A5, c5, rfl, o5⟩
            refine ⟨_, rfl, ?_⟩
            refine hK _ _ ⟨fun h => (by cases h), ?_⟩
            clear hK K HS O2
            try simp only [Act.put, List.setIfInBounds_toArray, List.set_cons_zero, List.set_cons_succ]
            refine wpAnyN_one (i := 19) (by kernel_rfl) (by simp only [List.getElem?_toArray, List.getElem?_cons_succ, List.getElem?_cons_zero]; rfl) (fun K hK => ?_)
            go_simp
            refine hK _ _ ⟨fun h => (by cases h), ?_⟩
            clear hK K
            try simp only [Act.put, List.setIfInBounds_toArray, List.set_cons_zero, List.set_cons_succ]
            refine wpAnyN_one (i := 20) (by kernel_rfl) (by simp only [List.getElem?_toArray, List.getElem?_cons_succ, List.getElem?_cons_zero]; rfl) (fun K hK => ?_)
            go_simp
            refine hK _ _ ⟨fun h => (by cases h), ?_⟩
            clear hK K
            try simp only [Act.put, List.setIfInBounds_toArray, List.set_cons_zero, List.set_cons_succ]
            refine wpAnyN_done (by kernel_rfl) ?_ _
            have O5 := Lib.hid (Own.log_shut (x := ⟨b, tb, L, hv, sv, cv, pv, av⟩) (o5.pick (L := [_, _, _]) [1, 2, 0])).swap
            clear o5 O1 HCo
            try skip
            go_wp2
            go_ret2
            exact ⟨A5, c5, rfl, O5.out⟩
      · have HLa := Lib.hid (rlast_own2 HXX.out.1 HXX.out.2.1 HXX.out.2.2 o1)
        rw [HLq.out] at HLa
        clear o1 HLg
        by_cases hm0 : most < 0
        · have hlo := HLO.out
          have HE := Lib.hid (show Lg.entries ⟨b, tb, L, hv, sv, cv, pv, av⟩ a most = ((L.drop lo).take 0, 0) from by
            unfold Lg.entries Lg.lastI
            simp only
            rw [if_neg h1, if_neg (by omega), show (a - b - 1).toNat = lo by omega]
            rw [show most.toNat = 0 by omega])
          rw [HE.out]
          have hLL : ((L.drop lo).take 0).length = 0 := by rw [List.length_take, List.length_drop]; omega
          have HLL := Lib.hid hLL
          show Calls Try.prog 73 #[.pointer (some ⟨g, 0, none⟩), .int .i64 a, .int .i64 most] w fun e w' => ∃ A' c', e = .returned (.tuple #[.slice A' ((L.drop lo).take 0).length c', .int .i64 0]) ∧ Own S w0 w' (SP.ents 26 (.slice A' ((L.drop lo).take 0).length c') ((L.drop lo).take 0) :: SP.log 88 g ⟨b, tb, L, hv, sv, cv, pv, av⟩ :: R)
          rw [hLL]
          have HCo := Lib.hid (fun (W : World) (o : Own S w0 W (SP.blk g 88 (logA ⟨b, tb, L, hv, sv, cv, pv, av⟩ (.slice (some ⟨bl, off, none⟩) n c)) :: SP.ents 26 (.slice (some ⟨bl, off, none⟩) n c) L :: R)) => show Calls Try.prog 34 #[.slice (if c = lo then some ⟨bl, off, none⟩ else some ⟨bl, off + lo * 4, none⟩) 0 (c - lo)] W fun e w' => ∃ A' c', e = .returned (.slice A' 0 c') ∧ Own S w0 w' (SP.ents 26 (.slice A' 0 c') ((L.drop lo).take 0) :: SP.blk g 88 (logA ⟨b, tb, L, hv, sv, cv, pv, av⟩ (.slice (some ⟨bl, off, none⟩) n c)) :: SP.ents 26 (.slice (some ⟨bl, off, none⟩) n c) L :: R) from by
            have hr := cut_reads (S := S) (w0 := w0) (R := R) (bl := bl) (off := off) (lo := lo) 0 (by omega) hc1 hn
            have := copies_own (c := c - lo) (es := ((L.drop lo).take 0)) (by rw [List.length_take, List.length_drop]; omega) (fun m hm => by have := hdat m (List.mem_of_mem_drop (List.mem_of_mem_take hm)); omega) o (EReads.more hr [_])
            rw [show ((L.drop lo).take 0).length = 0 by rw [List.length_take, List.length_drop]; omega] at this
            exact this)
          have wl : IntKind.i64.wrap (lo : Int) = (lo : Int) := IntWalk.i64_in _ (by omega)
          have q1 : (lo : Int) ≤ (n : Int) := by omega
          have q2 : (0 : Int) ≤ (lo : Int) := by omega
          have q3 : ¬ (rn : Int) < 0 := by omega
          have e7 : (if most < 0 then 0 else most) = 0 := if_pos hm0
          have e15 : (if (rn : Int) < 0 then (rn : Int) else 0) = 0 := if_neg q3
          have q4 : (n : Int) ≤ (c : Int) := by omega
          have q5 : (lo : Int) ≤ (c : Int) := by omega
          have wr : IntKind.i64.wrap ((n : Int) - (lo : Int)) = (rn : Int) := by rw [IntWalk.i64_in _ (by omega)]; omega
          clear hdat hn HE HLL hLL hlo hr
          go_enter Try.func73, Try.ntmps73
          go_wp2_with fail
          refine (HLa.out).mono ?_
          rintro e w1 ⟨rfl, o1⟩
          have e0 := o1.blk_cell 0
          simp only [logA, List.getElem?_toArray, List.getElem?_cons_zero, List.getElem?_cons_succ] at e0
          have O1 := Lib.hid o1
          clear o1 HLa c0 c2
          go_upto_region 6 with (fail)
          clear e0
          have HSF := Lib.hid (fun (W : World) (R' : List SP) (o : Own S w0 W (SP.blk g 88 (logA ⟨b, tb, L, hv, sv, cv, pv, av⟩ (.slice (some ⟨bl, off, none⟩) n c)) :: R')) => show W.cell? ⟨g, 2, none⟩ = some (.slice (some ⟨bl, off, none⟩) n c) ∧ W.cell? ⟨g, 0, none⟩ = some (.int .i64 b) from ⟨o.blk_cell 2, o.blk_cell 0⟩)
          refine wp_region_need (fun W => W.cell? ⟨g, 2, none⟩ = some (.slice (some ⟨bl, off, none⟩) n c) ∧ W.cell? ⟨g, 0, none⟩ = some (.int .i64 b)) (fun j => decide (j < 18)) (by kernel_rfl) ?_
          obtain ⟨W0, hW0⟩ : ∃ W0, w1.drew = W0 := ⟨_, rfl⟩
          have HS := Lib.hid (HSF.out _ _ O1.out.drew)
          have O2 := Lib.hid O1.out.drew
          rw [hW0] at HS O2 ⊢
          clear hW0
          refine wpAnyN_take (i := 0) (v := ?vn1a0) (by simp only [List.getElem?_toArray, List.getElem?_cons_succ, List.getElem?_cons_zero]; rfl) (by kernel_rfl) (by intro _ _ _ h; exact h) (Or.inl ⟨by rfl, ?yn1a0⟩) HS.out ?rn1a0
          case yn1a0 =>
            intro W hSW
            try dsimp only at hSW
            obtain ⟨s0, s1⟩ := hSW
            go_simp
            try with_reducible rfl
          simp only [Act.put, List.setIfInBounds_toArray, List.set_cons_zero, List.set_cons_succ]
          refine wpAnyN_take (i := 1) (v := ?vn1a1) (by simp only [List.getElem?_toArray, List.getElem?_cons_succ, List.getElem?_cons_zero]; rfl) (by kernel_rfl) (by intro _ _ _ h; exact h) (Or.inl ⟨by rfl, ?yn1a1⟩) HS.out ?rn1a1
          case yn1a1 =>
            intro W hSW
            try dsimp only at hSW
            obtain ⟨s0, s1⟩ := hSW
            go_simp
            try with_reducible rfl
          simp only [Act.put, List.setIfInBounds_toArray, List.set_cons_zero, List.set_cons_succ]
          refine wpAnyN_take (i := 2) (v := ?vn1a2) (by simp only [List.getElem?_toArray, List.getElem?_cons_succ, List.getElem?_cons_zero]; rfl) (by kernel_rfl) (by intro _ _ _ h; exact h) (Or.inl ⟨by rfl, ?yn1a2⟩) HS.out ?rn1a2
          case yn1a2 =>
            intro W hSW
            try dsimp only at hSW
            obtain ⟨s0, s1⟩ := hSW
            go_simp
            try with_reducible rfl
          simp only [Act.put, List.setIfInBounds_toArray, List.set_cons_zero, List.set_cons_succ]
          refine wpAnyN_take (i := 3) (v := ?vn1a3) (by simp only [List.getElem?_toArray, List.getElem?_cons_succ, List.getElem?_cons_zero]; rfl) (by kernel_rfl) (by intro _ _ _ h; exact h) (Or.inl ⟨by rfl, ?yn1a3⟩) HS.out ?rn1a3
          case yn1a3 =>
            intro W hSW
            try dsimp only at hSW
            obtain ⟨s0, s1⟩ := hSW
            go_simp
            try with_reducible rfl
          simp only [Act.put, List.setIfInBounds_toArray, List.set_cons_zero, List.set_cons_succ]
          refine wpAnyN_take (i := 4) (v := ?vn1a4) (by simp only [List.getElem?_toArray, List.getElem?_cons_succ, List.getElem?_cons_zero]; rfl) (by kernel_rfl) (by intro _ _ _ h; exact h) (Or.inl ⟨by rfl, ?yn1a4⟩) HS.out ?rn1a4
          case yn1a4 =>
            intro W hSW
            try dsimp only at hSW
            obtain ⟨s0, s1⟩ := hSW
            go_simp
            try with_reducible rfl
          simp only [Act.put, List.setIfInBounds_toArray, List.set_cons_zero, List.set_cons_succ]
          refine wpAnyN_take (i := 5) (v := ?vn1a5) (by simp only [List.getElem?_toArray, List.getElem?_cons_succ, List.getElem?_cons_zero]; rfl) (by kernel_rfl) (by intro _ _ _ h; exact h) (Or.inl ⟨by rfl, ?yn1a5⟩) HS.out ?rn1a5
          case yn1a5 =>
            intro W hSW
            try dsimp only at hSW
            obtain ⟨s0, s1⟩ := hSW
            go_simp
            try with_reducible rfl
          simp only [Act.put, List.setIfInBounds_toArray, List.set_cons_zero, List.set_cons_succ]
          refine wpAnyN_take (i := 6) (v := ?vn1a6) (by simp only [List.getElem?_toArray, List.getElem?_cons_succ, List.getElem?_cons_zero]; rfl) (by kernel_rfl) (by intro _ _ _ h; exact h) (Or.inl ⟨by rfl, ?yn1a6⟩) HS.out ?rn1a6
          case yn1a6 =>
            intro W hSW
            try dsimp only at hSW
            obtain ⟨s0, s1⟩ := hSW
            go_simp
            try with_reducible rfl
          simp only [Act.put, List.setIfInBounds_toArray, List.set_cons_zero, List.set_cons_succ]
          refine wpAnyN_take (i := 7) (v := ?vn1a7) (by simp only [List.getElem?_toArray, List.getElem?_cons_succ, List.getElem?_cons_zero]; rfl) (by kernel_rfl) (by intro _ _ _ h; exact h) (Or.inl ⟨by rfl, ?yn1a7⟩) HS.out ?rn1a7
          case yn1a7 =>
            intro W hSW
            try dsimp only at hSW
            obtain ⟨s0, s1⟩ := hSW
            go_simp
            try with_reducible rfl
          simp only [Act.put, List.setIfInBounds_toArray, List.set_cons_zero, List.set_cons_succ]
          refine wpAnyN_take (i := 8) (v := ?vn1a8) (by simp only [List.getElem?_toArray, List.getElem?_cons_succ, List.getElem?_cons_zero]; rfl) (by kernel_rfl) (by intro _ _ _ h; exact h) (Or.inl ⟨by rfl, ?yn1a8⟩) HS.out ?rn1a8
          case yn1a8 =>
            intro W hSW
            try dsimp only at hSW
            obtain ⟨s0, s1⟩ := hSW
            go_simp
            try with_reducible rfl
          simp only [Act.put, List.setIfInBounds_toArray, List.set_cons_zero, List.set_cons_succ]
          refine wpAnyN_take (i := 9) (v := ?vn1a9) (by simp only [List.getElem?_toArray, List.getElem?_cons_succ, List.getElem?_cons_zero]; rfl) (by kernel_rfl) (by intro _ _ _ h; exact h) (Or.inl ⟨by rfl, ?yn1a9⟩) HS.out ?rn1a9
          case yn1a9 =>
            intro W hSW
            try dsimp only at hSW
            obtain ⟨s0, s1⟩ := hSW
            go_simp
            try with_reducible rfl
          simp only [Act.put, List.setIfInBounds_toArray, List.set_cons_zero, List.set_cons_succ]
          refine wpAnyN_take (i := 10) (v := ?vn1a10) (by simp only [List.getElem?_toArray, List.getElem?_cons_succ, List.getElem?_cons_zero]; rfl) (by kernel_rfl) (by intro _ _ _ h; exact h) (Or.inl ⟨by rfl, ?yn1a10⟩) HS.out ?rn1a10
          case yn1a10 =>
            intro W hSW
            try dsimp only at hSW
            obtain ⟨s0, s1⟩ := hSW
            go_simp
            try with_reducible rfl
          simp only [Act.put, List.setIfInBounds_toArray, List.set_cons_zero, List.set_cons_succ]
          refine wpAnyN_take (i := 11) (v := ?vn1a11) (by simp only [List.getElem?_toArray, List.getElem?_cons_succ, List.getElem?_cons_zero]; rfl) (by kernel_rfl) (by intro _ _ _ h; exact h) (Or.inl ⟨by rfl, ?yn1a11⟩) HS.out ?rn1a11
          case yn1a11 =>
            intro W hSW
            try dsimp only at hSW
            obtain ⟨s0, s1⟩ := hSW
            go_simp
            try with_reducible rfl
          simp only [Act.put, List.setIfInBounds_toArray, List.set_cons_zero, List.set_cons_succ]
          refine wpAnyN_take (i := 12) (v := ?vn1a12) (by simp only [List.getElem?_toArray, List.getElem?_cons_succ, List.getElem?_cons_zero]; rfl) (by kernel_rfl) (by intro _ _ _ h; exact h) (Or.inl ⟨by rfl, ?yn1a12⟩) HS.out ?rn1a12
          case yn1a12 =>
            intro W hSW
            try dsimp only at hSW
            obtain ⟨s0, s1⟩ := hSW
            go_simp
            try with_reducible rfl
          simp only [Act.put, List.setIfInBounds_toArray, List.set_cons_zero, List.set_cons_succ]
          refine wpAnyN_take (i := 13) (v := ?vn1a13) (by simp only [List.getElem?_toArray, List.getElem?_cons_succ, List.getElem?_cons_zero]; rfl) (by kernel_rfl) (by intro _ _ _ h; exact h) (Or.inl ⟨by rfl, ?yn1a13⟩) HS.out ?rn1a13
          case yn1a13 =>
            intro W hSW
            try dsimp only at hSW
            obtain ⟨s0, s1⟩ := hSW
            go_simp
            try with_reducible rfl
          simp only [Act.put, List.setIfInBounds_toArray, List.set_cons_zero, List.set_cons_succ]
          refine wpAnyN_take (i := 14) (v := ?vn1a14) (by simp only [List.getElem?_toArray, List.getElem?_cons_succ, List.getElem?_cons_zero]; rfl) (by kernel_rfl) (by intro _ _ _ h; exact h) (Or.inl ⟨by rfl, ?yn1a14⟩) HS.out ?rn1a14
          case yn1a14 =>
            intro W hSW
            try dsimp only at hSW
            obtain ⟨s0, s1⟩ := hSW
            go_simp
            try with_reducible rfl
          simp only [Act.put, List.setIfInBounds_toArray, List.set_cons_zero, List.set_cons_succ]
          refine wpAnyN_take (i := 15) (v := ?vn1a15) (by simp only [List.getElem?_toArray, List.getElem?_cons_succ, List.getElem?_cons_zero]; rfl) (by kernel_rfl) (by intro _ _ _ h; exact h) (Or.inl ⟨by rfl, ?yn1a15⟩) HS.out ?rn1a15
          case yn1a15 =>
            intro W hSW
            try dsimp only at hSW
            obtain ⟨s0, s1⟩ := hSW
            go_simp
            try with_reducible rfl
          simp only [Act.put, List.setIfInBounds_toArray, List.set_cons_zero, List.set_cons_succ]
          refine wpAnyN_take (i := 16) (v := ?vn1a16) (by simp only [List.getElem?_toArray, List.getElem?_cons_succ, List.getElem?_cons_zero]; rfl) (by kernel_rfl) (by intro _ _ _ h; exact h) (Or.inl ⟨by rfl, ?yn1a16⟩) HS.out ?rn1a16
          case yn1a16 =>
            intro W hSW
            try dsimp only at hSW
            obtain ⟨s0, s1⟩ := hSW
            go_simp
            try with_reducible rfl
          simp only [Act.put, List.setIfInBounds_toArray, List.set_cons_zero, List.set_cons_succ]
          refine wpAnyN_take (i := 17) (v := ?vn1a17) (by simp only [List.getElem?_toArray, List.getElem?_cons_succ, List.getElem?_cons_zero]; rfl) (by kernel_rfl) (by intro _ _ _ h; exact h) (Or.inl ⟨by rfl, ?yn1a17⟩) HS.out ?rn1a17
          case yn1a17 =>
            intro W hSW
            try dsimp only at hSW
            obtain ⟨s0, s1⟩ := hSW
            go_simp
            try with_reducible rfl
          simp only [Act.put, List.setIfInBounds_toArray, List.set_cons_zero, List.set_cons_succ]
          refine wpAnyN_one (i := 18) (by kernel_rfl) (by simp only [List.getElem?_toArray, List.getElem?_cons_succ, List.getElem?_cons_zero]; rfl) (fun K hK => ?_)
          refine step_call rfl 34 _ _ rfl Try.func34 (by kernel_rfl) (by kernel_rfl) #[.slice (if c = lo then some ⟨bl, off, none⟩ else some ⟨bl, off + lo * 4, none⟩) 0 (c - lo)] (by simp [Act.eval]) ?_
          refine (HCo.out _ O2.out).mono ?_
          rintro e w2 ⟨A5, c5, rfl, o5⟩
          refine ⟨_, rfl, ?_⟩
          refine hK _ _ ⟨fun h => (by cases h), ?_⟩
          clear hK K HS O2
          try simp only [Act.put, List.setIfInBounds_toArray, List.set_cons_zero, List.set_cons_succ]
          refine wpAnyN_one (i := 19) (by kernel_rfl) (by simp only [List.getElem?_toArray, List.getElem?_cons_succ, List.getElem?_cons_zero]; rfl) (fun K hK => ?_)
          go_simp
          refine hK _ _ ⟨fun h => (by cases h), ?_⟩
          clear hK K
          try simp only [Act.put, List.setIfInBounds_toArray, List.set_cons_zero, List.set_cons_succ]
          refine wpAnyN_one (i := 20) (by kernel_rfl) (by simp only [List.getElem?_toArray, List.getElem?_cons_succ, List.getElem?_cons_zero]; rfl) (fun K hK => ?_)
          go_simp
          refine hK _ _ ⟨fun h => (by cases h), ?_⟩
          clear hK K
          try simp only [Act.put, List.setIfInBounds_toArray, List.set_cons_zero, List.set_cons_succ]
          refine wpAnyN_done (by kernel_rfl) ?_ _
          have O5 := Lib.hid (Own.log_shut (x := ⟨b, tb, L, hv, sv, cv, pv, av⟩) (o5.pick (L := [_, _, _]) [1, 2, 0])).swap
          clear o5 O1 HCo
          generalize (if c = lo then some (⟨bl, off, none⟩ : Addr) else some ⟨bl, off + lo * 4, none⟩) = A2
          go_wp2
          go_ret2
          exact ⟨A5, c5, rfl, O5.out⟩
        · obtain ⟨mn, hmn⟩ : ∃ mn : Nat, most = (mn : Int) := ⟨most.toNat, by omega⟩
          subst hmn
          by_cases hrm : rn < mn
          · obtain ⟨hi, hhi⟩ : ∃ hi, lo + rn = hi := ⟨_, rfl⟩
            have hlo := HLO.out
            have HE := Lib.hid (show Lg.entries ⟨b, tb, L, hv, sv, cv, pv, av⟩ a (mn : Int) = ((L.drop lo).take rn, 0) from by
              unfold Lg.entries Lg.lastI
              simp only
              rw [if_neg h1, if_neg (by omega), show (a - b - 1).toNat = lo by omega]
              rw [List.take_of_length_le (by rw [List.length_drop]; omega), List.take_of_length_le (by rw [List.length_drop]; omega)])
            rw [HE.out]
            have hLL : ((L.drop lo).take rn).length = (hi - lo) := by rw [List.length_take, List.length_drop]; omega
            have HLL := Lib.hid hLL
            show Calls Try.prog 73 #[.pointer (some ⟨g, 0, none⟩), .int .i64 a, .int .i64 (mn : Int)] w fun e w' => ∃ A' c', e = .returned (.tuple #[.slice A' ((L.drop lo).take rn).length c', .int .i64 0]) ∧ Own S w0 w' (SP.ents 26 (.slice A' ((L.drop lo).take rn).length c') ((L.drop lo).take rn) :: SP.log 88 g ⟨b, tb, L, hv, sv, cv, pv, av⟩ :: R)
            rw [hLL]
            have HCo := Lib.hid (fun (W : World) (o : Own S w0 W (SP.blk g 88 (logA ⟨b, tb, L, hv, sv, cv, pv, av⟩ (.slice (some ⟨bl, off, none⟩) n c)) :: SP.ents 26 (.slice (some ⟨bl, off, none⟩) n c) L :: R)) => show Calls Try.prog 34 #[.slice (if c = lo then some ⟨bl, off, none⟩ else some ⟨bl, off + lo * 4, none⟩) (hi - lo) (c - lo)] W fun e w' => ∃ A' c', e = .returned (.slice A' (hi - lo) c') ∧ Own S w0 w' (SP.ents 26 (.slice A' (hi - lo) c') ((L.drop lo).take rn) :: SP.blk g 88 (logA ⟨b, tb, L, hv, sv, cv, pv, av⟩ (.slice (some ⟨bl, off, none⟩) n c)) :: SP.ents 26 (.slice (some ⟨bl, off, none⟩) n c) L :: R) from by
              have hr := cut_reads (S := S) (w0 := w0) (R := R) (bl := bl) (off := off) (lo := lo) rn (by omega) hc1 hn
              have := copies_own (c := c - lo) (es := ((L.drop lo).take rn)) (by rw [List.length_take, List.length_drop]; omega) (fun m hm => by have := hdat m (List.mem_of_mem_drop (List.mem_of_mem_take hm)); omega) o (EReads.more hr [_])
              rw [show ((L.drop lo).take rn).length = (hi - lo) by rw [List.length_take, List.length_drop]; omega] at this
              exact this)
            have wl : IntKind.i64.wrap (lo : Int) = (lo : Int) := IntWalk.i64_in _ (by omega)
            have q1 : (lo : Int) ≤ (hi : Int) := by omega
            have q2 : (0 : Int) ≤ (lo : Int) := by omega
            have q3 : ¬ (mn : Int) < 0 := by omega
            have q4 : (hi : Int) ≤ (c : Int) := by omega
            have q5 : (lo : Int) ≤ (c : Int) := by omega
            have q6 : (rn : Int) < (mn : Int) := by omega
            have e7 : (if (mn : Int) < 0 then 0 else (mn : Int)) = (mn : Int) := if_neg q3
            have e15 : (if (rn : Int) < (mn : Int) then (rn : Int) else (mn : Int)) = (rn : Int) := by split <;> omega
            have wr : IntKind.i64.wrap ((n : Int) - (lo : Int)) = (rn : Int) := by rw [IntWalk.i64_in _ (by omega)]; omega
            have wh : IntKind.i64.wrap ((lo : Int) + (rn : Int)) = (hi : Int) := by rw [IntWalk.i64_in _ (by omega)]; omega
            clear hdat hn HE HLL hLL hlo hr hhi
            go_enter Try.func73, Try.ntmps73
            go_wp2_with fail
            refine (HLa.out).mono ?_
            rintro e w1 ⟨rfl, o1⟩
            have e0 := o1.blk_cell 0
            simp only [logA, List.getElem?_toArray, List.getElem?_cons_zero, List.getElem?_cons_succ] at e0
            have O1 := Lib.hid o1
            clear o1 HLa c0 c2
            go_upto_region 6 with (fail)
            clear e0
            have HSF := Lib.hid (fun (W : World) (R' : List SP) (o : Own S w0 W (SP.blk g 88 (logA ⟨b, tb, L, hv, sv, cv, pv, av⟩ (.slice (some ⟨bl, off, none⟩) n c)) :: R')) => show W.cell? ⟨g, 2, none⟩ = some (.slice (some ⟨bl, off, none⟩) n c) ∧ W.cell? ⟨g, 0, none⟩ = some (.int .i64 b) from ⟨o.blk_cell 2, o.blk_cell 0⟩)
            refine wp_region_need (fun W => W.cell? ⟨g, 2, none⟩ = some (.slice (some ⟨bl, off, none⟩) n c) ∧ W.cell? ⟨g, 0, none⟩ = some (.int .i64 b)) (fun j => decide (j < 18)) (by kernel_rfl) ?_
            obtain ⟨W0, hW0⟩ : ∃ W0, w1.drew = W0 := ⟨_, rfl⟩
            have HS := Lib.hid (HSF.out _ _ O1.out.drew)
            have O2 := Lib.hid O1.out.drew
            rw [hW0] at HS O2 ⊢
            clear hW0
            refine wpAnyN_take (i := 0) (v := ?vn1b0) (by simp only [List.getElem?_toArray, List.getElem?_cons_succ, List.getElem?_cons_zero]; rfl) (by kernel_rfl) (by intro _ _ _ h; exact h) (Or.inl ⟨by rfl, ?yn1b0⟩) HS.out ?rn1b0
            case yn1b0 =>
              intro W hSW
              try dsimp only at hSW
              obtain ⟨s0, s1⟩ := hSW
              go_simp
              try with_reducible rfl
            simp only [Act.put, List.setIfInBounds_toArray, List.set_cons_zero, List.set_cons_succ]
            refine wpAnyN_take (i := 1) (v := ?vn1b1) (by simp only [List.getElem?_toArray, List.getElem?_cons_succ, List.getElem?_cons_zero]; rfl) (by kernel_rfl) (by intro _ _ _ h; exact h) (Or.inl ⟨by rfl, ?yn1b1⟩) HS.out ?rn1b1
            case yn1b1 =>
              intro W hSW
              try dsimp only at hSW
              obtain ⟨s0, s1⟩ := hSW
              go_simp
              try with_reducible rfl
            simp only [Act.put, List.setIfInBounds_toArray, List.set_cons_zero, List.set_cons_succ]
            refine wpAnyN_take (i := 2) (v := ?vn1b2) (by simp only [List.getElem?_toArray, List.getElem?_cons_succ, List.getElem?_cons_zero]; rfl) (by kernel_rfl) (by intro _ _ _ h; exact h) (Or.inl ⟨by rfl, ?yn1b2⟩) HS.out ?rn1b2
            case yn1b2 =>
              intro W hSW
              try dsimp only at hSW
              obtain ⟨s0, s1⟩ := hSW
              go_simp
              try with_reducible rfl
            simp only [Act.put, List.setIfInBounds_toArray, List.set_cons_zero, List.set_cons_succ]
            refine wpAnyN_take (i := 3) (v := ?vn1b3) (by simp only [List.getElem?_toArray, List.getElem?_cons_succ, List.getElem?_cons_zero]; rfl) (by kernel_rfl) (by intro _ _ _ h; exact h) (Or.inl ⟨by rfl, ?yn1b3⟩) HS.out ?rn1b3
            case yn1b3 =>
              intro W hSW
              try dsimp only at hSW
              obtain ⟨s0, s1⟩ := hSW
              go_simp
              try with_reducible rfl
            simp only [Act.put, List.setIfInBounds_toArray, List.set_cons_zero, List.set_cons_succ]
            refine wpAnyN_take (i := 4) (v := ?vn1b4) (by simp only [List.getElem?_toArray, List.getElem?_cons_succ, List.getElem?_cons_zero]; rfl) (by kernel_rfl) (by intro _ _ _ h; exact h) (Or.inl ⟨by rfl, ?yn1b4⟩) HS.out ?rn1b4
            case yn1b4 =>
              intro W hSW
              try dsimp only at hSW
              obtain ⟨s0, s1⟩ := hSW
              go_simp
              try with_reducible rfl
            simp only [Act.put, List.setIfInBounds_toArray, List.set_cons_zero, List.set_cons_succ]
            refine wpAnyN_take (i := 5) (v := ?vn1b5) (by simp only [List.getElem?_toArray, List.getElem?_cons_succ, List.getElem?_cons_zero]; rfl) (by kernel_rfl) (by intro _ _ _ h; exact h) (Or.inl ⟨by rfl, ?yn1b5⟩) HS.out ?rn1b5
            case yn1b5 =>
              intro W hSW
              try dsimp only at hSW
              obtain ⟨s0, s1⟩ := hSW
              go_simp
              try with_reducible rfl
            simp only [Act.put, List.setIfInBounds_toArray, List.set_cons_zero, List.set_cons_succ]
            refine wpAnyN_take (i := 6) (v := ?vn1b6) (by simp only [List.getElem?_toArray, List.getElem?_cons_succ, List.getElem?_cons_zero]; rfl) (by kernel_rfl) (by intro _ _ _ h; exact h) (Or.inl ⟨by rfl, ?yn1b6⟩) HS.out ?rn1b6
            case yn1b6 =>
              intro W hSW
              try dsimp only at hSW
              obtain ⟨s0, s1⟩ := hSW
              go_simp
              try with_reducible rfl
            simp only [Act.put, List.setIfInBounds_toArray, List.set_cons_zero, List.set_cons_succ]
            refine wpAnyN_take (i := 7) (v := ?vn1b7) (by simp only [List.getElem?_toArray, List.getElem?_cons_succ, List.getElem?_cons_zero]; rfl) (by kernel_rfl) (by intro _ _ _ h; exact h) (Or.inl ⟨by rfl, ?yn1b7⟩) HS.out ?rn1b7
            case yn1b7 =>
              intro W hSW
              try dsimp only at hSW
              obtain ⟨s0, s1⟩ := hSW
              go_simp
              try with_reducible rfl
            simp only [Act.put, List.setIfInBounds_toArray, List.set_cons_zero, List.set_cons_succ]
            refine wpAnyN_take (i := 8) (v := ?vn1b8) (by simp only [List.getElem?_toArray, List.getElem?_cons_succ, List.getElem?_cons_zero]; rfl) (by kernel_rfl) (by intro _ _ _ h; exact h) (Or.inl ⟨by rfl, ?yn1b8⟩) HS.out ?rn1b8
            case yn1b8 =>
              intro W hSW
              try dsimp only at hSW
              obtain ⟨s0, s1⟩ := hSW
              go_simp
              try with_reducible rfl
            simp only [Act.put, List.setIfInBounds_toArray, List.set_cons_zero, List.set_cons_succ]
            refine wpAnyN_take (i := 9) (v := ?vn1b9) (by simp only [List.getElem?_toArray, List.getElem?_cons_succ, List.getElem?_cons_zero]; rfl) (by kernel_rfl) (by intro _ _ _ h; exact h) (Or.inl ⟨by rfl, ?yn1b9⟩) HS.out ?rn1b9
            case yn1b9 =>
              intro W hSW
              try dsimp only at hSW
              obtain ⟨s0, s1⟩ := hSW
              go_simp
              try with_reducible rfl
            simp only [Act.put, List.setIfInBounds_toArray, List.set_cons_zero, List.set_cons_succ]
            refine wpAnyN_take (i := 10) (v := ?vn1b10) (by simp only [List.getElem?_toArray, List.getElem?_cons_succ, List.getElem?_cons_zero]; rfl) (by kernel_rfl) (by intro _ _ _ h; exact h) (Or.inl ⟨by rfl, ?yn1b10⟩) HS.out ?rn1b10
            case yn1b10 =>
              intro W hSW
              try dsimp only at hSW
              obtain ⟨s0, s1⟩ := hSW
              go_simp
              try with_reducible rfl
            simp only [Act.put, List.setIfInBounds_toArray, List.set_cons_zero, List.set_cons_succ]
            refine wpAnyN_take (i := 11) (v := ?vn1b11) (by simp only [List.getElem?_toArray, List.getElem?_cons_succ, List.getElem?_cons_zero]; rfl) (by kernel_rfl) (by intro _ _ _ h; exact h) (Or.inl ⟨by rfl, ?yn1b11⟩) HS.out ?rn1b11
            case yn1b11 =>
              intro W hSW
              try dsimp only at hSW
              obtain ⟨s0, s1⟩ := hSW
              go_simp
              try with_reducible rfl
            simp only [Act.put, List.setIfInBounds_toArray, List.set_cons_zero, List.set_cons_succ]
            refine wpAnyN_take (i := 12) (v := ?vn1b12) (by simp only [List.getElem?_toArray, List.getElem?_cons_succ, List.getElem?_cons_zero]; rfl) (by kernel_rfl) (by intro _ _ _ h; exact h) (Or.inl ⟨by rfl, ?yn1b12⟩) HS.out ?rn1b12
            case yn1b12 =>
              intro W hSW
              try dsimp only at hSW
              obtain ⟨s0, s1⟩ := hSW
              go_simp
              try with_reducible rfl
            simp only [Act.put, List.setIfInBounds_toArray, List.set_cons_zero, List.set_cons_succ]
            refine wpAnyN_take (i := 13) (v := ?vn1b13) (by simp only [List.getElem?_toArray, List.getElem?_cons_succ, List.getElem?_cons_zero]; rfl) (by kernel_rfl) (by intro _ _ _ h; exact h) (Or.inl ⟨by rfl, ?yn1b13⟩) HS.out ?rn1b13
            case yn1b13 =>
              intro W hSW
              try dsimp only at hSW
              obtain ⟨s0, s1⟩ := hSW
              go_simp
              try with_reducible rfl
            simp only [Act.put, List.setIfInBounds_toArray, List.set_cons_zero, List.set_cons_succ]
            refine wpAnyN_take (i := 14) (v := ?vn1b14) (by simp only [List.getElem?_toArray, List.getElem?_cons_succ, List.getElem?_cons_zero]; rfl) (by kernel_rfl) (by intro _ _ _ h; exact h) (Or.inl ⟨by rfl, ?yn1b14⟩) HS.out ?rn1b14
            case yn1b14 =>
              intro W hSW
              try dsimp only at hSW
              obtain ⟨s0, s1⟩ := hSW
              go_simp
              try with_reducible rfl
            simp only [Act.put, List.setIfInBounds_toArray, List.set_cons_zero, List.set_cons_succ]
            refine wpAnyN_take (i := 15) (v := ?vn1b15) (by simp only [List.getElem?_toArray, List.getElem?_cons_succ, List.getElem?_cons_zero]; rfl) (by kernel_rfl) (by intro _ _ _ h; exact h) (Or.inl ⟨by rfl, ?yn1b15⟩) HS.out ?rn1b15
            case yn1b15 =>
              intro W hSW
              try dsimp only at hSW
              obtain ⟨s0, s1⟩ := hSW
              go_simp
              try with_reducible rfl
            simp only [Act.put, List.setIfInBounds_toArray, List.set_cons_zero, List.set_cons_succ]
            refine wpAnyN_take (i := 16) (v := ?vn1b16) (by simp only [List.getElem?_toArray, List.getElem?_cons_succ, List.getElem?_cons_zero]; rfl) (by kernel_rfl) (by intro _ _ _ h; exact h) (Or.inl ⟨by rfl, ?yn1b16⟩) HS.out ?rn1b16
            case yn1b16 =>
              intro W hSW
              try dsimp only at hSW
              obtain ⟨s0, s1⟩ := hSW
              go_simp
              try with_reducible rfl
            simp only [Act.put, List.setIfInBounds_toArray, List.set_cons_zero, List.set_cons_succ]
            refine wpAnyN_take (i := 17) (v := ?vn1b17) (by simp only [List.getElem?_toArray, List.getElem?_cons_succ, List.getElem?_cons_zero]; rfl) (by kernel_rfl) (by intro _ _ _ h; exact h) (Or.inl ⟨by rfl, ?yn1b17⟩) HS.out ?rn1b17
            case yn1b17 =>
              intro W hSW
              try dsimp only at hSW
              obtain ⟨s0, s1⟩ := hSW
              go_simp
              try with_reducible rfl
            simp only [Act.put, List.setIfInBounds_toArray, List.set_cons_zero, List.set_cons_succ]
            refine wpAnyN_one (i := 18) (by kernel_rfl) (by simp only [List.getElem?_toArray, List.getElem?_cons_succ, List.getElem?_cons_zero]; rfl) (fun K hK => ?_)
            refine step_call rfl 34 _ _ rfl Try.func34 (by kernel_rfl) (by kernel_rfl) #[.slice (if c = lo then some ⟨bl, off, none⟩ else some ⟨bl, off + lo * 4, none⟩) (hi - lo) (c - lo)] (by simp [Act.eval]) ?_
            refine (HCo.out _ O2.out).mono ?_
            rintro e w2 ⟨A5, c5, rfl, o5⟩
            refine ⟨_, rfl, ?_⟩
            refine hK _ _ ⟨fun h => (by cases h), ?_⟩
            clear hK K HS O2
            try simp only [Act.put, List.setIfInBounds_toArray, List.set_cons_zero, List.set_cons_succ]
            refine wpAnyN_one (i := 19) (by kernel_rfl) (by simp only [List.getElem?_toArray, List.getElem?_cons_succ, List.getElem?_cons_zero]; rfl) (fun K hK => ?_)
            go_simp
            refine hK _ _ ⟨fun h => (by cases h), ?_⟩
            clear hK K
            try simp only [Act.put, List.setIfInBounds_toArray, List.set_cons_zero, List.set_cons_succ]
            refine wpAnyN_one (i := 20) (by kernel_rfl) (by simp only [List.getElem?_toArray, List.getElem?_cons_succ, List.getElem?_cons_zero]; rfl) (fun K hK => ?_)
            go_simp
            refine hK _ _ ⟨fun h => (by cases h), ?_⟩
            clear hK K
            try simp only [Act.put, List.setIfInBounds_toArray, List.set_cons_zero, List.set_cons_succ]
            refine wpAnyN_done (by kernel_rfl) ?_ _
            have O5 := Lib.hid (Own.log_shut (x := ⟨b, tb, L, hv, sv, cv, pv, av⟩) (o5.pick (L := [_, _, _]) [1, 2, 0])).swap
            clear o5 O1 HCo
            generalize (if c = lo then some (⟨bl, off, none⟩ : Addr) else some ⟨bl, off + lo * 4, none⟩) = A2
            go_wp2
            go_ret2
            exact ⟨A5, c5, rfl, O5.out⟩
          · obtain ⟨hi, hhi⟩ : ∃ hi, lo + mn = hi := ⟨_, rfl⟩
            have hlo := HLO.out
            have HE := Lib.hid (show Lg.entries ⟨b, tb, L, hv, sv, cv, pv, av⟩ a (mn : Int) = ((L.drop lo).take mn, 0) from by
              unfold Lg.entries Lg.lastI
              simp only
              rw [if_neg h1, if_neg (by omega), show (a - b - 1).toNat = lo by omega]
              rw [show ((mn : Int)).toNat = mn by omega])
            rw [HE.out]
            have hLL : ((L.drop lo).take mn).length = (hi - lo) := by rw [List.length_take, List.length_drop]; omega
            have HLL := Lib.hid hLL
            show Calls Try.prog 73 #[.pointer (some ⟨g, 0, none⟩), .int .i64 a, .int .i64 (mn : Int)] w fun e w' => ∃ A' c', e = .returned (.tuple #[.slice A' ((L.drop lo).take mn).length c', .int .i64 0]) ∧ Own S w0 w' (SP.ents 26 (.slice A' ((L.drop lo).take mn).length c') ((L.drop lo).take mn) :: SP.log 88 g ⟨b, tb, L, hv, sv, cv, pv, av⟩ :: R)
            rw [hLL]
            have HCo := Lib.hid (fun (W : World) (o : Own S w0 W (SP.blk g 88 (logA ⟨b, tb, L, hv, sv, cv, pv, av⟩ (.slice (some ⟨bl, off, none⟩) n c)) :: SP.ents 26 (.slice (some ⟨bl, off, none⟩) n c) L :: R)) => show Calls Try.prog 34 #[.slice (if c = lo then some ⟨bl, off, none⟩ else some ⟨bl, off + lo * 4, none⟩) (hi - lo) (c - lo)] W fun e w' => ∃ A' c', e = .returned (.slice A' (hi - lo) c') ∧ Own S w0 w' (SP.ents 26 (.slice A' (hi - lo) c') ((L.drop lo).take mn) :: SP.blk g 88 (logA ⟨b, tb, L, hv, sv, cv, pv, av⟩ (.slice (some ⟨bl, off, none⟩) n c)) :: SP.ents 26 (.slice (some ⟨bl, off, none⟩) n c) L :: R) from by
              have hr := cut_reads (S := S) (w0 := w0) (R := R) (bl := bl) (off := off) (lo := lo) mn (by omega) hc1 hn
              have := copies_own (c := c - lo) (es := ((L.drop lo).take mn)) (by rw [List.length_take, List.length_drop]; omega) (fun m hm => by have := hdat m (List.mem_of_mem_drop (List.mem_of_mem_take hm)); omega) o (EReads.more hr [_])
              rw [show ((L.drop lo).take mn).length = (hi - lo) by rw [List.length_take, List.length_drop]; omega] at this
              exact this)
            have wl : IntKind.i64.wrap (lo : Int) = (lo : Int) := IntWalk.i64_in _ (by omega)
            have q1 : (lo : Int) ≤ (hi : Int) := by omega
            have q2 : (0 : Int) ≤ (lo : Int) := by omega
            have q3 : ¬ (mn : Int) < 0 := by omega
            have q4 : (hi : Int) ≤ (c : Int) := by omega
            have q5 : (lo : Int) ≤ (c : Int) := by omega
            have q6 : ¬ (rn : Int) < (mn : Int) := by omega
            have e7 : (if (mn : Int) < 0 then 0 else (mn : Int)) = (mn : Int) := if_neg q3
            have e15 : (if (rn : Int) < (mn : Int) then (rn : Int) else (mn : Int)) = (mn : Int) := by split <;> omega
            have wr : IntKind.i64.wrap ((n : Int) - (lo : Int)) = (rn : Int) := by rw [IntWalk.i64_in _ (by omega)]; omega
            have wh : IntKind.i64.wrap ((lo : Int) + (mn : Int)) = (hi : Int) := by rw [IntWalk.i64_in _ (by omega)]; omega
            clear hdat hn HE HLL hLL hlo hr hhi
            go_enter Try.func73, Try.ntmps73
            go_wp2_with fail
            refine (HLa.out).mono ?_
            rintro e w1 ⟨rfl, o1⟩
            have e0 := o1.blk_cell 0
            simp only [logA, List.getElem?_toArray, List.getElem?_cons_zero, List.getElem?_cons_succ] at e0
            have O1 := Lib.hid o1
            clear o1 HLa c0 c2
            go_upto_region 6 with (fail)
            clear e0
            have HSF := Lib.hid (fun (W : World) (R' : List SP) (o : Own S w0 W (SP.blk g 88 (logA ⟨b, tb, L, hv, sv, cv, pv, av⟩ (.slice (some ⟨bl, off, none⟩) n c)) :: R')) => show W.cell? ⟨g, 2, none⟩ = some (.slice (some ⟨bl, off, none⟩) n c) ∧ W.cell? ⟨g, 0, none⟩ = some (.int .i64 b) from ⟨o.blk_cell 2, o.blk_cell 0⟩)
            refine wp_region_need (fun W => W.cell? ⟨g, 2, none⟩ = some (.slice (some ⟨bl, off, none⟩) n c) ∧ W.cell? ⟨g, 0, none⟩ = some (.int .i64 b)) (fun j => decide (j < 18)) (by kernel_rfl) ?_
            obtain ⟨W0, hW0⟩ : ∃ W0, w1.drew = W0 := ⟨_, rfl⟩
            have HS := Lib.hid (HSF.out _ _ O1.out.drew)
            have O2 := Lib.hid O1.out.drew
            rw [hW0] at HS O2 ⊢
            clear hW0
            refine wpAnyN_take (i := 0) (v := ?vn1c0) (by simp only [List.getElem?_toArray, List.getElem?_cons_succ, List.getElem?_cons_zero]; rfl) (by kernel_rfl) (by intro _ _ _ h; exact h) (Or.inl ⟨by rfl, ?yn1c0⟩) HS.out ?rn1c0
            case yn1c0 =>
              intro W hSW
              try dsimp only at hSW
              obtain ⟨s0, s1⟩ := hSW
              go_simp
              try with_reducible rfl
            simp only [Act.put, List.setIfInBounds_toArray, List.set_cons_zero, List.set_cons_succ]
            refine wpAnyN_take (i := 1) (v := ?vn1c1) (by simp only [List.getElem?_toArray, List.getElem?_cons_succ, List.getElem?_cons_zero]; rfl) (by kernel_rfl) (by intro _ _ _ h; exact h) (Or.inl ⟨by rfl, ?yn1c1⟩) HS.out ?rn1c1
            case yn1c1 =>
              intro W hSW
              try dsimp only at hSW
              obtain ⟨s0, s1⟩ := hSW
              go_simp
              try with_reducible rfl
            simp only [Act.put, List.setIfInBounds_toArray, List.set_cons_zero, List.set_cons_succ]
            refine wpAnyN_take (i := 2) (v := ?vn1c2) (by simp only [List.getElem?_toArray, List.getElem?_cons_succ, List.getElem?_cons_zero]; rfl) (by kernel_rfl) (by intro _ _ _ h; exact h) (Or.inl ⟨by rfl, ?yn1c2⟩) HS.out ?rn1c2
            case yn1c2 =>
              intro W hSW
              try dsimp only at hSW
              obtain ⟨s0, s1⟩ := hSW
              go_simp
              try with_reducible rfl
            simp only [Act.put, List.setIfInBounds_toArray, List.set_cons_zero, List.set_cons_succ]
            refine wpAnyN_take (i := 3) (v := ?vn1c3) (by simp only [List.getElem?_toArray, List.getElem?_cons_succ, List.getElem?_cons_zero]; rfl) (by kernel_rfl) (by intro _ _ _ h; exact h) (Or.inl ⟨by rfl, ?yn1c3⟩) HS.out ?rn1c3
            case yn1c3 =>
              intro W hSW
              try dsimp only at hSW
              obtain ⟨s0, s1⟩ := hSW
              go_simp
              try with_reducible rfl
            simp only [Act.put, List.setIfInBounds_toArray, List.set_cons_zero, List.set_cons_succ]
            refine wpAnyN_take (i := 4) (v := ?vn1c4) (by simp only [List.getElem?_toArray, List.getElem?_cons_succ, List.getElem?_cons_zero]; rfl) (by kernel_rfl) (by intro _ _ _ h; exact h) (Or.inl ⟨by rfl, ?yn1c4⟩) HS.out ?rn1c4
            case yn1c4 =>
              intro W hSW
              try dsimp only at hSW
              obtain ⟨s0, s1⟩ := hSW
              go_simp
              try with_reducible rfl
            simp only [Act.put, List.setIfInBounds_toArray, List.set_cons_zero, List.set_cons_succ]
            refine wpAnyN_take (i := 5) (v := ?vn1c5) (by simp only [List.getElem?_toArray, List.getElem?_cons_succ, List.getElem?_cons_zero]; rfl) (by kernel_rfl) (by intro _ _ _ h; exact h) (Or.inl ⟨by rfl, ?yn1c5⟩) HS.out ?rn1c5
            case yn1c5 =>
              intro W hSW
              try dsimp only at hSW
              obtain ⟨s0, s1⟩ := hSW
              go_simp
              try with_reducible rfl
            simp only [Act.put, List.setIfInBounds_toArray, List.set_cons_zero, List.set_cons_succ]
            refine wpAnyN_take (i := 6) (v := ?vn1c6) (by simp only [List.getElem?_toArray, List.getElem?_cons_succ, List.getElem?_cons_zero]; rfl) (by kernel_rfl) (by intro _ _ _ h; exact h) (Or.inl ⟨by rfl, ?yn1c6⟩) HS.out ?rn1c6
            case yn1c6 =>
              intro W hSW
              try dsimp only at hSW
              obtain ⟨s0, s1⟩ := hSW
              go_simp
              try with_reducible rfl
            simp only [Act.put, List.setIfInBounds_toArray, List.set_cons_zero, List.set_cons_succ]
            refine wpAnyN_take (i := 7) (v := ?vn1c7) (by simp only [List.getElem?_toArray, List.getElem?_cons_succ, List.getElem?_cons_zero]; rfl) (by kernel_rfl) (by intro _ _ _ h; exact h) (Or.inl ⟨by rfl, ?yn1c7⟩) HS.out ?rn1c7
            case yn1c7 =>
              intro W hSW
              try dsimp only at hSW
              obtain ⟨s0, s1⟩ := hSW
              go_simp
              try with_reducible rfl
            simp only [Act.put, List.setIfInBounds_toArray, List.set_cons_zero, List.set_cons_succ]
            refine wpAnyN_take (i := 8) (v := ?vn1c8) (by simp only [List.getElem?_toArray, List.getElem?_cons_succ, List.getElem?_cons_zero]; rfl) (by kernel_rfl) (by intro _ _ _ h; exact h) (Or.inl ⟨by rfl, ?yn1c8⟩) HS.out ?rn1c8
            case yn1c8 =>
              intro W hSW
              try dsimp only at hSW
              obtain ⟨s0, s1⟩ := hSW
              go_simp
              try with_reducible rfl
            simp only [Act.put, List.setIfInBounds_toArray, List.set_cons_zero, List.set_cons_succ]
            refine wpAnyN_take (i := 9) (v := ?vn1c9) (by simp only [List.getElem?_toArray, List.getElem?_cons_succ, List.getElem?_cons_zero]; rfl) (by kernel_rfl) (by intro _ _ _ h; exact h) (Or.inl ⟨by rfl, ?yn1c9⟩) HS.out ?rn1c9
            case yn1c9 =>
              intro W hSW
              try dsimp only at hSW
              obtain ⟨s0, s1⟩ := hSW
              go_simp
              try with_reducible rfl
            simp only [Act.put, List.setIfInBounds_toArray, List.set_cons_zero, List.set_cons_succ]
            refine wpAnyN_take (i := 10) (v := ?vn1c10) (by simp only [List.getElem?_toArray, List.getElem?_cons_succ, List.getElem?_cons_zero]; rfl) (by kernel_rfl) (by intro _ _ _ h; exact h) (Or.inl ⟨by rfl, ?yn1c10⟩) HS.out ?rn1c10
            case yn1c10 =>
              intro W hSW
              try dsimp only at hSW
              obtain ⟨s0, s1⟩ := hSW
              go_simp
              try with_reducible rfl
            simp only [Act.put, List.setIfInBounds_toArray, List.set_cons_zero, List.set_cons_succ]
            refine wpAnyN_take (i := 11) (v := ?vn1c11) (by simp only [List.getElem?_toArray, List.getElem?_cons_succ, List.getElem?_cons_zero]; rfl) (by kernel_rfl) (by intro _ _ _ h; exact h) (Or.inl ⟨by rfl, ?yn1c11⟩) HS.out ?rn1c11
            case yn1c11 =>
              intro W hSW
              try dsimp only at hSW
              obtain ⟨s0, s1⟩ := hSW
              go_simp
              try with_reducible rfl
            simp only [Act.put, List.setIfInBounds_toArray, List.set_cons_zero, List.set_cons_succ]
            refine wpAnyN_take (i := 12) (v := ?vn1c12) (by simp only [List.getElem?_toArray, List.getElem?_cons_succ, List.getElem?_cons_zero]; rfl) (by kernel_rfl) (by intro _ _ _ h; exact h) (Or.inl ⟨by rfl, ?yn1c12⟩) HS.out ?rn1c12
            case yn1c12 =>
              intro W hSW
              try dsimp only at hSW
              obtain ⟨s0, s1⟩ := hSW
              go_simp
              try with_reducible rfl
            simp only [Act.put, List.setIfInBounds_toArray, List.set_cons_zero, List.set_cons_succ]
            refine wpAnyN_take (i := 13) (v := ?vn1c13) (by simp only [List.getElem?_toArray, List.getElem?_cons_succ, List.getElem?_cons_zero]; rfl) (by kernel_rfl) (by intro _ _ _ h; exact h) (Or.inl ⟨by rfl, ?yn1c13⟩) HS.out ?rn1c13
            case yn1c13 =>
              intro W hSW
              try dsimp only at hSW
              obtain ⟨s0, s1⟩ := hSW
              go_simp
              try with_reducible rfl
            simp only [Act.put, List.setIfInBounds_toArray, List.set_cons_zero, List.set_cons_succ]
            refine wpAnyN_take (i := 14) (v := ?vn1c14) (by simp only [List.getElem?_toArray, List.getElem?_cons_succ, List.getElem?_cons_zero]; rfl) (by kernel_rfl) (by intro _ _ _ h; exact h) (Or.inl ⟨by rfl, ?yn1c14⟩) HS.out ?rn1c14
            case yn1c14 =>
              intro W hSW
              try dsimp only at hSW
              obtain ⟨s0, s1⟩ := hSW
              go_simp
              try with_reducible rfl
            simp only [Act.put, List.setIfInBounds_toArray, List.set_cons_zero, List.set_cons_succ]
            refine wpAnyN_take (i := 15) (v := ?vn1c15) (by simp only [List.getElem?_toArray, List.getElem?_cons_succ, List.getElem?_cons_zero]; rfl) (by kernel_rfl) (by intro _ _ _ h; exact h) (Or.inl ⟨by rfl, ?yn1c15⟩) HS.out ?rn1c15
            case yn1c15 =>
              intro W hSW
              try dsimp only at hSW
              obtain ⟨s0, s1⟩ := hSW
              go_simp
              try with_reducible rfl
            simp only [Act.put, List.setIfInBounds_toArray, List.set_cons_zero, List.set_cons_succ]
            refine wpAnyN_take (i := 16) (v := ?vn1c16) (by simp only [List.getElem?_toArray, List.getElem?_cons_succ, List.getElem?_cons_zero]; rfl) (by kernel_rfl) (by intro _ _ _ h; exact h) (Or.inl ⟨by rfl, ?yn1c16⟩) HS.out ?rn1c16
            case yn1c16 =>
              intro W hSW
              try dsimp only at hSW
              obtain ⟨s0, s1⟩ := hSW
              go_simp
              try with_reducible rfl
            simp only [Act.put, List.setIfInBounds_toArray, List.set_cons_zero, List.set_cons_succ]
            refine wpAnyN_take (i := 17) (v := ?vn1c17) (by simp only [List.getElem?_toArray, List.getElem?_cons_succ, List.getElem?_cons_zero]; rfl) (by kernel_rfl) (by intro _ _ _ h; exact h) (Or.inl ⟨by rfl, ?yn1c17⟩) HS.out ?rn1c17
            case yn1c17 =>
              intro W hSW
              try dsimp only at hSW
              obtain ⟨s0, s1⟩ := hSW
              go_simp
              try with_reducible rfl
            simp only [Act.put, List.setIfInBounds_toArray, List.set_cons_zero, List.set_cons_succ]
            refine wpAnyN_one (i := 18) (by kernel_rfl) (by simp only [List.getElem?_toArray, List.getElem?_cons_succ, List.getElem?_cons_zero]; rfl) (fun K hK => ?_)
            refine step_call rfl 34 _ _ rfl Try.func34 (by kernel_rfl) (by kernel_rfl) #[.slice (if c = lo then some ⟨bl, off, none⟩ else some ⟨bl, off + lo * 4, none⟩) (hi - lo) (c - lo)] (by simp [Act.eval]) ?_
            refine (HCo.out _ O2.out).mono ?_
            rintro e w2 ⟨A5, c5, rfl, o5⟩
            refine ⟨_, rfl, ?_⟩
            refine hK _ _ ⟨fun h => (by cases h), ?_⟩
            clear hK K HS O2
            try simp only [Act.put, List.setIfInBounds_toArray, List.set_cons_zero, List.set_cons_succ]
            refine wpAnyN_one (i := 19) (by kernel_rfl) (by simp only [List.getElem?_toArray, List.getElem?_cons_succ, List.getElem?_cons_zero]; rfl) (fun K hK => ?_)
            go_simp
            refine hK _ _ ⟨fun h => (by cases h), ?_⟩
            clear hK K
            try simp only [Act.put, List.setIfInBounds_toArray, List.set_cons_zero, List.set_cons_succ]
            refine wpAnyN_one (i := 20) (by kernel_rfl) (by simp only [List.getElem?_toArray, List.getElem?_cons_succ, List.getElem?_cons_zero]; rfl) (fun K hK => ?_)
            go_simp
            refine hK _ _ ⟨fun h => (by cases h), ?_⟩
            clear hK K
            try simp only [Act.put, List.setIfInBounds_toArray, List.set_cons_zero, List.set_cons_succ]
            refine wpAnyN_done (by kernel_rfl) ?_ _
            have O5 := Lib.hid (Own.log_shut (x := ⟨b, tb, L, hv, sv, cv, pv, av⟩) (o5.pick (L := [_, _, _]) [1, 2, 0])).swap
            clear o5 O1 HCo
            generalize (if c = lo then some (⟨bl, off, none⟩ : Addr) else some ⟨bl, off + lo * 4, none⟩) = A2
            go_wp2
            go_ret2
            exact ⟨A5, c5, rfl, O5.out⟩
end
end Go.Proofs.Ytepnkhiclgjmpaa
