/-
  The document's log: Next.
  Conditions: the log is in order.
-/
import Derived.Test.YtepnkhiclgjmpaaRef3
namespace Go.Proofs.Ytepnkhiclgjmpaa
set_option linter.unusedVariables false
set_option linter.unusedSimpArgs false
open Go.RowKit

section
variable {S : Nat → Prop} {w0 w : World} {R : List SP} {g : Nat} {x : Lg}
set_option maxRecDepth 100000 in
set_option maxHeartbeats 12800000 in
theorem rnext_own (hx : x.Ok) (h : Own S w0 w (SP.log 88 g x :: R)) (most : Int) (hm : In64 most) :
    Calls Try.prog 67 #[.pointer (some ⟨g, 0, none⟩), .int .i64 most] w fun e w' => ∃ A' c', e = .returned (.slice A' (x.next most).1.length c') ∧ Own S w0 w' (SP.ents 26 (.slice A' (x.next most).1.length c') (x.next most).1 :: SP.log 88 g (x.next most).2 :: R) := by
  obtain ⟨A, c, hc1, hc2, o1, -, c0, -, c2, -, c4, c5, c6, -⟩ := h.log_cells
  have hlen := hx.len
  have hx0 := hx.i0
  have hla := hx.last
  have hdat := hx.dat
  have ha0 : x.index ≤ x.ap := by have := hx.a0; have := hx.a1; omega
  have ha2 := hx.a2
  have ha3 := hx.a3
  have hb2 := hx.b2
  obtain ⟨hm1, hm2⟩ := hm
  clear h hx
  obtain ⟨b, tb, L, hv, sv, cv, pv, av⟩ := x
  unfold Lg.lastI at hla ha3
  simp only at *
  rw [maxI_eq] at hla
  obtain ⟨n, hn⟩ : ∃ n, L.length = n := ⟨_, rfl⟩
  rw [hn] at hlen hla ha3 hc1 o1 c2
  unfold maxLen at hc2
  obtain ⟨r, hr⟩ : ∃ r, min cv sv = r := ⟨_, rfl⟩
  have hmr : (if sv < cv then sv else cv) = r := by split <;> omega
  obtain ⟨lo, hlo⟩ : ∃ lo : Nat, pv = b + (lo : Int) := ⟨(pv - b).toNat, by omega⟩
  obtain ⟨rn, hrn⟩ : ∃ rn : Nat, r = pv + (rn : Int) := ⟨(r - pv).toNat, by omega⟩
  have hln : lo + rn ≤ n := by omega
  have HR := Lib.hid (show min cv sv = r ∧ pv = b + (lo : Int) ∧ r = pv + (rn : Int) ∧ 0 ≤ b ∧ b + (n : Int) ≤ 4611686018427387904 ∧ lo + rn ≤ n from ⟨hr, hlo, hrn, hx0, hla, hln⟩)
  have hlon : lo ≤ n := by omega
  have O1 := Lib.hid o1
  clear hr hlo hrn ha0 ha2 ha3 hb2 hla
  rcases row_open o1.swap hn with ⟨rfl, rfl, rfl⟩ | ⟨bl, off, rfl⟩
  · obtain rfl : lo = 0 := by omega
    obtain rfl : rn = 0 := by omega
    have w9 : IntKind.i64.wrap 0 = 0 := IntWalk.i64_in _ (by omega)
    by_cases hm0 : most < 0
    · have HE := Lib.hid (show Lg.next ⟨b, tb, L, hv, sv, cv, pv, av⟩ most = ((L.drop 0).take 0, ⟨b, tb, L, hv, sv, cv, pv, av⟩) from by
        have h1 : Lg.nextN ⟨b, tb, L, hv, sv, cv, pv, av⟩ most = (0 : Int) := by
          unfold Lg.nextN
          simp only
          have := HR.out
          omega
        unfold Lg.next Lg.cut
        simp only
        rw [h1, show (pv - b).toNat = 0 by have := HR.out; omega, show (pv + (0 : Int) - pv).toNat = 0 by omega]
        try rw [show pv + (0 : Int) = pv by omega])
      rw [HE.out]
      have hLL : ((L.drop 0).take 0).length = 0 := by rw [List.length_take, List.length_drop]; have := HR.out; omega
      show Calls Try.prog 67 #[.pointer (some ⟨g, 0, none⟩), .int .i64 most] w fun e w' => ∃ A' c', e = .returned (.slice A' ((L.drop 0).take 0).length c') ∧ Own S w0 w' (SP.ents 26 (.slice A' ((L.drop 0).take 0).length c') ((L.drop 0).take 0) :: SP.log 88 g ⟨b, tb, L, hv, sv, cv, pv, av⟩ :: R)
      rw [hLL]
      have HCo := Lib.hid (fun (W : World) (o : Own S w0 W (SP.blk g 88 (logA ⟨b, tb, L, hv, sv, cv, pv, av⟩ (.slice none 0 0)) :: SP.ents 26 (.slice none 0 0) L :: R)) => show Calls Try.prog 34 #[.slice none 0 0] W fun e w' => ∃ A' c', e = .returned (.slice A' 0 c') ∧ Own S w0 w' (SP.ents 26 (.slice A' 0 c') ((L.drop 0).take 0) :: SP.blk g 88 (logA ⟨b, tb, L, hv, sv, cv, pv, av⟩ (.slice none 0 0)) :: SP.ents 26 (.slice none 0 0) L :: R) from by
        have := copies_own (c := 0) (A := none) (es := ([] : List E)) (by simp) (fun m hm => by cases hm) o EReads.nil
        rw [show (L.drop 0).take 0 = [] from by rw [List.drop_eq_nil_of_le (by omega), List.take_nil]]
        exact this)
      have w1 : IntKind.i64.wrap (r - pv) = (0 : Int) := by rw [IntWalk.i64_in _ (by have := HR.out; omega)]; have := HR.out; omega
      have wB : IntKind.i64.wrap (pv - b) = (0 : Int) := by rw [IntWalk.i64_in _ (by have := HR.out; omega)]; have := HR.out; omega
      have q2 : (0 : Int) ≤ (0 : Int) := by omega
      have q3 : ¬ (0 : Int) < 0 := by omega
      have q5 : (0 : Int) ≤ (0 : Int) := by omega
      have wl : IntKind.i64.wrap (0 : Int) = (0 : Int) := IntWalk.i64_in _ (by omega)
      have wp0 : IntKind.i64.wrap pv = pv := IntWalk.i64_in _ (by have := HR.out; omega)
      have wp : IntKind.i64.wrap (pv + (0 : Int)) = pv + (0 : Int) := IntWalk.i64_in _ (by have := HR.out; omega)
      have q6 : most < 0 := hm0
      clear hdat hn HE hLL o1 HR
      go_enter Try.func67, Try.ntmps67
      go_wp2_with fail
      go_quiet (fail)
      clear hmr
      go_wp2_with fail
      go_quiet (fail)
      go_wp2_with fail
      refine (HCo.out _ (Own.drewN O1.out _)).mono ?_
      rintro e w2 ⟨A5, k5, rfl, o5⟩
      have e6 := (o5.pick (L := [_, _]) [1]).blk_cell 6
      simp only [logA, List.getElem?_toArray, List.getElem?_cons_zero, List.getElem?_cons_succ] at e6
      have o6 := (o5.pick (L := [_, _, _]) [1, 2, 0])
      have f6 := o6.blk_free 6
      have O6 := Lib.hid (Own.log_shut (x := ⟨b, tb, L, hv, sv, cv, pv, av⟩) (o6.blk_set 6 (.int .i64 (pv))))
      clear o5 o6 O1 HCo c0 c2 c4 c5 c6
      try skip
      go_wp2
      go_ret
      exact ⟨A5, _, rfl, O6.out.swap⟩
    · obtain ⟨mn, hmn⟩ : ∃ mn : Nat, most = (mn : Int) := ⟨most.toNat, by omega⟩
      subst hmn
      have HE := Lib.hid (show Lg.next ⟨b, tb, L, hv, sv, cv, pv, av⟩ (mn : Int) = ((L.drop 0).take 0, ⟨b, tb, L, hv, sv, cv, pv, av⟩) from by
        have h1 : Lg.nextN ⟨b, tb, L, hv, sv, cv, pv, av⟩ (mn : Int) = (0 : Int) := by
          unfold Lg.nextN
          simp only
          have := HR.out
          omega
        unfold Lg.next Lg.cut
        simp only
        rw [h1, show (pv - b).toNat = 0 by have := HR.out; omega, show (pv + (0 : Int) - pv).toNat = 0 by omega]
        try rw [show pv + (0 : Int) = pv by omega])
      rw [HE.out]
      have hLL : ((L.drop 0).take 0).length = 0 := by rw [List.length_take, List.length_drop]; have := HR.out; omega
      show Calls Try.prog 67 #[.pointer (some ⟨g, 0, none⟩), .int .i64 (mn : Int)] w fun e w' => ∃ A' c', e = .returned (.slice A' ((L.drop 0).take 0).length c') ∧ Own S w0 w' (SP.ents 26 (.slice A' ((L.drop 0).take 0).length c') ((L.drop 0).take 0) :: SP.log 88 g ⟨b, tb, L, hv, sv, cv, pv, av⟩ :: R)
      rw [hLL]
      have HCo := Lib.hid (fun (W : World) (o : Own S w0 W (SP.blk g 88 (logA ⟨b, tb, L, hv, sv, cv, pv, av⟩ (.slice none 0 0)) :: SP.ents 26 (.slice none 0 0) L :: R)) => show Calls Try.prog 34 #[.slice none 0 0] W fun e w' => ∃ A' c', e = .returned (.slice A' 0 c') ∧ Own S w0 w' (SP.ents 26 (.slice A' 0 c') ((L.drop 0).take 0) :: SP.blk g 88 (logA ⟨b, tb, L, hv, sv, cv, pv, av⟩ (.slice none 0 0)) :: SP.ents 26 (.slice none 0 0) L :: R) from by
        have := copies_own (c := 0) (A := none) (es := ([] : List E)) (by simp) (fun m hm => by cases hm) o EReads.nil
        rw [show (L.drop 0).take 0 = [] from by rw [List.drop_eq_nil_of_le (by omega), List.take_nil]]
        exact this)
      have w1 : IntKind.i64.wrap (r - pv) = (0 : Int) := by rw [IntWalk.i64_in _ (by have := HR.out; omega)]; have := HR.out; omega
      have wB : IntKind.i64.wrap (pv - b) = (0 : Int) := by rw [IntWalk.i64_in _ (by have := HR.out; omega)]; have := HR.out; omega
      have q2 : (0 : Int) ≤ (0 : Int) := by omega
      have q3 : ¬ (0 : Int) < 0 := by omega
      have q5 : (0 : Int) ≤ (0 : Int) := by omega
      have wl : IntKind.i64.wrap (0 : Int) = (0 : Int) := IntWalk.i64_in _ (by omega)
      have wp0 : IntKind.i64.wrap pv = pv := IntWalk.i64_in _ (by have := HR.out; omega)
      have wp : IntKind.i64.wrap (pv + (0 : Int)) = pv + (0 : Int) := IntWalk.i64_in _ (by have := HR.out; omega)
      have q6 : ¬ (mn : Int) < 0 := by omega
      have q7 : ¬ (mn : Int) < (0 : Int) := by omega
      clear hdat hn HE hLL o1 HR
      go_enter Try.func67, Try.ntmps67
      go_wp2_with fail
      go_quiet (fail)
      clear hmr
      go_wp2_with fail
      go_quiet (fail)
      go_wp2_with fail
      refine (HCo.out _ (Own.drewN O1.out _)).mono ?_
      rintro e w2 ⟨A5, k5, rfl, o5⟩
      have e6 := (o5.pick (L := [_, _]) [1]).blk_cell 6
      simp only [logA, List.getElem?_toArray, List.getElem?_cons_zero, List.getElem?_cons_succ] at e6
      have o6 := (o5.pick (L := [_, _, _]) [1, 2, 0])
      have f6 := o6.blk_free 6
      have O6 := Lib.hid (Own.log_shut (x := ⟨b, tb, L, hv, sv, cv, pv, av⟩) (o6.blk_set 6 (.int .i64 (pv))))
      clear o5 o6 O1 HCo c0 c2 c4 c5 c6
      try skip
      go_wp2
      go_ret
      exact ⟨A5, _, rfl, O6.out.swap⟩
  · by_cases hcl : c = lo
    · obtain rfl : lo = c := hcl.symm
      obtain rfl : lo = n := by omega
      obtain rfl : rn = 0 := by omega
      have w9 : IntKind.i64.wrap 0 = 0 := IntWalk.i64_in _ (by omega)
      by_cases hm0 : most < 0
      · have HE := Lib.hid (show Lg.next ⟨b, tb, L, hv, sv, cv, pv, av⟩ most = ((L.drop lo).take 0, ⟨b, tb, L, hv, sv, cv, pv, av⟩) from by
          have h1 : Lg.nextN ⟨b, tb, L, hv, sv, cv, pv, av⟩ most = (0 : Int) := by
            unfold Lg.nextN
            simp only
            have := HR.out
            omega
          unfold Lg.next Lg.cut
          simp only
          rw [h1, show (pv - b).toNat = lo by have := HR.out; omega, show (pv + (0 : Int) - pv).toNat = 0 by omega]
          try rw [show pv + (0 : Int) = pv by omega])
        rw [HE.out]
        have hLL : ((L.drop lo).take 0).length = 0 := by rw [List.length_take, List.length_drop]; have := HR.out; omega
        show Calls Try.prog 67 #[.pointer (some ⟨g, 0, none⟩), .int .i64 most] w fun e w' => ∃ A' c', e = .returned (.slice A' ((L.drop lo).take 0).length c') ∧ Own S w0 w' (SP.ents 26 (.slice A' ((L.drop lo).take 0).length c') ((L.drop lo).take 0) :: SP.log 88 g ⟨b, tb, L, hv, sv, cv, pv, av⟩ :: R)
        rw [hLL]
        have HCo := Lib.hid (fun (W : World) (o : Own S w0 W (SP.blk g 88 (logA ⟨b, tb, L, hv, sv, cv, pv, av⟩ (.slice (some ⟨bl, off, none⟩) lo lo)) :: SP.ents 26 (.slice (some ⟨bl, off, none⟩) lo lo) L :: R)) => show Calls Try.prog 34 #[.slice (some ⟨bl, off, none⟩) 0 0] W fun e w' => ∃ A' c', e = .returned (.slice A' 0 c') ∧ Own S w0 w' (SP.ents 26 (.slice A' 0 c') ((L.drop lo).take 0) :: SP.blk g 88 (logA ⟨b, tb, L, hv, sv, cv, pv, av⟩ (.slice (some ⟨bl, off, none⟩) lo lo)) :: SP.ents 26 (.slice (some ⟨bl, off, none⟩) lo lo) L :: R) from by
          have := copies_own (c := 0) (A := (some ⟨bl, off, none⟩)) (es := ([] : List E)) (by simp) (fun m hm => by cases hm) o EReads.nil
          rw [show (L.drop lo).take 0 = [] from by rw [List.drop_eq_nil_of_le (by omega), List.take_nil]]
          exact this)
        have w1 : IntKind.i64.wrap (r - pv) = (0 : Int) := by rw [IntWalk.i64_in _ (by have := HR.out; omega)]; have := HR.out; omega
        have wB : IntKind.i64.wrap (pv - b) = (lo : Int) := by rw [IntWalk.i64_in _ (by have := HR.out; omega)]; have := HR.out; omega
        have q2 : (0 : Int) ≤ (lo : Int) := by omega
        have q3 : ¬ (0 : Int) < 0 := by omega
        have q5 : (lo : Int) ≤ (lo : Int) := by omega
        have wl : IntKind.i64.wrap (lo : Int) = (lo : Int) := IntWalk.i64_in _ (by omega)
        have wp0 : IntKind.i64.wrap pv = pv := IntWalk.i64_in _ (by have := HR.out; omega)
        have wp : IntKind.i64.wrap (pv + (0 : Int)) = pv + (0 : Int) := IntWalk.i64_in _ (by have := HR.out; omega)
        have q6 : most < 0 := hm0
        clear hdat hn HE hLL o1 HR
        go_enter Try.func67, Try.ntmps67
        go_wp2_with fail
        go_quiet (fail)
        clear hmr
        go_wp2_with fail
        go_quiet (fail)
        go_wp2_with fail
        refine (HCo.out _ (Own.drewN O1.out _)).mono ?_
        rintro e w2 ⟨A5, k5, rfl, o5⟩
        have e6 := (o5.pick (L := [_, _]) [1]).blk_cell 6
        simp only [logA, List.getElem?_toArray, List.getElem?_cons_zero, List.getElem?_cons_succ] at e6
        have o6 := (o5.pick (L := [_, _, _]) [1, 2, 0])
        have f6 := o6.blk_free 6
        have O6 := Lib.hid (Own.log_shut (x := ⟨b, tb, L, hv, sv, cv, pv, av⟩) (o6.blk_set 6 (.int .i64 (pv))))
        clear o5 o6 O1 HCo c0 c2 c4 c5 c6
        try skip
        go_wp2
        go_ret
        exact ⟨A5, _, rfl, O6.out.swap⟩
      · obtain ⟨mn, hmn⟩ : ∃ mn : Nat, most = (mn : Int) := ⟨most.toNat, by omega⟩
        subst hmn
        have HE := Lib.hid (show Lg.next ⟨b, tb, L, hv, sv, cv, pv, av⟩ (mn : Int) = ((L.drop lo).take 0, ⟨b, tb, L, hv, sv, cv, pv, av⟩) from by
          have h1 : Lg.nextN ⟨b, tb, L, hv, sv, cv, pv, av⟩ (mn : Int) = (0 : Int) := by
            unfold Lg.nextN
            simp only
            have := HR.out
            omega
          unfold Lg.next Lg.cut
          simp only
          rw [h1, show (pv - b).toNat = lo by have := HR.out; omega, show (pv + (0 : Int) - pv).toNat = 0 by omega]
          try rw [show pv + (0 : Int) = pv by omega])
        rw [HE.out]
        have hLL : ((L.drop lo).take 0).length = 0 := by rw [List.length_take, List.length_drop]; have := HR.out; omega
        show Calls Try.prog 67 #[.pointer (some ⟨g, 0, none⟩), .int .i64 (mn : Int)] w fun e w' => ∃ A' c', e = .returned (.slice A' ((L.drop lo).take 0).length c') ∧ Own S w0 w' (SP.ents 26 (.slice A' ((L.drop lo).take 0).length c') ((L.drop lo).take 0) :: SP.log 88 g ⟨b, tb, L, hv, sv, cv, pv, av⟩ :: R)
        rw [hLL]
        have HCo := Lib.hid (fun (W : World) (o : Own S w0 W (SP.blk g 88 (logA ⟨b, tb, L, hv, sv, cv, pv, av⟩ (.slice (some ⟨bl, off, none⟩) lo lo)) :: SP.ents 26 (.slice (some ⟨bl, off, none⟩) lo lo) L :: R)) => show Calls Try.prog 34 #[.slice (some ⟨bl, off, none⟩) 0 0] W fun e w' => ∃ A' c', e = .returned (.slice A' 0 c') ∧ Own S w0 w' (SP.ents 26 (.slice A' 0 c') ((L.drop lo).take 0) :: SP.blk g 88 (logA ⟨b, tb, L, hv, sv, cv, pv, av⟩ (.slice (some ⟨bl, off, none⟩) lo lo)) :: SP.ents 26 (.slice (some ⟨bl, off, none⟩) lo lo) L :: R) from by
          have := copies_own (c := 0) (A := (some ⟨bl, off, none⟩)) (es := ([] : List E)) (by simp) (fun m hm => by cases hm) o EReads.nil
          rw [show (L.drop lo).take 0 = [] from by rw [List.drop_eq_nil_of_le (by omega), List.take_nil]]
          exact this)
        have w1 : IntKind.i64.wrap (r - pv) = (0 : Int) := by rw [IntWalk.i64_in _ (by have := HR.out; omega)]; have := HR.out; omega
        have wB : IntKind.i64.wrap (pv - b) = (lo : Int) := by rw [IntWalk.i64_in _ (by have := HR.out; omega)]; have := HR.out; omega
        have q2 : (0 : Int) ≤ (lo : Int) := by omega
        have q3 : ¬ (0 : Int) < 0 := by omega
        have q5 : (lo : Int) ≤ (lo : Int) := by omega
        have wl : IntKind.i64.wrap (lo : Int) = (lo : Int) := IntWalk.i64_in _ (by omega)
        have wp0 : IntKind.i64.wrap pv = pv := IntWalk.i64_in _ (by have := HR.out; omega)
        have wp : IntKind.i64.wrap (pv + (0 : Int)) = pv + (0 : Int) := IntWalk.i64_in _ (by have := HR.out; omega)
        have q6 : ¬ (mn : Int) < 0 := by omega
        have q7 : ¬ (mn : Int) < (0 : Int) := by omega
        clear hdat hn HE hLL o1 HR
        go_enter Try.func67, Try.ntmps67
        go_wp2_with fail
        go_quiet (fail)
        clear hmr
        go_wp2_with fail
        go_quiet (fail)
        go_wp2_with fail
        refine (HCo.out _ (Own.drewN O1.out _)).mono ?_
        rintro e w2 ⟨A5, k5, rfl, o5⟩
        have e6 := (o5.pick (L := [_, _]) [1]).blk_cell 6
        simp only [logA, List.getElem?_toArray, List.getElem?_cons_zero, List.getElem?_cons_succ] at e6
        have o6 := (o5.pick (L := [_, _, _]) [1, 2, 0])
        have f6 := o6.blk_free 6
        have O6 := Lib.hid (Own.log_shut (x := ⟨b, tb, L, hv, sv, cv, pv, av⟩) (o6.blk_set 6 (.int .i64 (pv))))
        clear o5 o6 O1 HCo c0 c2 c4 c5 c6
        try skip
        go_wp2
        go_ret
        exact ⟨A5, _, rfl, O6.out.swap⟩
    · by_cases hm0 : most < 0
      · by_cases hr0 : rn = 0
        · subst hr0
          have w9 : IntKind.i64.wrap 0 = 0 := IntWalk.i64_in _ (by omega)
          have HE := Lib.hid (show Lg.next ⟨b, tb, L, hv, sv, cv, pv, av⟩ most = ((L.drop lo).take 0, ⟨b, tb, L, hv, sv, cv, pv, av⟩) from by
            have h1 : Lg.nextN ⟨b, tb, L, hv, sv, cv, pv, av⟩ most = (0 : Int) := by
              unfold Lg.nextN
              simp only
              have := HR.out
              omega
            unfold Lg.next Lg.cut
            simp only
            rw [h1, show (pv - b).toNat = lo by have := HR.out; omega, show (pv + (0 : Int) - pv).toNat = 0 by omega]
            try rw [show pv + (0 : Int) = pv by omega])
          rw [HE.out]
          have hLL : ((L.drop lo).take 0).length = 0 := by rw [List.length_take, List.length_drop]; have := HR.out; omega
          show Calls Try.prog 67 #[.pointer (some ⟨g, 0, none⟩), .int .i64 most] w fun e w' => ∃ A' c', e = .returned (.slice A' ((L.drop lo).take 0).length c') ∧ Own S w0 w' (SP.ents 26 (.slice A' ((L.drop lo).take 0).length c') ((L.drop lo).take 0) :: SP.log 88 g ⟨b, tb, L, hv, sv, cv, pv, av⟩ :: R)
          rw [hLL]
          have HCo := Lib.hid (fun (W : World) (o : Own S w0 W (SP.blk g 88 (logA ⟨b, tb, L, hv, sv, cv, pv, av⟩ (.slice (some ⟨bl, off, none⟩) n c)) :: SP.ents 26 (.slice (some ⟨bl, off, none⟩) n c) L :: R)) => show Calls Try.prog 34 #[.slice (some ⟨bl, off + lo * 4, none⟩) 0 (c - lo)] W fun e w' => ∃ A' c', e = .returned (.slice A' 0 c') ∧ Own S w0 w' (SP.ents 26 (.slice A' 0 c') ((L.drop lo).take 0) :: SP.blk g 88 (logA ⟨b, tb, L, hv, sv, cv, pv, av⟩ (.slice (some ⟨bl, off, none⟩) n c)) :: SP.ents 26 (.slice (some ⟨bl, off, none⟩) n c) L :: R) from by
            have hr := cut_reads (S := S) (w0 := w0) (R := R) (bl := bl) (off := off) (lo := lo) 0 (by omega) hc1 hn
            rw [if_neg hcl] at hr
            have := copies_own (c := c - lo) (es := ((L.drop lo).take 0)) (by rw [List.length_take, List.length_drop]; omega) (fun m hm => by have := hdat m (List.mem_of_mem_drop (List.mem_of_mem_take hm)); omega) o (EReads.more hr [_])
            rw [show ((L.drop lo).take 0).length = 0 by rw [List.length_take, List.length_drop]; omega] at this
            exact this)
          have w1 : IntKind.i64.wrap (r - pv) = (0 : Int) := by rw [IntWalk.i64_in _ (by have := HR.out; omega)]; have := HR.out; omega
          have wB : IntKind.i64.wrap (pv - b) = (lo : Int) := by rw [IntWalk.i64_in _ (by have := HR.out; omega)]; have := HR.out; omega
          have q2 : (0 : Int) ≤ (lo : Int) := by omega
          have q3 : ¬ (0 : Int) < 0 := by omega
          have q5 : (lo : Int) ≤ (c : Int) := by omega
          have wl : IntKind.i64.wrap (lo : Int) = (lo : Int) := IntWalk.i64_in _ (by omega)
          have wp0 : IntKind.i64.wrap pv = pv := IntWalk.i64_in _ (by have := HR.out; omega)
          have wp : IntKind.i64.wrap (pv + (0 : Int)) = pv + (0 : Int) := IntWalk.i64_in _ (by have := HR.out; omega)
          have q6 : most < 0 := hm0
          clear hdat hn HE hLL o1 HR
          go_enter Try.func67, Try.ntmps67
          go_wp2_with fail
          go_quiet (fail)
          clear hmr
          go_wp2_with fail
          go_quiet (fail)
          go_wp2_with fail
          refine (HCo.out _ (Own.drewN O1.out _)).mono ?_
          rintro e w2 ⟨A5, k5, rfl, o5⟩
          have e6 := (o5.pick (L := [_, _]) [1]).blk_cell 6
          simp only [logA, List.getElem?_toArray, List.getElem?_cons_zero, List.getElem?_cons_succ] at e6
          have o6 := (o5.pick (L := [_, _, _]) [1, 2, 0])
          have f6 := o6.blk_free 6
          have O6 := Lib.hid (Own.log_shut (x := ⟨b, tb, L, hv, sv, cv, pv, av⟩) (o6.blk_set 6 (.int .i64 (pv))))
          clear o5 o6 O1 HCo c0 c2 c4 c5 c6
          try skip
          go_wp2
          go_ret
          exact ⟨A5, _, rfl, O6.out.swap⟩
        · have HE := Lib.hid (show Lg.next ⟨b, tb, L, hv, sv, cv, pv, av⟩ most = ((L.drop lo).take 0, ⟨b, tb, L, hv, sv, cv, pv, av⟩) from by
            have h1 : Lg.nextN ⟨b, tb, L, hv, sv, cv, pv, av⟩ most = (0 : Int) := by
              unfold Lg.nextN
              simp only
              have := HR.out
              omega
            unfold Lg.next Lg.cut
            simp only
            rw [h1, show (pv - b).toNat = lo by have := HR.out; omega, show (pv + (0 : Int) - pv).toNat = 0 by omega]
            try rw [show pv + (0 : Int) = pv by omega])
          rw [HE.out]
          have hLL : ((L.drop lo).take 0).length = 0 := by rw [List.length_take, List.length_drop]; have := HR.out; omega
          show Calls Try.prog 67 #[.pointer (some ⟨g, 0, none⟩), .int .i64 most] w fun e w' => ∃ A' c', e = .returned (.slice A' ((L.drop lo).take 0).length c') ∧ Own S w0 w' (SP.ents 26 (.slice A' ((L.drop lo).take 0).length c') ((L.drop lo).take 0) :: SP.log 88 g ⟨b, tb, L, hv, sv, cv, pv, av⟩ :: R)
          rw [hLL]
          have HCo := Lib.hid (fun (W : World) (o : Own S w0 W (SP.blk g 88 (logA ⟨b, tb, L, hv, sv, cv, pv, av⟩ (.slice (some ⟨bl, off, none⟩) n c)) :: SP.ents 26 (.slice (some ⟨bl, off, none⟩) n c) L :: R)) => show Calls Try.prog 34 #[.slice (some ⟨bl, off + lo * 4, none⟩) 0 (c - lo)] W fun e w' => ∃ A' c', e = .returned (.slice A' 0 c') ∧ Own S w0 w' (SP.ents 26 (.slice A' 0 c') ((L.drop lo).take 0) :: SP.blk g 88 (logA ⟨b, tb, L, hv, sv, cv, pv, av⟩ (.slice (some ⟨bl, off, none⟩) n c)) :: SP.ents 26 (.slice (some ⟨bl, off, none⟩) n c) L :: R) from by
            have hr := cut_reads (S := S) (w0 := w0) (R := R) (bl := bl) (off := off) (lo := lo) 0 (by omega) hc1 hn
            rw [if_neg hcl] at hr
            have := copies_own (c := c - lo) (es := ((L.drop lo).take 0)) (by rw [List.length_take, List.length_drop]; omega) (fun m hm => by have := hdat m (List.mem_of_mem_drop (List.mem_of_mem_take hm)); omega) o (EReads.more hr [_])
            rw [show ((L.drop lo).take 0).length = 0 by rw [List.length_take, List.length_drop]; omega] at this
            exact this)
          have w1 : IntKind.i64.wrap (r - pv) = (rn : Int) := by rw [IntWalk.i64_in _ (by have := HR.out; omega)]; have := HR.out; omega
          have wB : IntKind.i64.wrap (pv - b) = (lo : Int) := by rw [IntWalk.i64_in _ (by have := HR.out; omega)]; have := HR.out; omega
          have q2 : (0 : Int) ≤ (lo : Int) := by omega
          have q3 : ¬ (rn : Int) < 0 := by omega
          have q5 : (lo : Int) ≤ (c : Int) := by omega
          have wl : IntKind.i64.wrap (lo : Int) = (lo : Int) := IntWalk.i64_in _ (by omega)
          have wp0 : IntKind.i64.wrap pv = pv := IntWalk.i64_in _ (by have := HR.out; omega)
          have wp : IntKind.i64.wrap (pv + (0 : Int)) = pv + (0 : Int) := IntWalk.i64_in _ (by have := HR.out; omega)
          have q6 : most < 0 := hm0
          have q7 : (0 : Int) < (rn : Int) := by omega
          clear hdat hn HE hLL o1 HR
          go_enter Try.func67, Try.ntmps67
          go_wp2_with fail
          go_quiet (fail)
          clear hmr
          go_wp2_with fail
          go_quiet (fail)
          go_wp2_with fail
          refine (HCo.out _ (Own.drewN O1.out _)).mono ?_
          rintro e w2 ⟨A5, k5, rfl, o5⟩
          have e6 := (o5.pick (L := [_, _]) [1]).blk_cell 6
          simp only [logA, List.getElem?_toArray, List.getElem?_cons_zero, List.getElem?_cons_succ] at e6
          have o6 := (o5.pick (L := [_, _, _]) [1, 2, 0])
          have f6 := o6.blk_free 6
          have O6 := Lib.hid (Own.log_shut (x := ⟨b, tb, L, hv, sv, cv, pv, av⟩) (o6.blk_set 6 (.int .i64 (pv))))
          clear o5 o6 O1 HCo c0 c2 c4 c5 c6
          try skip
          go_wp2
          go_ret
          exact ⟨A5, _, rfl, O6.out.swap⟩
      · obtain ⟨mn, hmn⟩ : ∃ mn : Nat, most = (mn : Int) := ⟨most.toNat, by omega⟩
        subst hmn
        by_cases hrm : mn < rn
        · obtain ⟨hi, hhi⟩ : ∃ hi, lo + mn = hi := ⟨_, rfl⟩
          have HE := Lib.hid (show Lg.next ⟨b, tb, L, hv, sv, cv, pv, av⟩ (mn : Int) = ((L.drop lo).take mn, ⟨b, tb, L, hv, sv, cv, pv + (mn : Int), av⟩) from by
            have h1 : Lg.nextN ⟨b, tb, L, hv, sv, cv, pv, av⟩ (mn : Int) = (mn : Int) := by
              unfold Lg.nextN
              simp only
              have := HR.out
              omega
            unfold Lg.next Lg.cut
            simp only
            rw [h1, show (pv - b).toNat = lo by have := HR.out; omega, show (pv + (mn : Int) - pv).toNat = mn by omega]
            try rw [show pv + (0 : Int) = pv by omega])
          rw [HE.out]
          have hLL : ((L.drop lo).take mn).length = (hi - lo) := by rw [List.length_take, List.length_drop]; have := HR.out; omega
          show Calls Try.prog 67 #[.pointer (some ⟨g, 0, none⟩), .int .i64 (mn : Int)] w fun e w' => ∃ A' c', e = .returned (.slice A' ((L.drop lo).take mn).length c') ∧ Own S w0 w' (SP.ents 26 (.slice A' ((L.drop lo).take mn).length c') ((L.drop lo).take mn) :: SP.log 88 g ⟨b, tb, L, hv, sv, cv, pv + (mn : Int), av⟩ :: R)
          rw [hLL]
          have HCo := Lib.hid (fun (W : World) (o : Own S w0 W (SP.blk g 88 (logA ⟨b, tb, L, hv, sv, cv, pv, av⟩ (.slice (some ⟨bl, off, none⟩) n c)) :: SP.ents 26 (.slice (some ⟨bl, off, none⟩) n c) L :: R)) => show Calls Try.prog 34 #[.slice (some ⟨bl, off + lo * 4, none⟩) (hi - lo) (c - lo)] W fun e w' => ∃ A' c', e = .returned (.slice A' (hi - lo) c') ∧ Own S w0 w' (SP.ents 26 (.slice A' (hi - lo) c') ((L.drop lo).take mn) :: SP.blk g 88 (logA ⟨b, tb, L, hv, sv, cv, pv, av⟩ (.slice (some ⟨bl, off, none⟩) n c)) :: SP.ents 26 (.slice (some ⟨bl, off, none⟩) n c) L :: R) from by
            have hr := cut_reads (S := S) (w0 := w0) (R := R) (bl := bl) (off := off) (lo := lo) mn (by omega) hc1 hn
            rw [if_neg hcl] at hr
            have := copies_own (c := c - lo) (es := ((L.drop lo).take mn)) (by rw [List.length_take, List.length_drop]; omega) (fun m hm => by have := hdat m (List.mem_of_mem_drop (List.mem_of_mem_take hm)); omega) o (EReads.more hr [_])
            rw [show ((L.drop lo).take mn).length = (hi - lo) by rw [List.length_take, List.length_drop]; omega] at this
            exact this)
          have w1 : IntKind.i64.wrap (r - pv) = (rn : Int) := by rw [IntWalk.i64_in _ (by have := HR.out; omega)]; have := HR.out; omega
          have wB : IntKind.i64.wrap (pv - b) = (lo : Int) := by rw [IntWalk.i64_in _ (by have := HR.out; omega)]; have := HR.out; omega
          have q2 : (0 : Int) ≤ (lo : Int) := by omega
          have q3 : ¬ (rn : Int) < 0 := by omega
          have q5 : (lo : Int) ≤ (c : Int) := by omega
          have wl : IntKind.i64.wrap (lo : Int) = (lo : Int) := IntWalk.i64_in _ (by omega)
          have wp0 : IntKind.i64.wrap pv = pv := IntWalk.i64_in _ (by have := HR.out; omega)
          have wp : IntKind.i64.wrap (pv + (mn : Int)) = pv + (mn : Int) := IntWalk.i64_in _ (by have := HR.out; omega)
          have q6 : ¬ (mn : Int) < 0 := by omega
          have q7 : (mn : Int) < (rn : Int) := by omega
          have wh : IntKind.i64.wrap ((lo : Int) + (mn : Int)) = (hi : Int) := by rw [IntWalk.i64_in _ (by omega)]; omega
          have q8 : (lo : Int) ≤ (hi : Int) := by omega
          have q9 : (hi : Int) ≤ (c : Int) := by have := HR.out; omega
          clear hhi
          clear hdat hn HE hLL o1 HR
          go_enter Try.func67, Try.ntmps67
          go_wp2_with fail
          go_quiet (fail)
          clear hmr
          go_wp2_with fail
          go_quiet (fail)
          go_wp2_with fail
          refine (HCo.out _ (Own.drewN O1.out _)).mono ?_
          rintro e w2 ⟨A5, k5, rfl, o5⟩
          have e6 := (o5.pick (L := [_, _]) [1]).blk_cell 6
          simp only [logA, List.getElem?_toArray, List.getElem?_cons_zero, List.getElem?_cons_succ] at e6
          have o6 := (o5.pick (L := [_, _, _]) [1, 2, 0])
          have f6 := o6.blk_free 6
          have O6 := Lib.hid (Own.log_shut (x := ⟨b, tb, L, hv, sv, cv, pv + (mn : Int), av⟩) (o6.blk_set 6 (.int .i64 (pv + (mn : Int)))))
          clear o5 o6 O1 HCo c0 c2 c4 c5 c6
          try skip
          go_wp2
          go_ret
          exact ⟨A5, _, rfl, O6.out.swap⟩
        · obtain ⟨hi, hhi⟩ : ∃ hi, lo + rn = hi := ⟨_, rfl⟩
          have HE := Lib.hid (show Lg.next ⟨b, tb, L, hv, sv, cv, pv, av⟩ (mn : Int) = ((L.drop lo).take rn, ⟨b, tb, L, hv, sv, cv, pv + (rn : Int), av⟩) from by
            have h1 : Lg.nextN ⟨b, tb, L, hv, sv, cv, pv, av⟩ (mn : Int) = (rn : Int) := by
              unfold Lg.nextN
              simp only
              have := HR.out
              omega
            unfold Lg.next Lg.cut
            simp only
            rw [h1, show (pv - b).toNat = lo by have := HR.out; omega, show (pv + (rn : Int) - pv).toNat = rn by omega]
            try rw [show pv + (0 : Int) = pv by omega])
          rw [HE.out]
          have hLL : ((L.drop lo).take rn).length = (hi - lo) := by rw [List.length_take, List.length_drop]; have := HR.out; omega
          show Calls Try.prog 67 #[.pointer (some ⟨g, 0, none⟩), .int .i64 (mn : Int)] w fun e w' => ∃ A' c', e = .returned (.slice A' ((L.drop lo).take rn).length c') ∧ Own S w0 w' (SP.ents 26 (.slice A' ((L.drop lo).take rn).length c') ((L.drop lo).take rn) :: SP.log 88 g ⟨b, tb, L, hv, sv, cv, pv + (rn : Int), av⟩ :: R)
          rw [hLL]
          have HCo := Lib.hid (fun (W : World) (o : Own S w0 W (SP.blk g 88 (logA ⟨b, tb, L, hv, sv, cv, pv, av⟩ (.slice (some ⟨bl, off, none⟩) n c)) :: SP.ents 26 (.slice (some ⟨bl, off, none⟩) n c) L :: R)) => show Calls Try.prog 34 #[.slice (some ⟨bl, off + lo * 4, none⟩) (hi - lo) (c - lo)] W fun e w' => ∃ A' c', e = .returned (.slice A' (hi - lo) c') ∧ Own S w0 w' (SP.ents 26 (.slice A' (hi - lo) c') ((L.drop lo).take rn) :: SP.blk g 88 (logA ⟨b, tb, L, hv, sv, cv, pv, av⟩ (.slice (some ⟨bl, off, none⟩) n c)) :: SP.ents 26 (.slice (some ⟨bl, off, none⟩) n c) L :: R) from by
            have hr := cut_reads (S := S) (w0 := w0) (R := R) (bl := bl) (off := off) (lo := lo) rn (by omega) hc1 hn
            rw [if_neg hcl] at hr
            have := copies_own (c := c - lo) (es := ((L.drop lo).take rn)) (by rw [List.length_take, List.length_drop]; omega) (fun m hm => by have := hdat m (List.mem_of_mem_drop (List.mem_of_mem_take hm)); omega) o (EReads.more hr [_])
            rw [show ((L.drop lo).take rn).length = (hi - lo) by rw [List.length_take, List.length_drop]; omega] at this
            exact this)
          have w1 : IntKind.i64.wrap (r - pv) = (rn : Int) := by rw [IntWalk.i64_in _ (by have := HR.out; omega)]; have := HR.out; omega
          have wB : IntKind.i64.wrap (pv - b) = (lo : Int) := by rw [IntWalk.i64_in _ (by have := HR.out; omega)]; have := HR.out; omega
          have q2 : (0 : Int) ≤ (lo : Int) := by omega
          have q3 : ¬ (rn : Int) < 0 := by omega
          have q5 : (lo : Int) ≤ (c : Int) := by omega
          have wl : IntKind.i64.wrap (lo : Int) = (lo : Int) := IntWalk.i64_in _ (by omega)
          have wp0 : IntKind.i64.wrap pv = pv := IntWalk.i64_in _ (by have := HR.out; omega)
          have wp : IntKind.i64.wrap (pv + (rn : Int)) = pv + (rn : Int) := IntWalk.i64_in _ (by have := HR.out; omega)
          have q6 : ¬ (mn : Int) < 0 := by omega
          have q7 : ¬ (mn : Int) < (rn : Int) := by omega
          have wh : IntKind.i64.wrap ((lo : Int) + (rn : Int)) = (hi : Int) := by rw [IntWalk.i64_in _ (by omega)]; omega
          have q8 : (lo : Int) ≤ (hi : Int) := by omega
          have q9 : (hi : Int) ≤ (c : Int) := by have := HR.out; omega
          clear hhi
          clear hdat hn HE hLL o1 HR
          go_enter Try.func67, Try.ntmps67
          go_wp2_with fail
          go_quiet (fail)
          clear hmr
          go_wp2_with fail
          go_quiet (fail)
          go_wp2_with fail
          refine (HCo.out _ (Own.drewN O1.out _)).mono ?_
          rintro e w2 ⟨A5, k5, rfl, o5⟩
          have e6 := (o5.pick (L := [_, _]) [1]).blk_cell 6
          simp only [logA, List.getElem?_toArray, List.getElem?_cons_zero, List.getElem?_cons_succ] at e6
          have o6 := (o5.pick (L := [_, _, _]) [1, 2, 0])
          have f6 := o6.blk_free 6
          have O6 := Lib.hid (Own.log_shut (x := ⟨b, tb, L, hv, sv, cv, pv + (rn : Int), av⟩) (o6.blk_set 6 (.int .i64 (pv + (rn : Int)))))
          clear o5 o6 O1 HCo c0 c2 c4 c5 c6
          try skip
          go_wp2
          go_ret
          exact ⟨A5, _, rfl, O6.out.swap⟩
end
end Go.Proofs.Ytepnkhiclgjmpaa
