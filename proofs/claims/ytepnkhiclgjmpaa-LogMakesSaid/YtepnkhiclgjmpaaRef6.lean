/-
  The document's log: Append.
  Conditions: the log is in order.
-/
import Derived.Test.YtepnkhiclgjmpaaRef5
import Derived.Test.YtepnkhiclgjmpaaMay1
namespace Go.Proofs.Ytepnkhiclgjmpaa
set_option linter.unusedVariables false
set_option linter.unusedSimpArgs false
open Go.RowKit

theorem rd_cells {S : Nat → Prop} {w0 w : World} {R : List SP} {q : Nat} {t : TypeId} {cs : Array Value} (h : Own S w0 w (SP.blk q t cs :: R)) : Rd w (some ⟨q, 0, none⟩) cs.toList := fun j u hu =>
  ⟨q, 0, rfl, by rw [Nat.zero_add]; exact (h.blk_cell j).trans (by simpa using hu)⟩
section
variable {S : Nat → Prop} {w0 w : World} {R : List SP} {g : Nat} {x : Lg}
set_option maxRecDepth 100000 in
set_option maxHeartbeats 12800000 in
theorem rappend_own {B : Option Addr} {cb : Nat} {d : List UInt8} (hx : x.Ok) (h : Own S w0 w (SP.log 88 g x :: R)) (hb : Reads S w0 R B d) (hd3 : d.length ≤ 140737488351232) (t k : Int) :
    Calls Try.prog 17 #[.pointer (some ⟨g, 0, none⟩), .int .i64 t, .int .i64 k, .slice B d.length cb] w fun e w' => e = .returned (.tuple #[.int .i64 (x.append t k d).1.1, .int .i64 (x.append t k d).1.2]) ∧ Own S w0 w' (SP.log 88 g (x.append t k d).2 :: R) := by
  obtain ⟨p, hp⟩ : ∃ p, x.lastI = p := ⟨_, rfl⟩
  obtain ⟨lt, hlt⟩ : ∃ q, x.lastT = q := ⟨_, rfl⟩
  obtain ⟨n, hn⟩ : ∃ n, x.L.length = n := ⟨_, rfl⟩
  obtain ⟨dl, hdl⟩ : ∃ dl, d.length = dl := ⟨_, rfl⟩
  have HLa := Lib.hid (fun (W : World) (o : Own S w0 W (SP.log 88 g x :: R)) => show Calls Try.prog 18 #[.pointer (some ⟨g, 0, none⟩)] W fun e w' => e = .returned (.int .i64 p) ∧ Own S w0 w' (SP.log 88 g x :: R) from by
    have := rlast_own (by have := hx.len; omega) hx.last hx.i0 o
    rw [hp] at this
    exact this)
  have HLt := Lib.hid (fun (W : World) (o : Own S w0 W (SP.log 88 g x :: R)) => show Calls Try.prog 52 #[.pointer (some ⟨g, 0, none⟩)] W fun e w' => e = .returned (.int .i64 lt) ∧ Own S w0 w' (SP.log 88 g x :: R) from by
    have := rlastT_own (by have := hx.len; omega) o
    rw [hlt] at this
    exact this)
  have HP := Lib.hid (And.intro hp (And.intro hlt (And.intro hn hdl)))
  have HX := Lib.hid hx
  have HB := Lib.hid hb
  have hpm := hx.last
  have hp0 : 0 ≤ p := by have := hx.i0; rw [← hp]; unfold Lg.lastI; omega
  rw [hp, maxI_eq] at hpm
  have H := Lib.hid h
  have hlen := hx.len
  rw [hn] at hlen
  rw [hdl] at hd3 ⊢
  clear h hx hb hp hlt hn hdl
  by_cases h1 : 4611686018427387904 ≤ p
  · rw [append_18 (by rw [HP.out.1, maxI_eq]; exact h1)]
    go_enter Try.func17, Try.ntmps17
    go_wp2_with fail
    refine (HLa.out _ H.out).mono ?_
    rintro e w1 ⟨rfl, o1⟩
    have O1 := Lib.hid o1
    clear o1 HLa H
    go_wp2
    go_ret2
    exact ⟨rfl, O1.out⟩
  · have g1 : ¬ maxI ≤ x.lastI := by rw [HP.out.1, maxI_eq]; exact h1
    by_cases h2 : 10000 ≤ n
    · rw [append_10 g1 (by rw [HP.out.2.2.1]; exact h2)]
      have h2' : (10000 : Int) ≤ (n : Int) := by omega
      clear g1
      go_enter Try.func17, Try.ntmps17
      go_wp2_with fail
      refine (HLa.out _ H.out).mono ?_
      rintro e w1 ⟨rfl, o1⟩
      obtain ⟨A, c, -, -, -, -, -, -, c2, -⟩ := o1.log_cells
      rw [HP.out.2.2.1] at c2
      have O1 := Lib.hid o1
      clear o1 HLa H
      go_wp2
      go_ret2
      exact ⟨rfl, O1.out⟩
    · have g2 : ¬ 10000 ≤ x.L.length := by rw [HP.out.2.2.1]; exact h2
      have h2' : ¬ (10000 : Int) ≤ (n : Int) := by omega
      have one : ∀ (bad : t < lt ∨ t < 1 ∨ 4611686018427387904 < t), Calls Try.prog 17 #[.pointer (some ⟨g, 0, none⟩), .int .i64 t, .int .i64 k, .slice B dl cb] w fun e w' => e = .returned (.tuple #[.int .i64 0, .int .i64 1]) ∧ Own S w0 w' (SP.log 88 g x :: R) := by
        intro bad
        clear g1 g2
        by_cases b1 : t < lt
        · clear bad
          go_enter Try.func17, Try.ntmps17
          go_wp2_with fail
          refine (HLa.out _ H.out).mono ?_
          rintro e w1 ⟨rfl, o1⟩
          obtain ⟨A, c, -, -, -, -, -, -, c2, -⟩ := o1.log_cells
          rw [HP.out.2.2.1] at c2
          have O1 := Lib.hid (HLt.out _ o1)
          clear o1 HLa H
          go_wp2_with fail
          refine (O1.out).mono ?_
          rintro e w2 ⟨rfl, o2⟩
          have O2 := Lib.hid o2
          clear o2 O1
          go_wp2
          go_ret2
          exact ⟨rfl, O2.out⟩
        · by_cases b2 : t < 1
          · clear bad
            go_enter Try.func17, Try.ntmps17
            go_wp2_with fail
            refine (HLa.out _ H.out).mono ?_
            rintro e w1 ⟨rfl, o1⟩
            obtain ⟨A, c, -, -, -, -, -, -, c2, -⟩ := o1.log_cells
            rw [HP.out.2.2.1] at c2
            have O1 := Lib.hid (HLt.out _ o1)
            clear o1 HLa H
            go_wp2_with fail
            refine (O1.out).mono ?_
            rintro e w2 ⟨rfl, o2⟩
            have O2 := Lib.hid o2
            clear o2 O1
            go_wp2
            go_ret2
            exact ⟨rfl, O2.out⟩
          · have b3 : 4611686018427387904 < t := by omega
            clear bad
            go_enter Try.func17, Try.ntmps17
            go_wp2_with fail
            refine (HLa.out _ H.out).mono ?_
            rintro e w1 ⟨rfl, o1⟩
            obtain ⟨A, c, -, -, -, -, -, -, c2, -⟩ := o1.log_cells
            rw [HP.out.2.2.1] at c2
            have O1 := Lib.hid (HLt.out _ o1)
            clear o1 HLa H
            go_wp2_with fail
            refine (O1.out).mono ?_
            rintro e w2 ⟨rfl, o2⟩
            have O2 := Lib.hid o2
            clear o2 O1
            go_wp2
            go_ret2
            exact ⟨rfl, O2.out⟩
      by_cases h3 : t < lt ∨ t < 1 ∨ 4611686018427387904 < t
      · rw [append_1 g1 g2 (by rw [HP.out.2.1, maxI_eq]; omega)]
        exact one h3
      · have g3 : ¬ (t < x.lastT ∨ ¬ (1 ≤ t ∧ t ≤ maxI)) := by rw [HP.out.2.1, maxI_eq]; omega
        clear one
        have t1 : ¬ t < lt := by omega
        have t2 : ¬ t < 1 := by omega
        have t3 : ¬ 4611686018427387904 < t := by omega
        obtain ⟨ce, hce⟩ : ∃ ce, checkE ⟨t, p + 1, k, d⟩ = ce := ⟨_, rfl⟩
        have HCK := Lib.hid (fun (W : World) (R' : List SP) (o : Own S w0 W R') (A5 : Option Addr) (c5 : Nat) => show Calls Try.prog 51 #[.agg #[.int .i64 t, .int .i64 (p + 1), .int .i64 k, .slice A5 dl c5]] W fun en w' => en = .returned (.int .i64 ce) ∧ Own S w0 w' R' from by
          have := rcheck_own o ⟨t, p + 1, k, d⟩ A5 c5 (by simp only; rw [HP.out.2.2.2]; exact hd3)
          rw [hce] at this
          simp only at this
          rw [HP.out.2.2.2] at this
          exact this)
        have HBy := Lib.hid (fun (W : World) (o : Own S w0 W (SP.log 88 g x :: R)) => show Calls Try.prog 53 #[.slice B dl cb] W fun e w' => ∃ A' c', e = .returned (.slice A' dl c') ∧ Own S w0 w' (SP.row 5 1 (.slice A' dl c') (bts d) :: SP.log 88 g x :: R) from by
          have := bytes_own (cb := cb) o (HB.out.more [_]) (by rw [HP.out.2.2.2]; exact hd3)
          rw [HP.out.2.2.2] at this
          exact this)
        have hres : ∃ r, x.append t k d = r ∧ (ce ≠ 0 → r = ((0, ce), x)) ∧ (ce = 0 → r = ((p + 1, 0), { x with L := x.L ++ [⟨t, p + 1, k, d⟩] })) := by
          refine ⟨_, rfl, fun hc => ?_, fun hc => ?_⟩
          · exact append_e g1 g2 g3 (by rw [HP.out.1]; exact hce) hc
          · have := append_ok g1 g2 g3 (k := k) (d := d) (by rw [HP.out.1, hce, hc])
            rw [HP.out.1] at this
            exact this
        obtain ⟨r, hr, hr1, hr2⟩ := hres
        rw [hr]
        have hcc : ce = 0 ∨ ce ≠ 0 := by omega
        have HR := Lib.hid (And.intro hr1 hr2)
        clear g1 g2 g3 hr hr1 hr2 h3 hce
        go_enter Try.func17, Try.ntmps17
        go_wp2_with fail
        refine (HLa.out _ H.out).mono ?_
        rintro e w1 ⟨rfl, o1⟩
        obtain ⟨A, c, -, -, -, -, -, -, c2, -⟩ := o1.log_cells
        rw [HP.out.2.2.1] at c2
        have O1 := Lib.hid (HLt.out _ o1)
        clear o1 H HLt
        go_wp2_with fail
        refine (O1.out).mono ?_
        rintro e w2 ⟨rfl, o2⟩
        have O2 := Lib.hid (HLa.out _ o2)
        clear o2 O1 HLa c2
        go_wp2_with fail
        refine (O2.out).mono ?_
        rintro e w3 ⟨rfl, o3⟩
        have O3 := Lib.hid (HBy.out _ o3)
        clear o3 O2 HBy
        go_wp2_with fail
        refine (O3.out).mono ?_
        rintro e w4 ⟨A5, c5, rfl, o4⟩
        have o5 := o4.alloc #[.int .i64 t, .int .i64 (p + 1), .int .i64 k, .slice A5 dl c5] 26
        obtain ⟨q, hq⟩ : ∃ q, w4.heap.size = q := ⟨_, rfl⟩
        rw [hq] at o5
        obtain ⟨w5, hw5⟩ : ∃ W, w4.alloc (.cells #[.int .i64 t, .int .i64 (p + 1), .int .i64 k, .slice A5 dl c5] 26) = W := ⟨_, rfl⟩
        have HW5 := Lib.hid (And.intro hw5 hq)
        rw [hw5] at o5
        have O5 := Lib.hid o5
        have d0 := o5.blk_cell 0
        have d1 := o5.blk_cell 1
        have d2 := o5.blk_cell 2
        have d3 := o5.blk_cell 3
        simp only [List.getElem?_toArray, List.getElem?_cons_zero, List.getElem?_cons_succ] at d0 d1 d2 d3
        have HCk := Lib.hid (HCK.out _ _ o5 A5 c5)
        clear o4 o5 O3 hw5 hq HCK
        go_upto_region 8 with (fail)
        simp only [HW5.out.1, HW5.out.2]
        go_wp2_with fail
        refine (HCk.out).mono ?_
        rintro e w9 ⟨rfl, o9⟩
        rcases hcc with rfl | hcc
        · obtain rfl := HR.out.2 rfl
          obtain ⟨b, tb, L, hv, sv, cv, pv, av⟩ := x
          obtain ⟨AL, cL, -, hcL, o10⟩ := (o9.pick (L := [_, _, _]) [2, 0, 1]).log_open
          have HNL := Lib.hid (show L.length = n from HP.out.2.2.1)
          have HDa := Lib.hid (show ∀ m, m ∈ L → m.dat.length ≤ 140737488351232 from fun m hm => by have := HX.out.dat m hm; omega)
          simp only at o10
          rw [HNL.out] at o10
          have HCo := Lib.hid (fun (W : World) (R' : List SP) (o : Own S w0 W (SP.blk g 88 (logA ⟨b, tb, L, hv, sv, cv, pv, av⟩ (.slice AL n cL)) :: SP.ents 26 (.slice AL n cL) L :: R')) => show Calls Try.prog 34 #[.slice AL n cL] W fun e w' => ∃ A' c', e = .returned (.slice A' n c') ∧ Own S w0 w' (SP.ents 26 (.slice A' n c') L :: SP.blk g 88 (logA ⟨b, tb, L, hv, sv, cv, pv, av⟩ (.slice AL n cL)) :: SP.ents 26 (.slice AL n cL) L :: R') from by
            have := copies_own (c := cL) (A := AL) (es := L) (by rw [HNL.out]; omega) HDa.out o (EReads.more EReads.of_ents [_])
            rw [HNL.out] at this
            exact this)
          have O2 := Lib.hid o10
          have s2 := o10.blk_cell 2
          simp only [logA, List.getElem?_toArray, List.getElem?_cons_zero, List.getElem?_cons_succ] at s2
          have d0 := (o10.pick (L := [_, _, _]) [2]).blk_cell 0
          have d1 := (o10.pick (L := [_, _, _]) [2]).blk_cell 1
          have d2 := (o10.pick (L := [_, _, _]) [2]).blk_cell 2
          have d3 := (o10.pick (L := [_, _, _]) [2]).blk_cell 3
          simp only [List.getElem?_toArray, List.getElem?_cons_zero, List.getElem?_cons_succ] at d0 d1 d2 d3
          clear o9 o10 HCk O5
          go_upto_region 11 with (fail)
          have HSF := Lib.hid (fun (W : World) (R' : List SP) (o : Own S w0 W (SP.blk g 88 (logA ⟨b, tb, L, hv, sv, cv, pv, av⟩ (.slice AL n cL)) :: SP.blk q 26 #[.int .i64 t, .int .i64 (p + 1), .int .i64 k, .slice A5 dl c5] :: R')) => show W.cell? ⟨g, 2, none⟩ = some (.slice AL n cL) ∧ W.cell? ⟨q, 0, none⟩ = some (.int .i64 t) ∧ W.cell? ⟨q, 1, none⟩ = some (.int .i64 (p + 1)) ∧ W.cell? ⟨q, 2, none⟩ = some (.int .i64 k) ∧ W.cell? ⟨q, 3, none⟩ = some (.slice A5 dl c5) from ⟨o.blk_cell 2, (o.swap).blk_cell 0, (o.swap).blk_cell 1, (o.swap).blk_cell 2, (o.swap).blk_cell 3⟩)
          have hone := Lib.hid (show ∀ u ∈ [Value.int .i64 t, .int .i64 (p + 1), .int .i64 k, .slice A5 dl c5], u.oneCell' = true from fun u hu => by
            simp only [List.mem_cons, List.not_mem_nil, or_false] at hu
            rcases hu with rfl | rfl | rfl | rfl <;> rfl)
          refine wp_region_need (fun W => W.cell? ⟨g, 2, none⟩ = some (.slice AL n cL) ∧ W.cell? ⟨q, 0, none⟩ = some (.int .i64 t) ∧ W.cell? ⟨q, 1, none⟩ = some (.int .i64 (p + 1)) ∧ W.cell? ⟨q, 2, none⟩ = some (.int .i64 k) ∧ W.cell? ⟨q, 3, none⟩ = some (.slice A5 dl c5)) (fun j => decide (j < 9)) (by kernel_rfl) ?_
          obtain ⟨W0, hW0⟩ : ∃ W0, w9.drew = W0 := ⟨_, rfl⟩
          have O0 := Lib.hid O2.out.drew
          rw [hW0] at O0 ⊢
          clear hW0 O2 d0 d1 d2 d3 s2
          have HS := Lib.hid (HSF.out _ _ (O0.out.pick (L := [_, _, _]) [0, 2]))
          refine wpAnyN_take (i := 0) (v := ?v0) (by simp only [List.getElem?_toArray, List.getElem?_cons_succ, List.getElem?_cons_zero]; rfl) (by kernel_rfl) (by intro _ _ _ h; exact h) (Or.inl ⟨by rfl, ?y0⟩) HS.out ?r0
          case y0 =>
            intro W hSW
            try dsimp only at hSW
            obtain ⟨s0, s1, s2, s3, s4⟩ := hSW
            go_simp
            try with_reducible rfl
          simp only [Act.put, List.setIfInBounds_toArray, List.set_cons_zero, List.set_cons_succ]
          refine wpAnyN_take (i := 1) (v := ?v1) (by simp only [List.getElem?_toArray, List.getElem?_cons_succ, List.getElem?_cons_zero]; rfl) (by kernel_rfl) (by intro _ _ _ h; exact h) (Or.inl ⟨by rfl, ?y1⟩) HS.out ?r1
          case y1 =>
            intro W hSW
            try dsimp only at hSW
            obtain ⟨s0, s1, s2, s3, s4⟩ := hSW
            go_simp
            try with_reducible rfl
          simp only [Act.put, List.setIfInBounds_toArray, List.set_cons_zero, List.set_cons_succ]
          refine wpAnyN_take (i := 2) (v := ?v2) (by simp only [List.getElem?_toArray, List.getElem?_cons_succ, List.getElem?_cons_zero]; rfl) (by kernel_rfl) (by intro _ _ _ h; exact h) (Or.inl ⟨by rfl, ?y2⟩) HS.out ?r2
          case y2 =>
            intro W hSW
            try dsimp only at hSW
            obtain ⟨s0, s1, s2, s3, s4⟩ := hSW
            go_simp
            try with_reducible rfl
          simp only [Act.put, List.setIfInBounds_toArray, List.set_cons_zero, List.set_cons_succ]
          refine wpAnyN_take (i := 3) (v := ?v3) (by simp only [List.getElem?_toArray, List.getElem?_cons_succ, List.getElem?_cons_zero]; rfl) (by kernel_rfl) (by intro _ _ _ h; exact h) (Or.inl ⟨by rfl, ?y3⟩) HS.out ?r3
          case y3 =>
            intro W hSW
            try dsimp only at hSW
            obtain ⟨s0, s1, s2, s3, s4⟩ := hSW
            go_simp
            try with_reducible rfl
          simp only [Act.put, List.setIfInBounds_toArray, List.set_cons_zero, List.set_cons_succ]
          refine wpAnyN_take (i := 4) (v := ?v4) (by simp only [List.getElem?_toArray, List.getElem?_cons_succ, List.getElem?_cons_zero]; rfl) (by kernel_rfl) (by intro _ _ _ h; exact h) (Or.inl ⟨by rfl, ?y4⟩) HS.out ?r4
          case y4 =>
            intro W hSW
            try dsimp only at hSW
            obtain ⟨s0, s1, s2, s3, s4⟩ := hSW
            go_simp
            try with_reducible rfl
          simp only [Act.put, List.setIfInBounds_toArray, List.set_cons_zero, List.set_cons_succ]
          refine wpAnyN_take (i := 6) (v := ?v6) (by simp only [List.getElem?_toArray, List.getElem?_cons_succ, List.getElem?_cons_zero]; rfl) (by kernel_rfl) (by intro _ _ _ h; exact h) (Or.inl ⟨by rfl, ?y6⟩) HS.out ?r6
          case y6 =>
            intro W hSW
            try dsimp only at hSW
            obtain ⟨s0, s1, s2, s3, s4⟩ := hSW
            go_simp
            try with_reducible rfl
          simp only [Act.put, List.setIfInBounds_toArray, List.set_cons_zero, List.set_cons_succ]
          refine wpAnyN_two (i := 5) (j := 7) (by kernel_rfl) (by simp only [List.getElem?_toArray, List.getElem?_cons_succ, List.getElem?_cons_zero]; rfl) (by simp only [List.getElem?_toArray, List.getElem?_cons_succ, List.getElem?_cons_zero]; rfl) (fun K hK => ?a5) (fun K hK => ?a7)
          case a5 =>
            refine step_call rfl 34 _ _ rfl Try.func34 (by kernel_rfl) (by kernel_rfl) #[.slice AL n cL] (by simp [Act.eval]) ?_
            refine (HCo.out _ _ O0.out).mono ?_
            rintro e E1w ⟨A6, c6, rfl, E1o⟩
            have E1 := Lib.hid E1o
            refine ⟨_, rfl, ?_⟩
            refine hK _ _ ⟨fun _ => HSF.out _ _ (E1o.pick (L := [_, _, _, _, _]) [1, 3]), ?_⟩
            clear hK K E1o O0
            try simp only [Act.put, List.setIfInBounds_toArray, List.set_cons_zero, List.set_cons_succ]
            refine wpAnyN_one (i := 7) (by kernel_rfl) (by simp only [List.getElem?_toArray, List.getElem?_cons_succ, List.getElem?_cons_zero]; rfl) (fun K hK => ?_)
            go_simp
            have E2 := Lib.hid (E1.out.alloc #[.int .i64 t, .int .i64 (p + 1), .int .i64 k, .slice A5 dl c5] 26)
            refine hK _ _ ⟨fun _ => HSF.out _ _ (E2.out.pick (L := [_, _, _, _, _, _]) [2, 4]), ?_⟩
            clear hK K E1
            try simp only [Act.put, List.setIfInBounds_toArray, List.set_cons_zero, List.set_cons_succ]
            obtain ⟨E2w, hW⟩ : ∃ x, E1w.alloc (.cells #[.int .i64 t, .int .i64 (p + 1), .int .i64 k, .slice A5 dl c5] 26) = x := ⟨_, rfl⟩
            obtain ⟨qe, hqe⟩ : ∃ x, E1w.heap.size = x := ⟨_, rfl⟩
            rw [hW, hqe] at E2
            simp only [hW, hqe]
            clear hW hqe
            have E3 := Lib.hid (E2.out.swap)
            obtain ⟨A7, c7, dt, z, hdt, -, -, o6⟩ := (E3.out).ents_open
            rw [HNL.out] at z o6
            cases z
            have O6 := Lib.hid o6
            have HDT := Lib.hid hdt
            have hrl := Lib.hid (show (mrow L dt).length = n * 4 by rw [mrow_length hdt, HNL.out])
            clear o6 hdt E3
            refine wpAnyN_one (i := 8) (by kernel_rfl) (by simp only [List.getElem?_toArray, List.getElem?_cons_succ, List.getElem?_cons_zero]; rfl) (fun K hK => ?_)
            refine step_append_move rfl (.tmp 51) (.tmp 53) 23 rfl 26 entZero 4 48 Try.underlying23 Try.info26 entZero_size (by decide) (by simp [Act.eval]) hrl.out O6.out (Below.refl _ _) (some ⟨qe, 0, none⟩) 1 1 [.int .i64 t, .int .i64 (p + 1), .int .i64 k, .slice A5 dl c5] (by simp [Act.eval]) rfl (rd_cells (O6.out.pick (L := [_, _, _]) [2])) ?oc (by unfold maxLen; omega) (by omega) ?_
            case oc => exact hone.out
            rintro A8 c8 w7 o7
            have b2 := (o7.pick (L := [_, _, _, _]) [3]).blk_cell 2
            have fr2 := (o7.pick (L := [_, _, _, _]) [3]).blk_free 2
            have o8 := (o7.pick (L := [_, _, _, _, _, _, _]) [3, 0, 1, 6, 5]).blk_set 2 (.slice A8 (n + 1) c8)
            refine hK _ _ ⟨fun _ => HSF.out _ _ (o7.pick (L := [_, _, _, _, _, _, _]) [3, 5]), ?_⟩
            have r1 := (o8.pick (L := [_, _, _, _, _]) [4]).blk_cell 1
            simp only [List.getElem?_toArray, List.getElem?_cons_zero, List.getElem?_cons_succ] at r1
            have O8 := Lib.hid o8
            clear hK K o7 o8 O6 HS
            try simp only [Act.put, List.setIfInBounds_toArray, List.set_cons_zero, List.set_cons_succ]
            refine wpAnyN_one (i := 9) (by kernel_rfl) (by simp only [List.getElem?_toArray, List.getElem?_cons_succ, List.getElem?_cons_zero]; rfl) (fun K hK => ?_)
            go_simp
            refine hK _ _ ⟨fun h => (by cases h), ?_⟩
            clear hK K
            try simp only [Act.put, List.setIfInBounds_toArray, List.set_cons_zero, List.set_cons_succ]
            refine wpAnyN_one (i := 10) (by kernel_rfl) (by simp only [List.getElem?_toArray, List.getElem?_cons_succ, List.getElem?_cons_zero]; rfl) (fun K hK => ?_)
            go_simp
            refine hK _ _ ⟨fun h => (by cases h), ?_⟩
            clear hK K
            try simp only [Act.put, List.setIfInBounds_toArray, List.set_cons_zero, List.set_cons_succ]
            refine wpAnyN_one (i := 11) (by kernel_rfl) (by simp only [List.getElem?_toArray, List.getElem?_cons_succ, List.getElem?_cons_zero]; rfl) (fun K hK => ?_)
            go_simp
            refine hK _ _ ⟨fun h => (by cases h), ?_⟩
            clear hK K
            try simp only [Act.put, List.setIfInBounds_toArray, List.set_cons_zero, List.set_cons_succ]
            refine wpAnyN_done (by kernel_rfl) ?_ _
            go_wp2
            try rw [Exit.noGoto_ret]
            go_ret2
            refine ⟨rfl, ?_⟩
            have o9 := O8.out
            have hM : mrow (L ++ [⟨t, p + 1, k, d⟩]) (dt ++ [.slice A5 dl c5]) = mrow L dt ++ [.int .i64 t, .int .i64 (p + 1), .int .i64 k, .slice A5 dl c5] := by rw [mrow_append HDT.out]; rfl
            have hD : mdata (L ++ [⟨t, p + 1, k, d⟩]) (dt ++ [.slice A5 dl c5]) = mdata L dt ++ [SP.row 5 1 (.slice A5 dl c5) (bts d)] := by rw [mdata_append HDT.out]; rfl
            refine Own.log_shut (x := ⟨b, tb, L ++ [⟨t, p + 1, k, d⟩], hv, sv, cv, pv, av⟩) (v := .slice A8 (n + 1) c8) ?_
            refine Own.swap (Own.ents_shut (ds := dt ++ [.slice A5 dl c5]) (by rw [List.length_append, List.length_append, HDT.out]; rfl) ?_)
            simp only
            rw [hM, hD]
            have o10 := o9.pick (L := [_, _, _, _, _]) [2, 3, 1, 0]
            exact ((o10.snoc).pick (L := [_, _, _]) [1, 0, 2])
          case a7 =>
            go_simp
            have E1 := Lib.hid (O0.out.alloc #[.int .i64 t, .int .i64 (p + 1), .int .i64 k, .slice A5 dl c5] 26)
            refine hK _ _ ⟨fun _ => HSF.out _ _ (E1.out.pick (L := [_, _, _, _, _]) [1, 3]), ?_⟩
            clear hK K O0
            try simp only [Act.put, List.setIfInBounds_toArray, List.set_cons_zero, List.set_cons_succ]
            obtain ⟨E1w, hW⟩ : ∃ x, W0.alloc (.cells #[.int .i64 t, .int .i64 (p + 1), .int .i64 k, .slice A5 dl c5] 26) = x := ⟨_, rfl⟩
            obtain ⟨qe, hqe⟩ : ∃ x, W0.heap.size = x := ⟨_, rfl⟩
            rw [hW, hqe] at E1
            simp only [hW, hqe]
            clear hW hqe
            have E2 := Lib.hid (E1.out.pick (L := [_, _, _, _, _]) [1, 2, 3, 4, 0])
            refine wpAnyN_one (i := 5) (by kernel_rfl) (by simp only [List.getElem?_toArray, List.getElem?_cons_succ, List.getElem?_cons_zero]; rfl) (fun K hK => ?_)
            refine step_call rfl 34 _ _ rfl Try.func34 (by kernel_rfl) (by kernel_rfl) #[.slice AL n cL] (by simp [Act.eval]) ?_
            refine (HCo.out _ _ E2.out).mono ?_
            rintro e E3w ⟨A6, c6, rfl, E3o⟩
            have E3 := Lib.hid E3o
            refine ⟨_, rfl, ?_⟩
            refine hK _ _ ⟨fun _ => HSF.out _ _ (E3o.pick (L := [_, _, _, _, _, _]) [1, 3]), ?_⟩
            clear hK K E3o E2
            try simp only [Act.put, List.setIfInBounds_toArray, List.set_cons_zero, List.set_cons_succ]
            have E4 := Lib.hid (E3.out.pick (L := [_, _, _, _, _, _]) [0, 5, 1, 2, 3, 4])
            obtain ⟨A7, c7, dt, z, hdt, -, -, o6⟩ := (E4.out).ents_open
            rw [HNL.out] at z o6
            cases z
            have O6 := Lib.hid o6
            have HDT := Lib.hid hdt
            have hrl := Lib.hid (show (mrow L dt).length = n * 4 by rw [mrow_length hdt, HNL.out])
            clear o6 hdt E4
            refine wpAnyN_one (i := 8) (by kernel_rfl) (by simp only [List.getElem?_toArray, List.getElem?_cons_succ, List.getElem?_cons_zero]; rfl) (fun K hK => ?_)
            refine step_append_move rfl (.tmp 51) (.tmp 53) 23 rfl 26 entZero 4 48 Try.underlying23 Try.info26 entZero_size (by decide) (by simp [Act.eval]) hrl.out O6.out (Below.refl _ _) (some ⟨qe, 0, none⟩) 1 1 [.int .i64 t, .int .i64 (p + 1), .int .i64 k, .slice A5 dl c5] (by simp [Act.eval]) rfl (rd_cells (O6.out.pick (L := [_, _, _]) [2])) ?oc (by unfold maxLen; omega) (by omega) ?_
            case oc => exact hone.out
            rintro A8 c8 w7 o7
            have b2 := (o7.pick (L := [_, _, _, _]) [3]).blk_cell 2
            have fr2 := (o7.pick (L := [_, _, _, _]) [3]).blk_free 2
            have o8 := (o7.pick (L := [_, _, _, _, _, _, _]) [3, 0, 1, 6, 5]).blk_set 2 (.slice A8 (n + 1) c8)
            refine hK _ _ ⟨fun _ => HSF.out _ _ (o7.pick (L := [_, _, _, _, _, _, _]) [3, 5]), ?_⟩
            have r1 := (o8.pick (L := [_, _, _, _, _]) [4]).blk_cell 1
            simp only [List.getElem?_toArray, List.getElem?_cons_zero, List.getElem?_cons_succ] at r1
            have O8 := Lib.hid o8
            clear hK K o7 o8 O6 HS
            try simp only [Act.put, List.setIfInBounds_toArray, List.set_cons_zero, List.set_cons_succ]
            refine wpAnyN_one (i := 9) (by kernel_rfl) (by simp only [List.getElem?_toArray, List.getElem?_cons_succ, List.getElem?_cons_zero]; rfl) (fun K hK => ?_)
            go_simp
            refine hK _ _ ⟨fun h => (by cases h), ?_⟩
            clear hK K
            try simp only [Act.put, List.setIfInBounds_toArray, List.set_cons_zero, List.set_cons_succ]
            refine wpAnyN_one (i := 10) (by kernel_rfl) (by simp only [List.getElem?_toArray, List.getElem?_cons_succ, List.getElem?_cons_zero]; rfl) (fun K hK => ?_)
            go_simp
            refine hK _ _ ⟨fun h => (by cases h), ?_⟩
            clear hK K
            try simp only [Act.put, List.setIfInBounds_toArray, List.set_cons_zero, List.set_cons_succ]
            refine wpAnyN_one (i := 11) (by kernel_rfl) (by simp only [List.getElem?_toArray, List.getElem?_cons_succ, List.getElem?_cons_zero]; rfl) (fun K hK => ?_)
            go_simp
            refine hK _ _ ⟨fun h => (by cases h), ?_⟩
            clear hK K
            try simp only [Act.put, List.setIfInBounds_toArray, List.set_cons_zero, List.set_cons_succ]
            refine wpAnyN_done (by kernel_rfl) ?_ _
            go_wp2
            try rw [Exit.noGoto_ret]
            go_ret2
            refine ⟨rfl, ?_⟩
            have o9 := O8.out
            have hM : mrow (L ++ [⟨t, p + 1, k, d⟩]) (dt ++ [.slice A5 dl c5]) = mrow L dt ++ [.int .i64 t, .int .i64 (p + 1), .int .i64 k, .slice A5 dl c5] := by rw [mrow_append HDT.out]; rfl
            have hD : mdata (L ++ [⟨t, p + 1, k, d⟩]) (dt ++ [.slice A5 dl c5]) = mdata L dt ++ [SP.row 5 1 (.slice A5 dl c5) (bts d)] := by rw [mdata_append HDT.out]; rfl
            refine Own.log_shut (x := ⟨b, tb, L ++ [⟨t, p + 1, k, d⟩], hv, sv, cv, pv, av⟩) (v := .slice A8 (n + 1) c8) ?_
            refine Own.swap (Own.ents_shut (ds := dt ++ [.slice A5 dl c5]) (by rw [List.length_append, List.length_append, HDT.out]; rfl) ?_)
            simp only
            rw [hM, hD]
            have o10 := o9.pick (L := [_, _, _, _, _]) [2, 3, 1, 0]
            exact ((o10.snoc).pick (L := [_, _, _]) [1, 0, 2])
        · obtain rfl := HR.out.1 hcc
          have hcb : (ce == 0) = false := by rw [beq_eq_false_iff_ne]; exact hcc
          have hcb2 : (ce != 0) = true := by simp [hcc]
          have O6 := Lib.hid (o9.pick (L := [_, _, _]) [2])
          clear hcc o9 HCk O5 d0 d1 d2 d3
          go_wp2
          go_ret2
          exact ⟨rfl, O6.out⟩
end
end Go.Proofs.Ytepnkhiclgjmpaa
