/-
  Append of a log.
  Conditions: the log is in order.
-/
import Derived.Test.YtepnkhiclgjmpaaLog4
namespace Go.Proofs.Ytepnkhiclgjmpaa
set_option linter.unusedVariables false
set_option linter.unusedSimpArgs false
open Go.RowKit

section
variable {S : Nat → Prop} {w0 w : World} {R : List SP} {g : Nat} {x : Lg}
theorem Own.join {X Y : List SP} (h : Own S w0 w (SP.stars X :: SP.stars Y :: R)) : Own S w0 w (SP.stars (X ++ Y) :: R) := by
  have h1 := h.flat
  have h2 : Own S w0 w (SP.stars Y :: (X ++ R)) := h1.perm List.perm_middle
  have h3 := h2.flat
  have h4 : Own S w0 w ((X ++ Y) ++ R) := h3.perm (by
    rw [← List.append_assoc]
    exact List.perm_append_comm.append_right R)
  exact h4.unflat
theorem Own.ents_append {v : Value} {L L2 : List E} {ds ds2 : List Value} (h1 : ds.length = L.length) (h2 : ds2.length = L2.length)
    (h : Own S w0 w (SP.row 26 4 v (mrow L ds ++ mrow L2 ds2) :: SP.stars (mdata L ds) :: SP.stars (mdata L2 ds2) :: R)) : Own S w0 w (SP.ents 26 v (L ++ L2) :: R) := by
  have h3 := (h.pick (L := [_, _, _]) [1, 2, 0]).join
  rw [← mdata_append h1] at h3
  refine Own.ents_shut (ds := ds ++ ds2) (by rw [List.length_append, List.length_append, h1, h2]) ?_
  rw [mrow_append h1]
  exact h3.swap
theorem EReads.of_blk {qb : Nat} {B : Option Addr} {cb : Nat} {t i k : Int} {d : List UInt8} (hb : Reads S w0 R B d) (h1 : d.length ≤ cb) (h2 : cb ≤ maxLen) :
    EReads S w0 (SP.blk qb 26 #[.int .i64 t, .int .i64 i, .int .i64 k, .slice B d.length cb] :: R) (some ⟨qb, 0, none⟩) [⟨t, i, k, d⟩] := fun W X hX j m hm => by
  have ho := hX.perm List.perm_middle
  have hj : j = 0 := by
    have := (List.getElem?_eq_some_iff.1 hm).1
    simp at this; exact this
  subst hj
  simp only [List.getElem?_cons_zero, Option.some.injEq] at hm
  subst hm
  refine ⟨qb, 0, B, cb, rfl, ho.blk_lt, ?_, ?_, ?_, ?_, h1, h2, ?_⟩
  · exact ho.blk_cell 0
  · exact ho.blk_cell 1
  · exact ho.blk_cell 2
  · exact ho.blk_cell 3
  · exact hb W (X ++ [_]) (by rw [List.append_assoc]; exact hX)

theorem append_18 {t k : Int} {d : List UInt8} (h : maxI ≤ x.lastI) : x.append t k d = ((0, 18), x) := by rw [Lg.append, if_pos h]
theorem append_10 {t k : Int} {d : List UInt8} (h1 : ¬ maxI ≤ x.lastI) (h : 10000 ≤ x.L.length) : x.append t k d = ((0, 10), x) := by rw [Lg.append, if_neg h1, if_pos h]
theorem append_1 {t k : Int} {d : List UInt8} (h1 : ¬ maxI ≤ x.lastI) (h2 : ¬ 10000 ≤ x.L.length) (h : t < x.lastT ∨ ¬ (1 ≤ t ∧ t ≤ maxI)) : x.append t k d = ((0, 1), x) := by rw [Lg.append, if_neg h1, if_neg h2, if_pos h]
theorem append_e {t k c : Int} {d : List UInt8} (h1 : ¬ maxI ≤ x.lastI) (h2 : ¬ 10000 ≤ x.L.length) (h3 : ¬ (t < x.lastT ∨ ¬ (1 ≤ t ∧ t ≤ maxI))) (hc : checkE ⟨t, x.lastI + 1, k, d⟩ = c) (h : c ≠ 0) : x.append t k d = ((0, c), x) := by
  rw [Lg.append, if_neg h1, if_neg h2, if_neg h3, hc, if_pos h]
theorem append_ok {t k : Int} {d : List UInt8} (h1 : ¬ maxI ≤ x.lastI) (h2 : ¬ 10000 ≤ x.L.length) (h3 : ¬ (t < x.lastT ∨ ¬ (1 ≤ t ∧ t ≤ maxI))) (hc : checkE ⟨t, x.lastI + 1, k, d⟩ = 0) : x.append t k d = ((x.lastI + 1, 0), { x with L := x.L ++ [⟨t, x.lastI + 1, k, d⟩] }) := by
  rw [Lg.append, if_neg h1, if_neg h2, if_neg h3, hc, if_neg (by decide)]

set_option maxRecDepth 100000 in
set_option maxHeartbeats 6400000 in
theorem append_own {B : Option Addr} {cb : Nat} {d : List UInt8} (hx : x.Ok) (h : Own S w0 w (SP.log 85 g x :: R)) (hb : Reads S w0 R B d) (hd1 : d.length ≤ cb) (hd2 : cb ≤ maxLen) (hd3 : d.length ≤ 140737488351232) (t k : Int) :
    Calls Try.prog 16 #[.pointer (some ⟨g, 0, none⟩), .int .i64 t, .int .i64 k, .slice B d.length cb] w fun e w' => e = .returned (.tuple #[.int .i64 (x.append t k d).1.1, .int .i64 (x.append t k d).1.2]) ∧ Own S w0 w' (SP.log 85 g (x.append t k d).2 :: R) := by
  have HT := Lib.hid (last_own (by have := hx.len; omega) h (fun j e he => (hx.idx j e he).1))
  obtain ⟨p, hp⟩ : ∃ p, x.lastI = p := ⟨_, rfl⟩
  obtain ⟨q, hq⟩ : ∃ q, x.lastT = q := ⟨_, rfl⟩
  obtain ⟨n, hn⟩ : ∃ n, x.L.length = n := ⟨_, rfl⟩
  have HP := Lib.hid (And.intro hp (And.intro hq hn))
  rw [hp, hq] at HT
  have hpm := hx.last
  rw [hp, maxI_eq] at hpm
  have hx0 := hx.i0
  have HX := Lib.hid hx
  have hip : x.index ≤ p := by rw [← hp]; unfold Lg.lastI; omega
  have HD := Lib.hid (And.intro hb (And.intro hd1 (And.intro hd2 hd3)))
  obtain ⟨dl, hdl⟩ : ∃ dl, d.length = dl := ⟨_, rfl⟩
  have HDL := Lib.hid hdl
  rw [hdl]
  rw [hdl] at hd1 hd3
  clear hp hq hn h hx hb hd2 hdl
  by_cases h1 : 4611686018427387904 ≤ p
  · rw [append_18 (by rw [HP.out.1, maxI_eq]; exact h1)]
    go_enter Try.func16, Try.ntmps16
    go_wp2_with fail
    refine (HT.out).mono ?_
    rintro e w1 ⟨rfl, o⟩
    have O := Lib.hid o
    clear o HT
    go_wp2
    go_ret2
    exact ⟨rfl, O.out⟩
  · have g1 : ¬ maxI ≤ x.lastI := by rw [HP.out.1, maxI_eq]; exact h1
    by_cases h2 : 10000 ≤ n
    · rw [append_10 g1 (by rw [HP.out.2.2]; exact h2)]
      have h2' : (10000 : Int) ≤ (n : Int) := by omega
      clear g1
      go_enter Try.func16, Try.ntmps16
      go_wp2_with fail
      refine (HT.out).mono ?_
      rintro e w1 ⟨rfl, o⟩
      have O := Lib.hid o
      obtain ⟨A, c, -, -, -, -, -, -, c2, -⟩ := o.log_cells
      rw [HP.out.2.2] at c2
      clear o HT
      go_wp2
      go_ret2
      exact ⟨rfl, O.out⟩
    · have g2 : ¬ 10000 ≤ x.L.length := by rw [HP.out.2.2]; exact h2
      have h2' : ¬ (10000 : Int) ≤ (n : Int) := by omega
      by_cases h3 : t < q
      · rw [append_1 g1 g2 (by rw [HP.out.2.1]; exact .inl h3)]
        clear g1 g2
        go_enter Try.func16, Try.ntmps16
        go_wp2_with fail
        refine (HT.out).mono ?_
        rintro e w1 ⟨rfl, o⟩
        have O := Lib.hid o
        obtain ⟨A, c, -, -, -, -, -, -, c2, -⟩ := o.log_cells
        rw [HP.out.2.2] at c2
        clear o HT
        go_wp2
        go_ret2
        exact ⟨rfl, O.out⟩
      · have hw := Lib.hid (fun W => within_calls W t 1)
        by_cases h4 : 1 ≤ t ∧ t ≤ maxI
        · have g3 : ¬ (t < x.lastT ∨ ¬ (1 ≤ t ∧ t ≤ maxI)) := by rw [HP.out.2.1]; rintro (h | h); exact h3 h; exact h h4
          rw [show withinB t 1 = true from decide_eq_true h4] at hw
          obtain ⟨ce, hce⟩ : ∃ ce, checkE ⟨t, p + 1, k, d⟩ = ce := ⟨_, rfl⟩
          have HCk := Lib.hid (fun (W : World) (L : List SP) (hW : Own S w0 W L) => check_own hW ⟨t, p + 1, k, d⟩ B cb HD.out.2.2.2)
          rw [hce] at HCk
          simp only [HDL.out] at HCk
          by_cases h5 : ce = 0
          · have happ := append_ok g1 g2 g3 (k := k) (d := d) (by rw [HP.out.1, hce, h5])
            rw [HP.out.1] at happ
            rw [happ]
            have h5' : (ce != 0) = false := by simp [h5]
            clear happ hce g1 g2 g3 h4 h5
            go_enter Try.func16, Try.ntmps16
            go_wp2_with fail
            refine (HT.out).mono ?_
            rintro e w1 ⟨rfl, o⟩
            obtain ⟨A, c, hc1, hc2, o1, -, -, -, c2, -⟩ := o.log_cells
            rw [HP.out.2.2] at c2
            have O1 := Lib.hid (And.intro o1 o)
            clear o o1 HT
            go_wp2_with fail
            refine (hw.out _).mono ?_
            rintro e w2 ⟨rfl, rfl⟩
            have O2 := Lib.hid (O1.out.1.alloc #[.int .i64 t, .int .i64 (p + 1), .int .i64 k, .slice B dl cb] 26)
            go_wp2_with fail
            refine (HCk.out _ _ O2.out).mono ?_
            rintro e w3 ⟨rfl, o3⟩
            obtain ⟨qx, hqx⟩ : ∃ qx, w1.heap.size = qx := ⟨_, rfl⟩
            have HQ := Lib.hid hqx
            rw [hqx] at o3
            have O3 := Lib.hid o3
            clear o3 O2 HCk hw hqx O1 c2
            go_upto_region 12 with (fail)
            simp only [HQ.out]
            have HSF := Lib.hid (show ∀ (W : World) (R' : List SP), Own S w0 W (SP.blk qx 26 #[.int .i64 t, .int .i64 (p + 1), .int .i64 k, .slice B dl cb] :: SP.blk g 85 (logA x (.slice A x.L.length c)) :: R') → W.cell? ⟨g, 2, none⟩ = some (.slice A n c) ∧ W.cell? ⟨qx, 0, none⟩ = some (.int .i64 t) ∧ W.cell? ⟨qx, 1, none⟩ = some (.int .i64 (p + 1)) ∧ W.cell? ⟨qx, 2, none⟩ = some (.int .i64 k) ∧ W.cell? ⟨qx, 3, none⟩ = some (.slice B dl cb) from fun W R' hW => ⟨by have := hW.swap.blk_cell 2; rw [← HP.out.2.2]; exact this, hW.blk_cell 0, hW.blk_cell 1, hW.blk_cell 2, hW.blk_cell 3⟩)
            refine wp_region_need (fun W => W.cell? ⟨g, 2, none⟩ = some (.slice A n c) ∧ W.cell? ⟨qx, 0, none⟩ = some (.int .i64 t) ∧ W.cell? ⟨qx, 1, none⟩ = some (.int .i64 (p + 1)) ∧ W.cell? ⟨qx, 2, none⟩ = some (.int .i64 k) ∧ W.cell? ⟨qx, 3, none⟩ = some (.slice B dl cb)) (fun j => decide (j < 9)) (by kernel_rfl) ?_
            have O4 := Lib.hid O3.out.drew
            obtain ⟨W4, hW4⟩ : ∃ x, w3.drew = x := ⟨_, rfl⟩
            rw [hW4] at O4 ⊢
            clear hW4 O3
            have HS := Lib.hid (HSF.out _ _ O4.out)
            refine wpAnyN_take (i := 0) (v := ?v0) (by simp only [List.getElem?_toArray, List.getElem?_cons_succ, List.getElem?_cons_zero]; rfl) (by kernel_rfl) (by intro _ _ _ h; exact h) (Or.inl ⟨by rfl, ?y0⟩) HS.out ?r0
            case y0 =>
              intro W hSW
              try dsimp only at hSW
              obtain ⟨s0, s1, s2, s3, s4⟩ := hSW
              go_simp
              try with_reducible rfl
            simp only [Act.put, List.setIfInBounds_toArray, List.set_cons_zero, List.set_cons_succ]
            refine wpAnyN_take (i := 1) (v := ?v1) (by simp only [List.getElem?_toArray, List.getElem?_cons_succ, List.getElem?_cons_zero]; rfl) (by kernel_rfl) (by intro _ _ _ h; exact h) (Or.inl ⟨by rfl, ?y1⟩) HS.out ?r1
            case y1 =>
              intro W hSW
              try dsimp only at hSW
              obtain ⟨s0, s1, s2, s3, s4⟩ := hSW
              go_simp
              try with_reducible rfl
            simp only [Act.put, List.setIfInBounds_toArray, List.set_cons_zero, List.set_cons_succ]
            refine wpAnyN_take (i := 2) (v := ?v2) (by simp only [List.getElem?_toArray, List.getElem?_cons_succ, List.getElem?_cons_zero]; rfl) (by kernel_rfl) (by intro _ _ _ h; exact h) (Or.inl ⟨by rfl, ?y2⟩) HS.out ?r2
            case y2 =>
              intro W hSW
              try dsimp only at hSW
              obtain ⟨s0, s1, s2, s3, s4⟩ := hSW
              go_simp
              try with_reducible rfl
            simp only [Act.put, List.setIfInBounds_toArray, List.set_cons_zero, List.set_cons_succ]
            refine wpAnyN_take (i := 3) (v := ?v3) (by simp only [List.getElem?_toArray, List.getElem?_cons_succ, List.getElem?_cons_zero]; rfl) (by kernel_rfl) (by intro _ _ _ h; exact h) (Or.inl ⟨by rfl, ?y3⟩) HS.out ?r3
            case y3 =>
              intro W hSW
              try dsimp only at hSW
              obtain ⟨s0, s1, s2, s3, s4⟩ := hSW
              go_simp
              try with_reducible rfl
            simp only [Act.put, List.setIfInBounds_toArray, List.set_cons_zero, List.set_cons_succ]
            refine wpAnyN_take (i := 4) (v := ?v4) (by simp only [List.getElem?_toArray, List.getElem?_cons_succ, List.getElem?_cons_zero]; rfl) (by kernel_rfl) (by intro _ _ _ h; exact h) (Or.inl ⟨by rfl, ?y4⟩) HS.out ?r4
            case y4 =>
              intro W hSW
              try dsimp only at hSW
              obtain ⟨s0, s1, s2, s3, s4⟩ := hSW
              go_simp
              try with_reducible rfl
            simp only [Act.put, List.setIfInBounds_toArray, List.set_cons_zero, List.set_cons_succ]
            refine wpAnyN_take (i := 5) (v := ?v5) (by simp only [List.getElem?_toArray, List.getElem?_cons_succ, List.getElem?_cons_zero]; rfl) (by kernel_rfl) (by intro _ _ _ h; exact h) (Or.inl ⟨by rfl, ?y5⟩) HS.out ?r5
            case y5 =>
              intro W hSW
              try dsimp only at hSW
              obtain ⟨s0, s1, s2, s3, s4⟩ := hSW
              go_simp
              try with_reducible rfl
            simp only [Act.put, List.setIfInBounds_toArray, List.set_cons_zero, List.set_cons_succ]
            refine wpAnyN_one (i := 6) (by kernel_rfl) (by simp only [List.getElem?_toArray, List.getElem?_cons_succ, List.getElem?_cons_zero]; rfl) (fun K hK => ?_)
            go_simp
            have O5 := Lib.hid (O4.out.alloc #[.int .i64 t, .int .i64 (p + 1), .int .i64 k, .slice B dl cb] 26)
            refine hK _ _ ⟨fun _ => HSF.out _ _ (O5.out.pop), ?_⟩
            clear hK K O4
            try simp only [Act.put, List.setIfInBounds_toArray, List.set_cons_zero, List.set_cons_succ]
            obtain ⟨W5, hW5⟩ : ∃ x, W4.alloc (.cells #[.int .i64 t, .int .i64 (p + 1), .int .i64 k, .slice B dl cb] 26) = x := ⟨_, rfl⟩
            obtain ⟨q5, hq5⟩ : ∃ x, W4.heap.size = x := ⟨_, rfl⟩
            rw [hW5, hq5] at O5
            simp only [hW5, hq5]
            clear hW5 hq5
            have HOw := own_own (c := 1) (A := some ⟨q5, 0, none⟩) (es := [⟨t, p + 1, k, d⟩]) (by simp) (by intro m hm; simp at hm; subst hm; exact HD.out.2.2.2) O5.out (by
              have h1 := EReads.of_blk (S := S) (w0 := w0) (R := [SP.blk qx 26 #[.int .i64 t, .int .i64 (p + 1), .int .i64 k, .slice B dl cb], SP.blk g 85 (logA x (.slice A x.L.length c)), SP.ents 26 (.slice A x.L.length c) x.L] ++ R) (qb := q5) (t := t) (i := p + 1) (k := k) (cb := cb) (Reads.more HD.out.1 _) HD.out.2.1 HD.out.2.2.1
              rw [HDL.out] at h1
              exact h1)
            have HOw := Lib.hid HOw
            refine wpAnyN_one (i := 7) (by kernel_rfl) (by simp only [List.getElem?_toArray, List.getElem?_cons_succ, List.getElem?_cons_zero]; rfl) (fun K hK => ?_)
            refine step_call rfl 49 _ _ rfl Try.func49 (by kernel_rfl) (by kernel_rfl) _ rfl ?_
            refine (HOw.out).mono ?_
            rintro e w6 ⟨A6, c6, rfl, o6⟩
            refine ⟨_, rfl, ?_⟩
            have O6 := Lib.hid o6
            refine hK _ _ ⟨fun _ => HSF.out _ _ (o6.pick (L := [_, _, _, _]) [2, 3]), ?_⟩
            clear hK K O5 HOw o6
            try simp only [Act.put, List.setIfInBounds_toArray, List.set_cons_zero, List.set_cons_succ]
            obtain ⟨_, _, ds2, e2, hds2, -, -, o7⟩ := O6.out.ents_open
            cases e2
            obtain ⟨_, _, ds1, e1, hds1, -, -, o8⟩ := (o7.pick (L := [_, _, _, _, _, _]) [5, 0, 1, 3, 4]).ents_open
            cases e1
            have O8 := Lib.hid o8
            have H12 := Lib.hid (And.intro hds1 hds2)
            have h1n : ∀ u ∈ mrow [(⟨t, p + 1, k, d⟩ : E)] ds2, u.oneCell' = true := fun u hu => mrow_one u hu (Own.mdata_one hds2 (o7.pick (L := [_, _]) [1]))
            have HON := Lib.hid h1n
            clear o7 o8 hds1 hds2 h1n O6 HS
            refine wpAnyN_one (i := 8) (by kernel_rfl) (by simp only [List.getElem?_toArray, List.getElem?_cons_succ, List.getElem?_cons_zero]; rfl) (fun K hK => ?_)
            refine step_append_move rfl (.tmp 54) (.tmp 57) 23 rfl 26 entZero 4 48 Try.underlying23 Try.info26 entZero_size (by decide) (by rw [HP.out.2.2]; rfl) (mrow_length H12.out.1) O8.out (Below.refl _ _) A6 1 c6 (mrow [(⟨t, p + 1, k, d⟩ : E)] ds2) rfl (by rw [mrow_length H12.out.2]; rfl) ((O8.out.pick (L := [_, _, _]) [2]).rd) HON.out (by rw [HP.out.2.2]; unfold maxLen; omega) (by rw [HP.out.2.2]; omega) ?_
            rintro A9 c9 w9 o9
            have O9 := Lib.hid o9
            have f2 := (o9.pick (L := [_, _, _, _, _, _]) [5]).blk_free 2
            have e2 : w9.cell? ⟨g, 2, none⟩ = some (.slice A n c) := by rw [← HP.out.2.2]; exact (o9.pick (L := [_, _, _, _, _, _]) [5]).blk_cell 2
            have lq := (o9.pick (L := [_, _, _, _, _]) [4]).blk_lt
            have lg := (o9.pick (L := [_, _, _, _, _, _]) [5]).blk_lt
            have ex1 : w9.cell? ⟨qx, 1, none⟩ = some (.int .i64 (p + 1)) := (o9.pick (L := [_, _, _, _, _]) [4]).blk_cell 1
            refine hK _ _ ⟨fun _ => HSF.out _ _ (o9.pick (L := [_, _, _, _, _, _]) [4, 5]), ?_⟩
            clear hK K O8 o9
            try simp only [Act.put, List.setIfInBounds_toArray, List.set_cons_zero, List.set_cons_succ]
            refine wpAnyN_one (i := 9) (by kernel_rfl) (by simp only [List.getElem?_toArray, List.getElem?_cons_succ, List.getElem?_cons_zero]; rfl) (fun K hK => ?_)
            go_simp
            refine hK _ _ ⟨fun h => (by cases h), ?_⟩
            clear hK K
            try simp only [Act.put, List.setIfInBounds_toArray, List.set_cons_zero, List.set_cons_succ]
            refine wpAnyN_one (i := 10) (by kernel_rfl) (by simp only [List.getElem?_toArray, List.getElem?_cons_succ, List.getElem?_cons_zero]; rfl) (fun K hK => ?_)
            go_simp
            refine hK _ _ ⟨fun h => (by cases h), ?_⟩
            clear hK K
            try simp only [Act.put, List.setIfInBounds_toArray, List.set_cons_zero, List.set_cons_succ]
            refine wpAnyN_one (i := 11) (by kernel_rfl) (by simp only [List.getElem?_toArray, List.getElem?_cons_succ, List.getElem?_cons_zero]; rfl) (fun K hK => ?_)
            go_simp
            refine hK _ _ ⟨fun h => (by cases h), ?_⟩
            clear hK K
            try simp only [Act.put, List.setIfInBounds_toArray, List.set_cons_zero, List.set_cons_succ]
            refine wpAnyN_done (by kernel_rfl) ?_ _
            go_wp2
            go_ret2
            refine ⟨rfl, ?_⟩
            have o10 := (O9.out.pick (L := [_, _, _, _, _, _]) [5, 0, 1, 3]).blk_set 2 (.slice A9 (x.L.length + 1) c9)
            refine Own.log_shut (x := { x with L := x.L ++ [⟨t, p + 1, k, d⟩] }) (v := .slice A9 (x.L.length + 1) c9) ?_
            exact (Own.ents_append H12.out.1 H12.out.2 (o10.pick (L := [_, _, _, _]) [1, 2, 3, 0])).swap
          · rw [append_e g1 g2 g3 (k := k) (d := d) (c := ce) (by rw [HP.out.1]; exact hce) h5]
            have h5' : (ce != 0) = true := by simpa using h5
            clear hce g1 g2 g3 h4 h5
            go_enter Try.func16, Try.ntmps16
            go_wp2_with fail
            refine (HT.out).mono ?_
            rintro e w1 ⟨rfl, o⟩
            obtain ⟨A, c, -, -, -, -, -, -, c2, -⟩ := o.log_cells
            rw [HP.out.2.2] at c2
            have O1 := Lib.hid o
            clear o HT
            go_wp2_with fail
            refine (hw.out _).mono ?_
            rintro e w2 ⟨rfl, rfl⟩
            have O2 := Lib.hid (O1.out.alloc #[.int .i64 t, .int .i64 (p + 1), .int .i64 k, .slice B dl cb] 26)
            go_wp2_with fail
            refine (HCk.out _ _ O2.out).mono ?_
            rintro e w3 ⟨rfl, o3⟩
            have O3 := Lib.hid o3.pop
            clear o3 O2 HCk hw
            go_wp2
            go_ret2
            exact ⟨rfl, O3.out⟩
        · rw [append_1 g1 g2 (.inr h4)]
          rw [show withinB t 1 = false from decide_eq_false h4] at hw
          clear g1 g2 h4
          go_enter Try.func16, Try.ntmps16
          go_wp2_with fail
          refine (HT.out).mono ?_
          rintro e w1 ⟨rfl, o⟩
          obtain ⟨A, c, -, -, -, -, -, -, c2, -⟩ := o.log_cells
          rw [HP.out.2.2] at c2
          have O1 := Lib.hid o
          clear o HT
          go_wp2_with fail
          refine (hw.out _).mono ?_
          rintro e w2 ⟨rfl, rfl⟩
          go_wp2
          go_ret2
          exact ⟨rfl, O1.out⟩
end
end Go.Proofs.Ytepnkhiclgjmpaa
