/-
  CheckMessage of a message that gives entries; may.
  Conditions: none beyond each theorem's own.
-/
import Derived.Test.YtepnkhiclgjmpaaMay3
namespace Go.Proofs.Ytepnkhiclgjmpaa
set_option linter.unusedVariables false
set_option linter.unusedSimpArgs false
open Go.RowKit

theorem mayB_num {i t : Int} {es : List E} (h : (withinB i 0 && withinB t 0) = false) : mayB i t es = false := by rw [mayB, h, Bool.false_and]
theorem mayB_yes {i t : Int} {es : List E} (h : (withinB i 0 && withinB t 0) = true) : mayB i t es = appB i t es := by rw [mayB, h, Bool.true_and]
section
variable {S : Nat → Prop} {w0 w : World} {R : List SP}
set_option maxRecDepth 100000 in
set_option maxHeartbeats 6400000 in
theorem checkmsg_own {es : List E} {A : Option Addr} {c : Nat} (h : Own S w0 w R) (hr : EReads S w0 R A es) (hl : es.length ≤ 1000000) (hd : ∀ m, m ∈ es → m.dat.length ≤ 140737488351232) (i t : Int) :
    Calls Try.prog 58 #[msgV i t A es.length c] w fun e w' => ∃ r : Int, e = .returned (.int .i64 r) ∧ (r == 0) = mayB i t es ∧ Own S w0 w' R := by
  obtain ⟨q, hq⟩ : ∃ q, w.heap.size = q := ⟨_, rfl⟩
  have HQ := Lib.hid hq
  have o1 := h.alloc (msgA i t A es.length c) 94
  rw [hq] at o1
  have O1 := Lib.hid o1
  have w1 := Lib.hid (fun W => rwithin_calls W 3 1 7)
  have w2 := Lib.hid (fun W => rwithin_calls W 1 1 7)
  have w3 := Lib.hid (fun W => rwithin_calls W 2 1 7)
  have w4 := Lib.hid (fun W => rwithin_max W 4611686018427387904 1)
  have w5 := Lib.hid (fun W => number_calls W i)
  have w6 := Lib.hid (fun W => number_calls W t)
  have w7 := Lib.hid (fun W => number_calls W 0)
  rw [show decide ((1 : Int) ≤ 3 ∧ (3 : Int) ≤ 7) = true by decide] at w1
  rw [show decide ((1 : Int) ≤ 1 ∧ (1 : Int) ≤ 7) = true by decide] at w2
  rw [show decide ((1 : Int) ≤ 2 ∧ (2 : Int) ≤ 7) = true by decide] at w3
  rw [show withinB 4611686018427387904 1 = true by decide] at w4
  rw [show withinB 0 0 = true by decide] at w7
  have HU := Lib.hid (fun (W : World) (o : Own S w0 W (SP.blk q 94 (msgA i t A es.length c) :: R)) => used_own o i t A es.length c)
  have HM := Lib.hid (fun (W : World) (o : Own S w0 W (SP.blk q 94 (msgA i t A es.length c) :: R)) => samemsg_own (c := c) o (hr.more [_]) hl hd i t)
  have HA := Lib.hid (fun (W : World) (o : Own S w0 W (SP.blk q 94 (msgA i t A es.length c) :: R)) (h1 : 0 ≤ i) (h2 : i ≤ 4611686018427387904) (h3 : 0 ≤ t) (h4 : t ≤ 4611686018427387904) => app_own (c := c) o (hr.more [_]) (fun m hm => by have := hd m hm; omega) i t h1 h2 h3 h4 (by omega))
  have hrange : withinB i 0 = true → withinB t 0 = true → 0 ≤ i ∧ i ≤ 4611686018427387904 ∧ 0 ≤ t ∧ t ≤ 4611686018427387904 := fun h1 h2 => by
    have := of_decide_eq_true h1
    have := of_decide_eq_true h2
    rw [maxI_eq] at *
    omega
  have HRG := Lib.hid hrange
  have HN := Lib.hid (@mayB_num i t es)
  have HY := Lib.hid (@mayB_yes i t es)
  obtain ⟨wi, hwi⟩ : ∃ wi, withinB i 0 = wi := ⟨_, rfl⟩
  obtain ⟨wt, hwt⟩ : ∃ wt, withinB t 0 = wt := ⟨_, rfl⟩
  rw [hwi] at HRG HN HY w5
  rw [hwt] at HRG HN HY w6
  unfold msgV at HU HM HA ⊢
  unfold msgA at O1 HU HM HA ⊢
  clear h o1 hr hd hq hwi hwt hrange
  go_enter Try.func58, Try.ntmps58
  go_wp2_with fail
  refine (w1.out _).mono ?_
  rintro e x1 ⟨rfl, rfl⟩
  go_wp2_with fail
  refine (w2.out _).mono ?_
  rintro e x1 ⟨rfl, rfl⟩
  go_wp2_with fail
  refine (w3.out _).mono ?_
  rintro e x1 ⟨rfl, rfl⟩
  go_wp2_with fail
  refine (w4.out _).mono ?_
  rintro e x1 ⟨rfl, rfl⟩
  go_wp2_with fail
  refine (w5.out _).mono ?_
  rintro e x1 ⟨rfl, rfl⟩
  cases wi with
  | false =>
    have HN1 := Lib.hid (HN.out (by simp))
    go_wp2
    go_ret
    exact ⟨1, rfl, by rw [HN1.out]; simp, O1.out.pop⟩
  | true =>
    go_wp2_with fail
    refine (w6.out _).mono ?_
    rintro e x1 ⟨rfl, rfl⟩
    cases wt with
    | false =>
      have HN1 := Lib.hid (HN.out (by simp))
      go_wp2
      go_ret
      exact ⟨1, rfl, by rw [HN1.out]; simp, O1.out.pop⟩
    | true =>
      have HY1 := Lib.hid (HY.out (by simp))
      have HRG1 := Lib.hid (HRG.out (by simp) (by simp))
      go_wp2_with fail
      refine (w7.out _).mono ?_
      rintro e x1 ⟨rfl, rfl⟩
      go_wp2_with fail
      refine (w7.out _).mono ?_
      rintro e x1 ⟨rfl, rfl⟩
      go_wp2_with fail
      refine (w7.out _).mono ?_
      rintro e x1 ⟨rfl, rfl⟩
      clear w1 w2 w3 w4 w5 w6 w7 HN HY HRG
      go_upto_region 7 with (fail)
      simp only [World.size_alloc, HQ.out]
      obtain ⟨W1, hW1⟩ : ∃ W1, w.alloc (.cells #[.int .i64 3, .int .i64 1, .int .i64 2, .int .i64 4611686018427387904, .int .i64 i, .int .i64 t, .int .i64 0, .int .i64 0, .int .i64 0, .bool false, .slice A es.length c, .int .i64 0, .int .i64 0, .slice none 0 0] 94) = W1 := ⟨_, rfl⟩
      rw [hW1] at O1
      simp only [hW1]
      clear hW1
      obtain ⟨n, hn⟩ : ∃ n, es.length = n := ⟨_, rfl⟩
      rw [hn] at O1 HU HM HA
      simp only [hn]
      have G : ∀ W, Own S w0 W (SP.blk q 94 (msgA i t A n c) :: R) → W.cell? ⟨q, 0, none⟩ = some (.int .i64 3) ∧ W.cell? ⟨q, 1, none⟩ = some (.int .i64 1) ∧ W.cell? ⟨q, 2, none⟩ = some (.int .i64 2) ∧ W.cell? ⟨q, 3, none⟩ = some (.int .i64 4611686018427387904) ∧ W.cell? ⟨q, 4, none⟩ = some (.int .i64 i) ∧ W.cell? ⟨q, 5, none⟩ = some (.int .i64 t) ∧ W.cell? ⟨q, 6, none⟩ = some (.int .i64 0) ∧ W.cell? ⟨q, 7, none⟩ = some (.int .i64 0) ∧ W.cell? ⟨q, 8, none⟩ = some (.int .i64 0) ∧ W.cell? ⟨q, 9, none⟩ = some (.bool false) ∧ W.cell? ⟨q, 10, none⟩ = some (.slice A n c) ∧ W.cell? ⟨q, 11, none⟩ = some (.int .i64 0) ∧ W.cell? ⟨q, 12, none⟩ = some (.int .i64 0) ∧ W.cell? ⟨q, 13, none⟩ = some (.slice none 0 0) := fun W o =>
        ⟨o.blk_cell 0, o.blk_cell 1, o.blk_cell 2, o.blk_cell 3, o.blk_cell 4, o.blk_cell 5, o.blk_cell 6, o.blk_cell 7, o.blk_cell 8, o.blk_cell 9, o.blk_cell 10, o.blk_cell 11, o.blk_cell 12, o.blk_cell 13⟩
      have HG := Lib.hid G
      obtain ⟨c0, c1, c2, c3, c4, c5, c6, c7, c8, c9, c10, c11, c12, c13⟩ := G _ O1.out
      clear G hn
      go_region_held3 (fun W => W.cell? ⟨q, 0, none⟩ = some (.int .i64 3) ∧ W.cell? ⟨q, 1, none⟩ = some (.int .i64 1) ∧ W.cell? ⟨q, 2, none⟩ = some (.int .i64 2) ∧ W.cell? ⟨q, 3, none⟩ = some (.int .i64 4611686018427387904) ∧ W.cell? ⟨q, 4, none⟩ = some (.int .i64 i) ∧ W.cell? ⟨q, 5, none⟩ = some (.int .i64 t) ∧ W.cell? ⟨q, 6, none⟩ = some (.int .i64 0) ∧ W.cell? ⟨q, 7, none⟩ = some (.int .i64 0) ∧ W.cell? ⟨q, 8, none⟩ = some (.int .i64 0) ∧ W.cell? ⟨q, 9, none⟩ = some (.bool false) ∧ W.cell? ⟨q, 10, none⟩ = some (.slice A n c) ∧ W.cell? ⟨q, 11, none⟩ = some (.int .i64 0) ∧ W.cell? ⟨q, 12, none⟩ = some (.int .i64 0) ∧ W.cell? ⟨q, 13, none⟩ = some (.slice none 0 0))
        (first | go_keep | exact ⟨c0, c1, c2, c3, c4, c5, c6, c7, c8, c9, c10, c11, c12, c13⟩ | exact HG.out _ O6.out | exact HG.out _ O5.out)
        (first
          | (refine step_call rfl 81 _ _ rfl Try.func81 (by kernel_rfl) (by kernel_rfl) #[.agg #[.int .i64 3, .int .i64 1, .int .i64 2, .int .i64 4611686018427387904, .int .i64 i, .int .i64 t, .int .i64 0, .int .i64 0, .int .i64 0, .bool false, .slice A n c, .int .i64 0, .int .i64 0, .slice none 0 0]] (by simp [Act.eval]) ?_
             refine (HU.out _ (O1.out.drewN 1)).mono ?_
             rintro e w5 ⟨rfl, o5⟩
             refine ⟨_, rfl, ?_⟩
             have O5 := Lib.hid o5
             clear o5 HU)
          | (refine step_call rfl 80 _ _ rfl Try.func80 (by kernel_rfl) (by kernel_rfl) #[.agg #[.int .i64 3, .int .i64 1, .int .i64 2, .int .i64 4611686018427387904, .int .i64 i, .int .i64 t, .int .i64 0, .int .i64 0, .int .i64 0, .bool false, .slice A n c, .int .i64 0, .int .i64 0, .slice none 0 0], .agg #[.int .i64 3, .int .i64 1, .int .i64 2, .int .i64 4611686018427387904, .int .i64 i, .int .i64 t, .int .i64 0, .int .i64 0, .int .i64 0, .bool false, .slice A n c, .int .i64 0, .int .i64 0, .slice none 0 0]] (by simp [Act.eval]) ?_
             refine (HM.out _ O5.out).mono ?_
             rintro e w6 ⟨rfl, o6⟩
             refine ⟨_, rfl, ?_⟩
             have O6 := Lib.hid o6
             clear o6 HM))
      clear c0 c1 c2 c3 c4 c5 c6 c7 c8 c9 c10 c11 c12 c13 O1 O5
      obtain ⟨c0, c1, c2, c3, c4, c5, c6, c7, c8, c9, c10, c11, c12, c13⟩ := HG.out _ O6.out
      have HA6 := Lib.hid (HA.out _ O6.out HRG1.out.1 HRG1.out.2.1 HRG1.out.2.2.1 HRG1.out.2.2.2)
      clear HA HG O6
      go_wp2_with fail
      refine (HA6.out).mono ?_
      rintro e w7 ⟨r, rfl, hr0, o7⟩
      have O7 := Lib.hid (And.intro hr0 o7)
      clear hr0 o7 HA6 c0 c1 c2 c3 c4 c5 c6 c7 c8 c9 c10 c11 c12 c13
      go_wp2
      go_ret
      exact ⟨r, rfl, by rw [O7.out.1, HY1.out], O7.out.2.pop⟩

set_option maxHeartbeats 1600000 in
theorem may_own {es : List E} {A : Option Addr} {c : Nat} (h : Own S w0 w R) (hr : EReads S w0 R A es) (hl : es.length ≤ 1000000) (hd : ∀ m, m ∈ es → m.dat.length ≤ 140737488351232) (i t : Int) :
    Calls Try.prog 28 #[.int .i64 i, .int .i64 t, .slice A es.length c] w fun e w' => e = .returned (.bool (mayB i t es)) ∧ Own S w0 w' R := by
  have HC := Lib.hid (checkmsg_own (c := c) ((h.alloc (msgA i t A es.length c) 94).pop) hr hl hd i t)
  clear h hr hd
  unfold msgV at HC
  unfold msgA at HC
  obtain ⟨b, hb⟩ : ∃ b, mayB i t es = b := ⟨_, rfl⟩
  rw [hb] at HC ⊢
  clear hb
  go_enter Try.func28, Try.ntmps28
  go_wp2_with fail
  refine (HC.out).mono ?_
  rintro e w7 ⟨r, rfl, hr0, o7⟩
  have O7 := Lib.hid o7
  clear o7 HC
  go_wp2
  go_ret
  exact ⟨rfl, O7.out⟩
end
end Go.Proofs.Ytepnkhiclgjmpaa
