/-
  LogOrder as a call: it returns true, and what was there stays.
  Conditions: the operations lie in memory as they were handed in.
-/
import Derived.Test.YtepnkhiclgjmpaaHold
import Derived.Deep.DeepCutAuto
import Derived.Deep.Cut
import Derived.Deep.CutBlock
namespace Go.Proofs.Ytepnkhiclgjmpaa
set_option linter.unusedVariables false
set_option linter.unusedSimpArgs false
open Go.RowKit

set_option maxRecDepth 100000 in
set_option maxHeartbeats 32000000 in
theorem order_calls (w : World) (A : Option Addr) (c : Nat) (l : List Op8) (hops : Ops8 w A l) (hl : l.length ≤ 140737488351232) :
    Calls Try.prog 9 #[.slice A l.length c] w fun e w' => e = .returned (.bool true) ∧ Below w.heap.size w w' := by
  have HF := Lib.hid (first_own (Own.start w))
  have HOP := Lib.hid hops
  clear hops
  go_enter Try.func9, Try.ntmps9
  go_wp2_with fail
  refine (HF.out).mono ?_
  rintro e w1 ⟨rfl, o1⟩
  have hop1 : Ops8 w1 A l := fun i o ho => by
    obtain ⟨b, off, Ae, ce, Ab, cb, h1, hb, k0, k1, k2, k3, k4, k5, hE, hB, hr⟩ := HOP.out i o ho
    have hbl := o1.below
    exact ⟨b, off, Ae, ce, Ab, cb, h1, by have := hbl.size; omega, (hbl.cell hb).trans k0, (hbl.cell hb).trans k1, (hbl.cell hb).trans k2, (hbl.cell hb).trans k3, (hbl.cell hb).trans k4, (hbl.cell hb).trans k5, hE.below hbl, ⟨hB.1, hB.2.1, hB.2.2.1, hB.2.2.2.below hbl⟩, hr⟩
  have HFew := Lib.hid (few_calls w1 A c l hop1 hl)
  have O1 := Lib.hid o1
  clear o1 HF hop1
  go_wp2_with fail
  refine (HFew.out).mono ?_
  rintro e w2 ⟨sm, rfl, rfl, hsm⟩
  have HSM := Lib.hid hsm
  have hN := new_own (A := none) (c := 0) (es := []) (by decide) (by simp) O1.out EReads.nil 0 0 0
  rw [bLog_new] at hN
  have HN := Lib.hid hN
  clear hN HFew hsm
  cases sm with
  | false =>
    go_wp2
    go_ret
    exact ⟨rfl, O1.out.below⟩
  | true =>
    have h300 := (HSM.out rfl).1
    have H64 := Lib.hid (HSM.out rfl).2
    clear HSM
    go_wp2_with fail
    refine (HN.out).mono ?_
    rintro e w3 ⟨g, rfl, o3⟩
    have O3 := Lib.hid o3
    have hb0 := Lib.hid bLog_nil_ok
    clear o3 HN O1
    go_wp2
    go_loopw [7, 8] (fun ta ti wr => ∃ (i : Nat) (x : Lg), i ≤ l.length ∧ ta = .int .i64 x.ap ∧ ti = .int .i64 i ∧ Hid x.Ok ∧ Own (fun _ => False) w wr [SP.log 85 g x]) (fun _ ti _ => l.length - (intOf ti).toNat)
    case atStart => exact ⟨0, bLog [], Nat.zero_le _, rfl, rfl, hb0.out, O3.out⟩
    case round =>
      obtain ⟨i, x, hi, rfl, rfl, hI, hown⟩ := hrel
      clear O3 hb0
      by_cases hin : i < l.length
      · obtain ⟨o, hoi⟩ : ∃ o, l[i]? = some o := ⟨_, List.getElem?_eq_getElem hin⟩
        obtain ⟨b, off, Ae, ce, Ab, cb, rfl, hb, k0, k1, k2, k3, k4, k5, hE, hB, h64i⟩ := HOP.out i o hoi
        have h64 := H64.out o (List.mem_of_getElem? hoi)
        obtain ⟨kd, on, ot, om, oe, obb⟩ := o
        simp only at k0 k1 k2 k3 k4 k5 hE hB h64 h64i
        have HI64 := Lib.hid h64i
        have hbw : Below w.heap.size w wr := hown.below
        have c0 := (hbw.cell hb).trans k0
        have c1 := (hbw.cell hb).trans k1
        have c2 := (hbw.cell hb).trans k2
        have c3 := (hbw.cell hb).trans k3
        have c4 := (hbw.cell hb).trans k4
        have c5 := (hbw.cell hb).trans k5
        have i1 : (i : Int) < (l.length : Int) := by omega
        have HE := Lib.hid hE
        have HB := Lib.hid hB
        obtain ⟨el, hel⟩ : ∃ el, oe.length = el := ⟨_, rfl⟩
        obtain ⟨bl, hbl⟩ : ∃ bl, obb.length = bl := ⟨_, rfl⟩
        have HL := Lib.hid (And.intro hel hbl)
        rw [hel] at c4 h64
        rw [hbl] at c5
        have HN := Lib.hid (hown.alloc #[.int .i64 kd, .int .i64 on, .int .i64 ot, .int .i64 om, .slice Ae el ce, .slice Ab bl cb] 60)
        clear h64i hel hbl k0 k1 k2 k3 k4 k5 hoi hE hB hown hbw
        go_upto_region 13 with (fail)
        obtain ⟨wo, hwo⟩ : ∃ wo, wr.alloc (.cells #[.int .i64 kd, .int .i64 on, .int .i64 ot, .int .i64 om, .slice Ae el ce, .slice Ab bl cb] 60) = wo := ⟨_, rfl⟩
        obtain ⟨qb, hqb⟩ : ∃ qb, wr.heap.size = qb := ⟨_, rfl⟩
        rw [hwo, hqb] at HN
        simp only [hwo, hqb]
        clear hwo hqb c0 c1 c2 c3 c4 c5
        have hmk := marks_own (HN.out.swap)
        unfold marksV at hmk
        have HMk := Lib.hid hmk
        clear hmk HN
        go_wp2_with fail
        refine (HMk.out).mono ?_
        rintro e w4 ⟨rfl, o4⟩
        have o5 := o4.alloc #[.int .i64 x.h, .int .i64 x.s, .int .i64 x.c, .int .i64 x.ap, .int .i64 x.ad] 65
        obtain ⟨qm, hqm⟩ : ∃ q, w4.heap.size = q := ⟨_, rfl⟩
        have HQM := Lib.hid hqm
        rw [hqm] at o5
        have HBa := Lib.hid (base_own (o5.pick (L := [_, _, _]) [1, 0, 2]))
        clear o4 o5 hqm HMk
        go_wp2_with fail
        refine (HBa.out).mono ?_
        rintro e w5 ⟨rfl, o5⟩
        simp only [HQM.out]
        have m2 := (o5.pick (L := [_, _, _]) [1]).blk_cell 2
        simp only [List.getElem?_toArray, List.getElem?_cons_zero, List.getElem?_cons_succ] at m2
        have hE1 := entries_own hI.out o5 (x.index + 1) (x.c - x.index) ⟨by have := hI.out.i0; omega, by have := hI.out.i1; rw [maxI_eq] at this; omega⟩ ⟨by have := hI.out.a0; have := hI.out.a1; have := hI.out.a2; omega, by have := hI.out.a3; have := hI.out.i0; have := hI.out.last; rw [maxI_eq] at this; omega⟩
        rw [done_entries hI.out] at hE1
        obtain ⟨DD, hDD⟩ : ∃ D, x.done = D := ⟨_, rfl⟩
        obtain ⟨DL, hDL⟩ : ∃ D, DD.length = D := ⟨_, rfl⟩
        rw [hDD] at hE1
        simp only [hDL] at hE1
        have HDD := Lib.hid (show DD.length ≤ 10000 ∧ DD.length = DL ∧ x.done = DD ∧ ∀ m, m ∈ DD → m.dat.length ≤ 4096 ∧ In64 m.index from by
          refine ⟨?_, hDL, hDD, fun m hm => ?_⟩
          · rw [← hDD]; unfold Lg.done; rw [List.length_take]; have := hI.out.len; omega
          · rw [← hDD] at hm
            obtain ⟨j, hj, -, hmi⟩ := done_mem hI.out hm
            have h1 := hI.out.idx j m hj
            have h2 := hI.out.i0
            rw [maxI_eq] at h1
            exact ⟨hI.out.dat m (List.mem_of_getElem? hj), by omega, by omega⟩)
        have HE1 := Lib.hid hE1
        have x0 := hI.out.i0
        have x1 : x.index ≤ 4611686018427387904 := by have := hI.out.i1; rw [maxI_eq] at this; exact this
        have x2 : x.index ≤ x.c := by have := hI.out.a0; have := hI.out.a1; have := hI.out.a2; omega
        have x3 : x.c ≤ 4611686018427387904 := by have := hI.out.a3; have := hI.out.last; rw [maxI_eq] at this; omega
        clear o5 HBa hE1 hDD hDL
        go_wp2_with fail
        refine (HE1.out).mono ?_
        rintro e w6 ⟨Ao, co, rfl, o6⟩
        have HO := Lib.hid (o6.pick (L := [_, _, _, _]) [1, 0, 2, 3])
        clear o6 HE1 m2 x0 x1 x2 x3
        have d0 := (HO.out.pick (L := [_, _, _, _]) [3]).blk_cell 0
        have d1 := (HO.out.pick (L := [_, _, _, _]) [3]).blk_cell 1
        have d2 := (HO.out.pick (L := [_, _, _, _]) [3]).blk_cell 2
        have d3 := (HO.out.pick (L := [_, _, _, _]) [3]).blk_cell 3
        have d4 := (HO.out.pick (L := [_, _, _, _]) [3]).blk_cell 4
        have d5 := (HO.out.pick (L := [_, _, _, _]) [3]).blk_cell 5
        simp only [List.getElem?_toArray, List.getElem?_cons_zero, List.getElem?_cons_succ] at d0 d1 d2 d3 d4 d5
        go_upto_block 2 with (fail)
        clear d0
        have d0 := (HO.out.pick (L := [_, _, _, _]) [3]).blk_cell 0
        simp only [List.getElem?_toArray, List.getElem?_cons_zero, List.getElem?_cons_succ] at d0
        go_cut [7] (fun t7 wx => ∃ y : Lg, t7 = .int .i64 y.ap ∧ Own (fun _ => False) w wx [SP.log 85 g y, SP.ents 26 (.slice Ao DL co) DD, SP.blk qm 65 #[.int .i64 x.h, .int .i64 x.s, .int .i64 x.c, .int .i64 x.ap, .int .i64 x.ad], SP.blk qb 60 #[.int .i64 kd, .int .i64 on, .int .i64 ot, .int .i64 om, .slice Ae el ce, .slice Ab bl cb]] ∧ Hid (y.Ok ∧ Stays x y))
        case first =>
          by_cases hk0 : kd = 0
          · have hk0' : (kd == 0) = true := by simp [hk0]
            clear hk0
            as_aux_lemma =>
              have HC := Lib.hid (append_own (B := Ab) (cb := cb) (d := obb) hI.out HO.out (reads_arg HB.out.2.2.2) HB.out.1 HB.out.2.1 HB.out.2.2.1 ot om)
              have hst := append_stays hI.out ot om obb
              have hok := append_isOk hI.out ot om obb
              obtain ⟨y, hy⟩ : ∃ y, (x.append ot om obb).2 = y := ⟨_, rfl⟩
              rw [HL.out.2] at HC
              rw [hy] at HC hst hok
              have HY := Lib.hid (And.intro hok hst)
              clear hst hok hy HO
              go_wp2_with fail
              refine (HC.out).mono ?_
              rintro e w4 ⟨rfl, o4⟩
              have O := Lib.hid (o4.pick (L := [_, _, _, _]) [0, 1, 2, 3])
              clear o4 HC
              clear d0 d1 d2 d3 d4 d5
              have hyy := HY.out.2.2
              have HQQ := Lib.hid (And.intro HY.out.1 HY.out.2.1)
              go_wp2
              go_meet
              exact ⟨y, by rw [hyy], O.out, HQQ⟩
          · have hk0' : (kd == 0) = false := by rw [beq_eq_false_iff_ne]; exact hk0
            clear hk0
            by_cases hk1 : kd = 1
            · have hk1' : (kd == 1) = true := by simp [hk1]
              clear hk1
              as_aux_lemma =>
                have HM := Lib.hid (may_own (A := Ae) (c := ce) HO.out (EReads.of_rd HE.out.2.2.2.1) (by rw [HL.out.1]; omega) (fun m hm => (HE.out.2.2.2.2 m hm).1) on ot)
                obtain ⟨mb, hmb⟩ : ∃ mb, mayB on ot oe = mb := ⟨_, rfl⟩
                rw [hmb, HL.out.1] at HM
                have HMB := Lib.hid hmb
                clear hmb
                go_wp2_with fail
                refine (HM.out).mono ?_
                rintro e w3 ⟨rfl, o3⟩
                have HO3 := Lib.hid o3
                have e1 := (o3.pick (L := [_, _, _, _]) [3]).blk_cell 1
                have e2 := (o3.pick (L := [_, _, _, _]) [3]).blk_cell 2
                have e3 := (o3.pick (L := [_, _, _, _]) [3]).blk_cell 3
                have e4 := (o3.pick (L := [_, _, _, _]) [3]).blk_cell 4
                simp only [List.getElem?_toArray, List.getElem?_cons_zero, List.getElem?_cons_succ] at e1 e2 e3 e4
                clear o3 HM d0 d1 d2 d3 d4 d5 HO
                cases mb with
                | false =>
                  have HY := Lib.hid (And.intro hI.out (And.intro (Stays.refl hI.out) (rfl : x.ap = x.ap)))
                  obtain ⟨y, hy⟩ : ∃ y, x = y := ⟨_, rfl⟩
                  have O := HO3
                  clear HO3 e1 e2 e3 e4
                  rw [show SP.log 85 g x = SP.log 85 g y by rw [hy]] at O
                  rw [show (x.Ok ∧ Stays x x ∧ x.ap = x.ap) = (y.Ok ∧ Stays x y ∧ y.ap = x.ap) by rw [← hy]] at HY
                  clear hy
                  have hyy := HY.out.2.2
                  have HQQ := Lib.hid (And.intro HY.out.1 HY.out.2.1)
                  go_wp2
                  go_meet
                  exact ⟨y, by rw [hyy], O.out, HQQ⟩
                | true =>
                  have TR := Lib.hid (may_tried HMB.out)
                  have HC := Lib.hid (try_own (A := Ae) (cap := ce) hI.out HO3.out (EReads.of_rd HE.out.2.2.2.1) HE.out.1 HE.out.2.1 (by rw [HL.out.1]; omega) on ot om ⟨by have := TR.out.2.1; omega, by have := TR.out.2.2.1; rw [maxI_eq] at this; omega⟩ TR.out.1)
                  rw [HL.out.1] at HC
                  have hst := try_stays (t := ot) (c := om) hI.out TR.out.1
                  have hok := try_isOk (t := ot) (c := om) hI.out TR.out.1
                  obtain ⟨rr, hrr⟩ : ∃ r, x.try_ on ot om oe = r := ⟨_, rfl⟩
                  rw [hrr] at HC hst hok
                  obtain ⟨⟨r1, r2⟩, y⟩ := rr
                  have HY := Lib.hid (And.intro hok hst)
                  clear hst hok hrr HO3
                  go_wp2_with fail
                  refine (HC.out).mono ?_
                  rintro e w4 ⟨rfl, o4⟩
                  have O := Lib.hid (o4.pick (L := [_, _, _, _]) [0, 1, 2, 3])
                  clear o4 HC e1 e2 e3 e4
                  have hyy := HY.out.2.2
                  have HQQ := Lib.hid (And.intro HY.out.1 HY.out.2.1)
                  go_wp2
                  go_meet
                  exact ⟨y, by rw [hyy], O.out, HQQ⟩
            · have hk1' : (kd == 1) = false := by rw [beq_eq_false_iff_ne]; exact hk1
              clear hk1
              by_cases hk2 : kd = 2
              · have hk2' : (kd == 2) = true := by simp [hk2]
                clear hk2
                as_aux_lemma =>
                  have HC := Lib.hid (commit_own (by have := hI.out.len; omega) (fun j e h => (hI.out.idx j e h).1) HO.out on)
                  have hst := commit_stays hI.out on
                  have hok := commit_isOk hI.out on
                  obtain ⟨y, hy⟩ : ∃ y, (x.commit on).2 = y := ⟨_, rfl⟩
                  rw [hy] at HC hst hok
                  have HY := Lib.hid (And.intro hok hst)
                  clear hst hok hy HO
                  go_wp2_with fail
                  refine (HC.out).mono ?_
                  rintro e w4 ⟨rfl, o4⟩
                  have O := Lib.hid (o4.pick (L := [_, _, _, _]) [0, 1, 2, 3])
                  clear o4 HC
                  clear d0 d1 d2 d3 d4 d5
                  have hyy := HY.out.2.2
                  have HQQ := Lib.hid (And.intro HY.out.1 HY.out.2.1)
                  go_wp2
                  go_meet
                  exact ⟨y, by rw [hyy], O.out, HQQ⟩
              · have hk2' : (kd == 2) = false := by rw [beq_eq_false_iff_ne]; exact hk2
                clear hk2
                by_cases hk3 : kd = 3
                · have hk3' : (kd == 3) = true := by simp [hk3]
                  clear hk3
                  as_aux_lemma =>
                    have HC := Lib.hid (hand_own hI.out HO.out)
                    have hst := hand_stays hI.out
                    have hok := hand_isOk hI.out
                    obtain ⟨y, hy⟩ : ∃ y, (x.hand).2 = y := ⟨_, rfl⟩
                    obtain ⟨NX, hNX⟩ : ∃ NX, x.hand.1 = NX := ⟨_, rfl⟩
                    rw [hNX] at HC
                    clear hNX
                    rw [hy] at HC hst hok
                    have HY := Lib.hid (And.intro hok hst)
                    clear hst hok hy HO
                    go_wp2_with fail
                    refine (HC.out).mono ?_
                    rintro e w4 ⟨An, cn, rfl, o4⟩
                    have O := Lib.hid (o4.pick (L := [_, _, _, _, _]) [1, 2, 3, 4])
                    clear o4 HC
                    clear d0 d1 d2 d3 d4 d5
                    have hyy := HY.out.2.2
                    have HQQ := Lib.hid (And.intro HY.out.1 HY.out.2.1)
                    go_wp2
                    go_meet
                    exact ⟨y, by rw [hyy], O.out, HQQ⟩
                · have hk3' : (kd == 3) = false := by rw [beq_eq_false_iff_ne]; exact hk3
                  clear hk3
                  by_cases hk4 : kd = 4
                  · have hk4' : (kd == 4) = true := by simp [hk4]
                    clear hk4
                    as_aux_lemma =>
                      have HC := Lib.hid (stable_own hI.out HO.out on ot HI64.out.2.1)
                      have hst := stable_stays hI.out on ot
                      have hok := stable_isOk hI.out on ot
                      obtain ⟨y, hy⟩ : ∃ y, (x.stable on ot).2 = y := ⟨_, rfl⟩
                      rw [hy] at HC hst hok
                      have HY := Lib.hid (And.intro hok hst)
                      clear hst hok hy HO
                      go_wp2_with fail
                      refine (HC.out).mono ?_
                      rintro e w4 ⟨rfl, o4⟩
                      have O := Lib.hid (o4.pick (L := [_, _, _, _]) [0, 1, 2, 3])
                      clear o4 HC
                      clear d0 d1 d2 d3 d4 d5
                      have hyy := HY.out.2.2
                      have HQQ := Lib.hid (And.intro HY.out.1 HY.out.2.1)
                      go_wp2
                      go_meet
                      exact ⟨y, by rw [hyy], O.out, HQQ⟩
                  · have hk4' : (kd == 4) = false := by rw [beq_eq_false_iff_ne]; exact hk4
                    clear hk4
                    by_cases hk5 : kd = 5
                    · have hk5' : (kd == 5) = true := by simp [hk5]
                      clear hk5
                      as_aux_lemma =>
                        have HC := Lib.hid (next_own hI.out HO.out on HI64.out.2.1)
                        have hst := next_stays hI.out on
                        have hok := next_isOk hI.out on
                        obtain ⟨NX, hNX⟩ : ∃ NX, (x.next on).1 = NX := ⟨_, rfl⟩
                        obtain ⟨y, hy⟩ : ∃ y, (x.next on).2 = y := ⟨_, rfl⟩
                        rw [hNX, hy] at HC hst
                        rw [hy] at hok
                        have hyl := hok.last
                        have hya : y.ap ≤ y.lastI := by have := hok.a2; have := hok.a3; omega
                        have hx0 : 0 ≤ x.ap := by have := hI.out.i0; have := hI.out.a0; have := hI.out.a1; omega
                        have hnn : 0 ≤ (NX.length : Int) := by omega
                        have hxn : x.ap + (NX.length : Int) ≤ 4611686018427387904 := by have := hst.2.1; rw [maxI_eq] at hyl; omega
                        have HIX := Lib.hid hst.2.2
                        have HY := Lib.hid (And.intro hok (And.intro hst.1 hst.2.1))
                        clear hst hok hy hNX HO hyl hya
                        go_wp2_with fail
                        refine (HC.out).mono ?_
                        rintro e w4 ⟨An, cn, rfl, o4⟩
                        have O4 := Lib.hid o4
                        clear o4 HC
                        clear d0 d1 d2 d3 d4 d5
                        go_wp2
                        go_loopw [16] (fun tk wr => ∃ k : Nat, k ≤ NX.length ∧ tk = .int .i64 k ∧ Own (fun _ => False) w wr [SP.ents 26 (.slice An NX.length cn) NX, SP.log 85 g y, SP.ents 26 (.slice Ao DL co) DD, SP.blk qm 65 #[.int .i64 x.h, .int .i64 x.s, .int .i64 x.c, .int .i64 x.ap, .int .i64 x.ad], SP.blk qb 60 #[.int .i64 kd, .int .i64 on, .int .i64 ot, .int .i64 om, .slice Ae el ce, .slice Ab bl cb]]) (fun tk _ => NX.length - (intOf tk).toNat)
                        case atStart => exact ⟨0, Nat.zero_le _, rfl, O4.out⟩
                        case round =>
                          obtain ⟨k, hk, rfl, hown⟩ := hrel
                          clear O4
                          by_cases hkn : k < NX.length
                          · have i2 : (k : Int) < (NX.length : Int) := by omega
                            obtain ⟨m, hm⟩ : ∃ m, NX[k]? = some m := ⟨_, List.getElem?_eq_getElem hkn⟩
                            obtain ⟨bn, offn, Ad, cd, rfl, hbn, -, l1, -, -, -, -, -⟩ := (hown.erd) k m hm
                            rw [HIX.out k m hm] at l1
                            have HO5 := Lib.hid hown
                            clear hown hm
                            go_wp2
                            go_roundw
                            case rel => exact ⟨k + 1, by omega, by go_num, HO5.out⟩
                            case measure => simp [intOf]; omega
                          · have i2 : ¬ (k : Int) < (NX.length : Int) := by omega
                            have O := Lib.hid (hown.pick (L := [_, _, _, _, _]) [1, 2, 3, 4])
                            clear hown
                            have hyy := HY.out.2.2
                            have HQQ := Lib.hid (And.intro HY.out.1 HY.out.2.1)
                            go_wp2
                            go_meet
                            exact ⟨y, by rw [hyy], O.out, HQQ⟩
                    · have hk5' : (kd == 5) = false := by rw [beq_eq_false_iff_ne]; exact hk5
                      clear hk5
                      by_cases hk6 : kd = 6
                      · have hk6' : (kd == 6) = true := by simp [hk6]
                        clear hk6
                        as_aux_lemma =>
                          have HC := Lib.hid (applied_own HO.out on)
                          have hst := applied_stays hI.out on
                          have hok := applied_isOk hI.out on
                          obtain ⟨y, hy⟩ : ∃ y, (x.applied on).2 = y := ⟨_, rfl⟩
                          rw [hy] at HC hst hok
                          have HY := Lib.hid (And.intro hok hst)
                          clear hst hok hy HO
                          go_wp2_with fail
                          refine (HC.out).mono ?_
                          rintro e w4 ⟨rfl, o4⟩
                          have O := Lib.hid (o4.pick (L := [_, _, _, _]) [0, 1, 2, 3])
                          clear o4 HC
                          clear d0 d1 d2 d3 d4 d5
                          have hyy := HY.out.2.2
                          have HQQ := Lib.hid (And.intro HY.out.1 HY.out.2.1)
                          go_wp2
                          go_meet
                          exact ⟨y, by rw [hyy], O.out, HQQ⟩
                      · have hk6' : (kd == 6) = false := by rw [beq_eq_false_iff_ne]; exact hk6
                        clear hk6
                        by_cases hk7 : kd = 7
                        · have hk7' : (kd == 7) = true := by simp [hk7]
                          clear hk7
                          as_aux_lemma =>
                            have HC := Lib.hid (compact_own hI.out HO.out on HI64.out.2.1)
                            have hst := compact_stays hI.out on
                            have hok := compact_isOk hI.out on
                            obtain ⟨y, hy⟩ : ∃ y, (x.compact on).2 = y := ⟨_, rfl⟩
                            rw [hy] at HC hst hok
                            have HY := Lib.hid (And.intro hok hst)
                            clear hst hok hy HO
                            go_wp2_with fail
                            refine (HC.out).mono ?_
                            rintro e w4 ⟨rfl, o4⟩
                            have O := Lib.hid (o4.pick (L := [_, _, _, _]) [0, 1, 2, 3])
                            clear o4 HC
                            clear d0 d1 d2 d3 d4 d5
                            have hyy := HY.out.2.2
                            have HQQ := Lib.hid (And.intro HY.out.1 HY.out.2.1)
                            go_wp2
                            go_meet
                            exact ⟨y, by rw [hyy], O.out, HQQ⟩
                        · have hk7' : (kd == 7) = false := by rw [beq_eq_false_iff_ne]; exact hk7
                          clear hk7
                          by_cases hk8 : kd = 8
                          · have hk8' : (kd == 8) = true := by simp [hk8]
                            clear hk8
                            as_aux_lemma =>
                              have HC := Lib.hid (restore_own HO.out on ot)
                              have hst := restore_stays hI.out on ot
                              have hok := restore_isOk hI.out on ot
                              obtain ⟨r, hr⟩ : ∃ r, (x.restore on ot).1 = r := ⟨_, rfl⟩
                              obtain ⟨y, hy⟩ : ∃ y, (x.restore on ot).2 = y := ⟨_, rfl⟩
                              rw [hr, hy] at HC hst
                              rw [hy] at hok
                              have hr01 : r = 0 ∨ r = 1 := by rw [← hr]; unfold Lg.restore; split; exact .inr rfl; exact .inl rfl
                              have HN := Lib.hid (fun W => num_calls W r (by rcases hr01 with h | h <;> rw [h] <;> exact ⟨by decide, by decide⟩))
                              clear hy hr HO
                              go_wp2_with fail
                              refine (HC.out).mono ?_
                              rintro e w3 ⟨rfl, o3⟩
                              have O := Lib.hid o3
                              clear o3 HC
                              have d1 := (O.out.pick (L := [_, _, _, _]) [3]).blk_cell 1
                              simp only [List.getElem?_toArray, List.getElem?_cons_zero, List.getElem?_cons_succ] at d1
                              go_wp2_with fail
                              refine (HN.out _).mono ?_
                              rintro e w4 ⟨rfl, rfl⟩
                              clear HN d0 d2 d3 d4 d5
                              rcases hr01 with rfl | rfl
                              · rw [if_pos rfl] at hst
                                have HY := Lib.hid (And.intro hok hst)
                                clear hst hok
                                have hyy := HY.out.2.2
                                have HQQ := Lib.hid (And.intro HY.out.1 HY.out.2.1)
                                go_wp2
                                go_meet
                                exact ⟨y, by rw [hyy], O.out, HQQ⟩
                              · rw [if_neg (by decide)] at hst
                                have HY := Lib.hid (And.intro hok hst)
                                clear hst hok d1
                                have hyy := HY.out.2.2
                                have HQQ := Lib.hid (And.intro HY.out.1 HY.out.2.1)
                                go_wp2
                                go_meet
                                exact ⟨y, by rw [hyy], O.out, HQQ⟩
                          · have hk8' : (kd == 8) = false := by rw [beq_eq_false_iff_ne]; exact hk8
                            clear hk8
                            have HY := Lib.hid (And.intro hI.out (And.intro (Stays.refl hI.out) (rfl : x.ap = x.ap)))
                            obtain ⟨y, hy⟩ : ∃ y, x = y := ⟨_, rfl⟩
                            have O := HO
                            clear HO
                            rw [show SP.log 85 g x = SP.log 85 g y by rw [hy]] at O
                            rw [show (x.Ok ∧ Stays x x ∧ x.ap = x.ap) = (y.Ok ∧ Stays x y ∧ y.ap = x.ap) by rw [← hy]] at HY
                            clear hy d1 d2 d3 d4 d5
                            have hyy := HY.out.2.2
                            have HQQ := Lib.hid (And.intro HY.out.1 HY.out.2.1)
                            go_wp2
                            go_meet
                            exact ⟨y, by rw [hyy], O.out, HQQ⟩
        case rest =>
          obtain ⟨y, rfl, ho, hY⟩ := hcut
          have HY := Lib.hid (show y.Ok ∧ Stays x y ∧ y.ap = y.ap from ⟨hY.out.1, hY.out.2, rfl⟩)
          have O := Lib.hid ho
          clear ho hY HO d0 d1 d2 d3 d4 d5
          have hmk := marks_own O.out
          unfold marksV at hmk
          have HMk := Lib.hid hmk
          have j1 := HY.out.2.1.c
          have j2 := HY.out.2.1.ap
          have j3 := HY.out.2.1.ad
          have j4 : (y.ap != y.ap) = false := by simp
          clear hmk O
          go_wp2_with fail
          refine (HMk.out).mono ?_
          rintro e w7 ⟨rfl, o7⟩
          have o8 := o7.alloc #[.int .i64 y.h, .int .i64 y.s, .int .i64 y.c, .int .i64 y.ap, .int .i64 y.ad] 65
          obtain ⟨qn, hqn⟩ : ∃ q, w7.heap.size = q := ⟨_, rfl⟩
          rw [hqn] at o8
          obtain ⟨w8, hw8⟩ : ∃ W, w7.alloc (.cells #[.int .i64 y.h, .int .i64 y.s, .int .i64 y.c, .int .i64 y.ap, .int .i64 y.ad] 65) = W := ⟨_, rfl⟩
          have HW8 := Lib.hid (And.intro hw8 hqn)
          rw [hw8] at o8
          have O8 := Lib.hid (o8.pick (L := [_, _, _, _]) [1, 2, 3, 0])
          clear o7 o8 HMk hw8 hqn
          go_upto_region 45 with (fail)
          simp only [HW8.out.1, HW8.out.2]
          have n2 := (O8.out.pick (L := [_, _, _, _]) [3]).blk_cell 2
          have n3 := (O8.out.pick (L := [_, _, _, _]) [3]).blk_cell 3
          have n4 := (O8.out.pick (L := [_, _, _, _]) [3]).blk_cell 4
          have m2 := (O8.out.pick (L := [_, _, _, _]) [2]).blk_cell 2
          have m3 := (O8.out.pick (L := [_, _, _, _]) [2]).blk_cell 3
          have m4 := (O8.out.pick (L := [_, _, _, _]) [2]).blk_cell 4
          simp only [List.getElem?_toArray, List.getElem?_cons_zero, List.getElem?_cons_succ] at n2 n3 n4 m2 m3 m4
          have HOr := Lib.hid (ordered_own HY.out.1 O8.out)
          clear O8
          go_wp2_with fail
          refine (HOr.out).mono ?_
          rintro e w9 ⟨rfl, o9⟩
          have k3 := (o9.pick (L := [_, _, _, _]) [3]).blk_cell 3
          simp only [List.getElem?_toArray, List.getElem?_cons_zero, List.getElem?_cons_succ] at k3
          have hH := holds_own (x := y) (A := Ao) (c := co) (old := DD) HY.out.1 HDD.out.1 (by have := HY.out.2.1.holds; rw [HDD.out.2.2.1] at this; exact this) (fun m hm => (HDD.out.2.2.2 m hm).2) (fun m hm => (HDD.out.2.2.2 m hm).1) (by rw [HDD.out.2.1]; exact o9)
          rw [HDD.out.2.1] at hH
          have HH := Lib.hid hH
          clear o9 hH HOr n2 n3 n4 m2 m3 m4
          go_wp2_with fail
          refine (HH.out).mono ?_
          rintro e w10 ⟨rfl, o10⟩
          have O10 := Lib.hid (o10.pick (L := [_, _, _, _, _]) [0])
          clear o10 HH k3
          go_wp2
          go_roundw
          case rel => exact ⟨i + 1, y, by omega, rfl, by go_num, HY.out.1, O10.out⟩
          case measure => simp [intOf]; omega
      · have i1 : ¬ (i : Int) < (l.length : Int) := by omega
        have HO := Lib.hid hown
        clear hown
        go_wp2
        go_ret
        exact ⟨rfl, HO.out.below⟩
end Go.Proofs.Ytepnkhiclgjmpaa
