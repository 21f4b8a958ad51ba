/-
  LogHands as a call: it returns true, and what was there stays.
  Conditions: the operations lie in memory as they were handed in.
-/
import Derived.Test.YtepnkhiclgjmpaaHandsPure
import Derived.Test.YtepnkhiclgjmpaaRegionTwo
import Derived.Test.YtepnkhiclgjmpaaStepOwn
namespace Go.Proofs.Ytepnkhiclgjmpaa
set_option linter.unusedVariables false
set_option linter.unusedSimpArgs false
open Go.RowKit

theorem rd_blk {S : Nat → Prop} {w0 w : World} {R : List SP} {q : Nat} {t : TypeId} {cs : Array Value} (h : Own S w0 w (SP.blk q t cs :: R)) : Rd w (some ⟨q, 0, none⟩) cs.toList := fun j u hu =>
  ⟨q, 0, rfl, by rw [Nat.zero_add]; exact (h.blk_cell j).trans (by simpa using hu)⟩
set_option maxRecDepth 100000 in
set_option maxHeartbeats 16000000 in
theorem hands_calls (w : World) (A : Option Addr) (c : Nat) (l : List Op8) (hops : Ops8 w A l) (hl : l.length ≤ 140737488351232) :
    Calls Try.prog 8 #[.slice A l.length c] w fun e w' => e = .returned (.bool true) ∧ Below w.heap.size w w' := by
  have HF := Lib.hid (first_own (Own.start w))
  have HOP := Lib.hid hops
  clear hops
  go_enter Try.func8, Try.ntmps8
  go_wp2_with fail
  refine (HF.out).mono ?_
  rintro e w1 ⟨rfl, o1⟩
  have hop1 : Ops8 w1 A l := fun i o ho => by
    obtain ⟨b, off, Ae, ce, Ab, cb, h1, hb, k0, k1, k2, k3, k4, k5, hE, hB, hr⟩ := HOP.out i o ho
    have hbl := o1.below
    exact ⟨b, off, Ae, ce, Ab, cb, h1, by have := hbl.size; omega, (hbl.cell hb).trans k0, (hbl.cell hb).trans k1, (hbl.cell hb).trans k2, (hbl.cell hb).trans k3, (hbl.cell hb).trans k4, (hbl.cell hb).trans k5, hE.below hbl, ⟨hB.1, hB.2.1, hB.2.2.1, hB.2.2.2.below hbl⟩, hr⟩
  have HFew := Lib.hid (few_calls w1 A c l hop1 hl)
  have O1 := Lib.hid o1
  clear o1 HF hop1
  go_wp2_with fail
  refine (HFew.out).mono ?_
  rintro e w2 ⟨sm, rfl, rfl, hsm⟩
  have HSM := Lib.hid hsm
  have hN := new_own (A := none) (c := 0) (es := []) (by decide) (by simp) O1.out EReads.nil 0 0 0
  rw [bLog_new] at hN
  have HN := Lib.hid hN
  clear hN HFew hsm
  cases sm with
  | false =>
    go_wp2
    go_ret
    exact ⟨rfl, O1.out.below⟩
  | true =>
    have h300 := (HSM.out rfl).1
    have H64 := Lib.hid (HSM.out rfl).2
    clear HSM
    go_wp2_with fail
    refine (HN.out).mono ?_
    rintro e w3 ⟨g, rfl, o3⟩
    have O3 := Lib.hid ((o3.ents_nil 26).swap)
    clear o3 HN O1
    go_wp2
    go_loopw [7, 8] (fun tt ti wr => ∃ (i : Nat) (told : List E) (x : Lg) (At : Option Addr) (cT : Nat), i ≤ l.length ∧ tt = .slice At told.length cT ∧ ti = .int .i64 i ∧ Hid (HandsInv x told) ∧ Own (fun _ => False) w wr [SP.log 85 g x, SP.ents 26 (.slice At told.length cT) told]) (fun _ ti _ => l.length - (intOf ti).toNat)
    case atStart => exact ⟨0, [], bLog [], none, 0, Nat.zero_le _, rfl, rfl, HandsInv.start, O3.out⟩
    case round =>
      obtain ⟨i, told, x, At, cT, hi, rfl, rfl, hI, hown⟩ := hrel
      clear O3
      by_cases hin : i < l.length
      · obtain ⟨o, hoi⟩ : ∃ o, l[i]? = some o := ⟨_, List.getElem?_eq_getElem hin⟩
        obtain ⟨b, off, Ae, ce, Ab, cb, rfl, hb, k0, k1, k2, k3, k4, k5, hE, hB, -⟩ := HOP.out i o hoi
        have h64 := H64.out o (List.mem_of_getElem? hoi)
        obtain ⟨kd, on, ot, om, oe, obb⟩ := o
        simp only at k0 k1 k2 k3 k4 k5 hE hB h64
        have hbw : Below w.heap.size w wr := hown.below
        have c0 := (hbw.cell hb).trans k0
        have c1 := (hbw.cell hb).trans k1
        have c2 := (hbw.cell hb).trans k2
        have c3 := (hbw.cell hb).trans k3
        have c4 := (hbw.cell hb).trans k4
        have c5 := (hbw.cell hb).trans k5
        have i1 : (i : Int) < (l.length : Int) := by omega
        have HE := Lib.hid hE
        have HB := Lib.hid hB
        obtain ⟨el, hel⟩ : ∃ el, oe.length = el := ⟨_, rfl⟩
        obtain ⟨bl, hbl⟩ : ∃ bl, obb.length = bl := ⟨_, rfl⟩
        have HL := Lib.hid (And.intro hel hbl)
        rw [hel] at c4 h64
        rw [hbl] at c5
        have HN := Lib.hid (hown.alloc #[.int .i64 kd, .int .i64 on, .int .i64 ot, .int .i64 om, .slice Ae el ce, .slice Ab bl cb] 60)
        clear hel hbl k0 k1 k2 k3 k4 k5 hoi hE hB hown hbw
        go_upto_region 13 with (fail)
        obtain ⟨wo, hwo⟩ : ∃ wo, wr.alloc (.cells #[.int .i64 kd, .int .i64 on, .int .i64 ot, .int .i64 om, .slice Ae el ce, .slice Ab bl cb] 60) = wo := ⟨_, rfl⟩
        obtain ⟨qb, hqb⟩ : ∃ qb, wr.heap.size = qb := ⟨_, rfl⟩
        rw [hwo, hqb] at HN
        simp only [hwo, hqb]
        clear hwo hqb c0 c1 c2 c3 c4 c5
        have d0 := HN.out.blk_cell 0
        have d1 := HN.out.blk_cell 1
        have d2 := HN.out.blk_cell 2
        have d3 := HN.out.blk_cell 3
        have d4 := HN.out.blk_cell 4
        have d5 := HN.out.blk_cell 5
        simp only [List.getElem?_toArray, List.getElem?_cons_zero, List.getElem?_cons_succ] at d0 d1 d2 d3 d4 d5
        have HO := Lib.hid (HN.out.pick (L := [_, _, _]) [1, 2, 0])
        clear HN
        by_cases hk0 : kd = 0
        · have hk' : (kd == 0) = true := by simp [hk0]
          clear hk0
          have HAp := Lib.hid (append_own (B := Ab) (cb := cb) (d := obb) hI.out.ok HO.out (reads_arg HB.out.2.2.2) HB.out.1 HB.out.2.1 HB.out.2.2.1 ot om)
          rw [HL.out.2] at HAp
          have HI2 := Lib.hid (hI.out.append ot om obb)
          clear HO hI
          go_wp2_with fail
          refine (HAp.out).mono ?_
          rintro e w4 ⟨rfl, o4⟩
          have O4 := Lib.hid (o4.pick (L := [_, _, _]) [0, 1])
          clear o4 HAp d0 d1 d2 d3 d4 d5
          go_wp2
          go_roundw
          case rel => exact ⟨i + 1, told, _, At, cT, by omega, rfl, by go_num, HI2.out, O4.out⟩
          case measure => simp [intOf]; omega
        · have hk' : (kd == 0) = false := by rw [beq_eq_false_iff_ne]; exact hk0
          clear hk0
          by_cases hk1 : kd = 1
          · have hk1' : (kd == 1) = true := by simp [hk1]
            clear hk1
            have HM := Lib.hid (may_own (A := Ae) (c := ce) HO.out (EReads.of_rd HE.out.2.2.2.1) (by rw [HL.out.1]; omega) (fun m hm => (HE.out.2.2.2.2 m hm).1) on ot)
            obtain ⟨mb, hmb⟩ : ∃ mb, mayB on ot oe = mb := ⟨_, rfl⟩
            rw [hmb, HL.out.1] at HM
            have HMB := Lib.hid hmb
            clear hmb
            go_wp2_with fail
            refine (HM.out).mono ?_
            rintro e w4 ⟨rfl, o4⟩
            have O4 := Lib.hid o4
            have e1 := (o4.pick (L := [_, _, _]) [2]).blk_cell 1
            have e2 := (o4.pick (L := [_, _, _]) [2]).blk_cell 2
            have e3 := (o4.pick (L := [_, _, _]) [2]).blk_cell 3
            have e4 := (o4.pick (L := [_, _, _]) [2]).blk_cell 4
            simp only [List.getElem?_toArray, List.getElem?_cons_zero, List.getElem?_cons_succ] at e1 e2 e3 e4
            clear o4 HM d0 d1 d2 d3 d4 d5 HO
            cases mb with
            | false =>
              have O5 := Lib.hid (O4.out.pick (L := [_, _, _]) [0, 1])
              clear O4
              go_wp2
              go_roundw
              case rel => exact ⟨i + 1, told, x, At, cT, by omega, rfl, by go_num, hI.out, O5.out⟩
              case measure => simp [intOf]; omega
            | true =>
              have TR := Lib.hid (may_tried HMB.out)
              have HT := Lib.hid (try_own (A := Ae) (cap := ce) hI.out.ok O4.out (EReads.of_rd HE.out.2.2.2.1) HE.out.1 HE.out.2.1 (by rw [HL.out.1]; omega) on ot om ⟨by have := TR.out.2.1; omega, by have := TR.out.2.2.1; rw [maxI_eq] at this; omega⟩ TR.out.1)
              rw [HL.out.1] at HT
              have HI2 := Lib.hid (hI.out.try (t := ot) (c := om) TR.out.1)
              clear HMB O4 hI
              go_wp2_with fail
              refine (HT.out).mono ?_
              rintro e w5 ⟨rfl, o5⟩
              have O5 := Lib.hid (o5.pick (L := [_, _, _]) [0, 1])
              clear o5 HT e1 e2 e3 e4
              go_wp2
              go_roundw
              case rel => exact ⟨i + 1, told, _, At, cT, by omega, rfl, by go_num, HI2.out, O5.out⟩
              case measure => simp [intOf]; omega
          · have hk1' : (kd == 1) = false := by rw [beq_eq_false_iff_ne]; exact hk1
            clear hk1
            by_cases hk3 : kd = 3
            · have hk3' : (kd == 3) = true := by simp [hk3]
              clear hk3
              have HH := Lib.hid (hand_own hI.out.ok HO.out)
              have HAT0 := Lib.hid (HandAt.start hI.out)
              obtain ⟨hh, hhh⟩ : ∃ hh : Nat, x.h = (hh : Int) := ⟨x.h.toNat, by have := hI.out.h0; omega⟩
              have HHH := Lib.hid hhh
              obtain ⟨NX, hNX⟩ : ∃ NX, x.hand.1 = NX := ⟨_, rfl⟩
              rw [hNX] at HH
              have HNX := Lib.hid hNX
              have HI2 := Lib.hid hI.out.hand
              obtain ⟨x', hx'⟩ : ∃ x', x.hand.2 = x' := ⟨_, rfl⟩
              rw [hx'] at HH HI2
              have HXP := Lib.hid (show x'.L = x.L from hx' ▸ rfl)
              clear HO hhh hNX hx'
              go_wp2_with fail
              refine (HH.out).mono ?_
              rintro e w4 ⟨An, cn, rfl, o4⟩
              obtain ⟨An', cn', ds, ez, hds, -, -, o5⟩ := o4.ents_open
              cases ez
              have O5 := Lib.hid (o5.pick (L := [_, _, _, _, _]) [3, 0, 1, 2])
              have HDS := Lib.hid hds
              clear o4 o5 hds HH d0 d1 d2 d3 d4 d5
              go_wp2
              go_loopw [7, 11] (fun tt tk wr => ∃ (k : Nat) (tl : List E) (Ak : Option Addr) (ck : Nat), k ≤ NX.length ∧ tt = .slice Ak tl.length ck ∧ tk = .int .i64 k ∧ Hid (HandAt x told tl k) ∧ Own (fun _ => False) w wr [SP.ents 26 (.slice Ak tl.length ck) tl, SP.row 26 4 (.slice An NX.length cn) (mrow NX ds), SP.stars (mdata (NX.drop k) (ds.drop k)), SP.log 85 g x']) (fun _ tk _ => NX.length - (intOf tk).toNat)
              case atStart => exact ⟨0, told, At, cT, Nat.zero_le _, rfl, rfl, HAT0.out, by simpa using O5.out⟩
              case round =>
                obtain ⟨k, tl, Ak, ck, hk, rfl, rfl, hAT, hown⟩ := hrel
                clear O5 HAT0
                by_cases hkn : k < NX.length
                · have i2 : (k : Int) < (NX.length : Int) := by omega
                  obtain ⟨m, hm⟩ : ∃ m, NX[k]? = some m := ⟨_, List.getElem?_eq_getElem hkn⟩
                  obtain ⟨d, hd⟩ : ∃ d, ds[k]? = some d := ⟨_, List.getElem?_eq_getElem (by rw [HDS.out]; exact hkn)⟩
                  have hmi := hand_index hI.out (by rw [HNX.out]; exact hm)
                  have hle := hAT.out.le
                  have hHH := HHH.out
                  obtain ⟨am, ham⟩ : ∃ am, hh + k = am := ⟨_, rfl⟩
                  have hmi2 : m.index = (am : Int) + 1 := by omega
                  have hat : am ≤ tl.length := by rw [hHH] at hle; omega
                  obtain ⟨bn, offn, z, l0, -⟩ := (hown.pick (L := [_, _, _, _]) [1]).cell (mrow_get (j := 0) hm hd (by omega))
                  cases z
                  obtain ⟨_, _, z, l1, -⟩ := (hown.pick (L := [_, _, _, _]) [1]).cell (mrow_get (j := 1) hm hd (by omega))
                  cases z
                  obtain ⟨_, _, z, l2, -⟩ := (hown.pick (L := [_, _, _, _]) [1]).cell (mrow_get (j := 2) hm hd (by omega))
                  cases z
                  obtain ⟨_, _, z, l3, -⟩ := (hown.pick (L := [_, _, _, _]) [1]).cell (mrow_get (j := 3) hm hd (by omega))
                  cases z
                  simp only [mcells, List.getElem?_cons_zero, List.getElem?_cons_succ, ← Nat.add_assoc, Nat.add_zero] at l0 l1 l2 l3
                  have hdrop : mdata (NX.drop k) (ds.drop k) = SP.row 5 1 d (bts m.dat) :: mdata (NX.drop (k + 1)) (ds.drop (k + 1)) := by
                    have h1 := List.getElem?_eq_some_iff.1 hm
                    have h2 := List.getElem?_eq_some_iff.1 hd
                    rw [List.drop_eq_getElem_cons h1.1, h1.2, List.drop_eq_getElem_cons h2.1, h2.2]; rfl
                  rw [hdrop] at hown
                  obtain ⟨At2, ct2, ds2, z, hds2, hc1, hc2, -⟩ := hown.ents_open
                  cases z
                  have OO := Lib.hid hown
                  have i3 : ¬ (am : Int) < 0 := by omega
                  have i4 : ¬ (tl.length : Int) < (am : Int) := by omega
                  rw [hmi2] at l1
                  have i5 : am ≤ ck := by omega
                  have i7 : NX.length ≤ 10000 := by
                    have h1 := hand_cut hI.out
                    rw [HNX.out] at h1
                    have h2 := congrArg List.length h1
                    rw [List.length_drop] at h2
                    have := hI.out.ok.len
                    omega
                  have i6 : am ≤ 10000 := by
                    have h1 := hand_cut hI.out
                    rw [HNX.out] at h1
                    have h2 := congrArg List.length h1
                    rw [List.length_drop] at h2
                    have := hI.out.ok.len
                    omega
                  have hdone := Lib.hid (show d.oneCell' = true by
                    obtain ⟨A', c', rfl, -⟩ := SP.row_shape1 (Own.uncons (hown.pick (L := [_, _, _]) [2])).head
                    rfl)
                  have hdat := Lib.hid (show ∀ p, p ∈ tl.take am → p.dat.length ≤ 140737488351232 from fun p hp => by
                    have hlen := hAT.out.eq
                    rw [hHH, show (hh : Int).toNat + k = am by omega] at hlen
                    rw [hlen] at hp
                    have hin : p ∈ x.L := by
                      rcases List.mem_append.1 hp with h | h
                      · have := hI.out.eq
                        rw [hHH] at this
                        rw [this] at h
                        exact List.mem_of_mem_take h
                      · have h2 := List.mem_of_mem_take h
                        rw [hand_cut hI.out] at h2
                        exact List.mem_of_mem_drop h2
                    have := hI.out.ok.dat p hin
                    omega)
                  have HMD := Lib.hid (And.intro hm (And.intro hd (And.intro hmi2 (And.intro hmi ham))))
                  clear hm hd hmi hmi2 hle hHH ham hown hdrop
                  go_upto_region 27 with (fail)
                  have O0 := Lib.hid OO.out.drew
                  have HSF := Lib.hid (show ∀ (W : World) (R' : List SP), Own (fun _ => False) w W (SP.row 26 4 (.slice (some ⟨bn, offn, none⟩) NX.length cn) (mrow NX ds) :: R') → W.cell? ⟨bn, offn + k * 4, none⟩ = some (.int .i64 m.term) ∧ W.cell? ⟨bn, offn + k * 4 + 1, none⟩ = some (.int .i64 ((am : Int) + 1)) ∧ W.cell? ⟨bn, offn + k * 4 + 2, none⟩ = some (.int .i64 m.kind) ∧ W.cell? ⟨bn, offn + k * 4 + 3, none⟩ = some d from fun W R' h => by
                    obtain ⟨_, _, z, l0, -⟩ := h.cell (mrow_get (j := 0) HMD.out.1 HMD.out.2.1 (by omega))
                    cases z
                    obtain ⟨_, _, z, l1, -⟩ := h.cell (mrow_get (j := 1) HMD.out.1 HMD.out.2.1 (by omega))
                    cases z
                    obtain ⟨_, _, z, l2, -⟩ := h.cell (mrow_get (j := 2) HMD.out.1 HMD.out.2.1 (by omega))
                    cases z
                    obtain ⟨_, _, z, l3, -⟩ := h.cell (mrow_get (j := 3) HMD.out.1 HMD.out.2.1 (by omega))
                    cases z
                    simp only [mcells, List.getElem?_cons_zero, List.getElem?_cons_succ, ← Nat.add_assoc, Nat.add_zero] at l0 l1 l2 l3
                    rw [HMD.out.2.2.1] at l1
                    exact ⟨l0, l1, l2, l3⟩)
                  have HTL := Lib.hid (show (tl.take am).length = am by rw [List.length_take]; omega)
                  have HC := Lib.hid (fun (W : World) (R' : List SP) (o : Own (fun _ => False) w W (SP.ents 26 (.slice Ak tl.length ck) tl :: R')) => copies_own (A := Ak) (c := ck) (es := tl.take am) (by rw [HTL.out]; omega) (hdat.out) o (EReads.of_ents.take am))
                  rw [HTL.out] at HC
                  have hone := Lib.hid (show ∀ u ∈ [Value.int .i64 m.term, .int .i64 ((am : Int) + 1), .int .i64 m.kind, d], u.oneCell' = true from fun u hu => by
                    simp only [List.mem_cons, List.not_mem_nil, or_false] at hu
                    rcases hu with rfl | rfl | rfl | rfl
                    · rfl
                    · rfl
                    · rfl
                    · exact hdone.out)
                  clear l0 l1 l2 l3 OO
                  refine wp_region_need (fun W => W.cell? ⟨bn, offn + k * 4, none⟩ = some (.int .i64 m.term) ∧ W.cell? ⟨bn, offn + k * 4 + 1, none⟩ = some (.int .i64 ((am : Int) + 1)) ∧ W.cell? ⟨bn, offn + k * 4 + 2, none⟩ = some (.int .i64 m.kind) ∧ W.cell? ⟨bn, offn + k * 4 + 3, none⟩ = some d) (fun j => decide (j < 9)) (by kernel_rfl) ?_
                  obtain ⟨W0, hW0⟩ : ∃ W0, wr.drew = W0 := ⟨_, rfl⟩
                  rw [hW0] at O0 ⊢
                  clear hW0
                  have HS := Lib.hid (HSF.out _ _ (O0.out.pick (L := [_, _]) [1]))
                  refine wpAnyN_take (i := 0) (v := ?v0) (by simp only [List.getElem?_toArray, List.getElem?_cons_succ, List.getElem?_cons_zero]; rfl) (by kernel_rfl) (by intro _ _ _ h; exact h) (Or.inl ⟨by rfl, ?y0⟩) HS.out ?r0
                  case y0 =>
                    intro W hSW
                    try dsimp only at hSW
                    obtain ⟨s0, s1, s2, s3⟩ := hSW
                    go_simp
                    try with_reducible rfl
                  simp only [Act.put, List.setIfInBounds_toArray, List.set_cons_zero, List.set_cons_succ]
                  refine wpAnyN_take (i := 1) (v := ?v1) (by simp only [List.getElem?_toArray, List.getElem?_cons_succ, List.getElem?_cons_zero]; rfl) (by kernel_rfl) (by intro _ _ _ h; exact h) (Or.inl ⟨by rfl, ?y1⟩) HS.out ?r1
                  case y1 =>
                    intro W hSW
                    try dsimp only at hSW
                    obtain ⟨s0, s1, s2, s3⟩ := hSW
                    go_simp
                    try with_reducible rfl
                  simp only [Act.put, List.setIfInBounds_toArray, List.set_cons_zero, List.set_cons_succ]
                  refine wpAnyN_take (i := 2) (v := ?v2) (by simp only [List.getElem?_toArray, List.getElem?_cons_succ, List.getElem?_cons_zero]; rfl) (by kernel_rfl) (by intro _ _ _ h; exact h) (Or.inl ⟨by rfl, ?y2⟩) HS.out ?r2
                  case y2 =>
                    intro W hSW
                    try dsimp only at hSW
                    obtain ⟨s0, s1, s2, s3⟩ := hSW
                    go_simp
                    try with_reducible rfl
                  simp only [Act.put, List.setIfInBounds_toArray, List.set_cons_zero, List.set_cons_succ]
                  refine wpAnyN_take (i := 4) (v := ?v4) (by simp only [List.getElem?_toArray, List.getElem?_cons_succ, List.getElem?_cons_zero]; rfl) (by kernel_rfl) (by intro _ _ _ h; exact h) (Or.inl ⟨by rfl, ?y4⟩) HS.out ?r4
                  case y4 =>
                    intro W hSW
                    try dsimp only at hSW
                    obtain ⟨s0, s1, s2, s3⟩ := hSW
                    go_simp
                    try with_reducible rfl
                  simp only [Act.put, List.setIfInBounds_toArray, List.set_cons_zero, List.set_cons_succ]
                  refine wpAnyN_take (i := 5) (v := ?v5) (by simp only [List.getElem?_toArray, List.getElem?_cons_succ, List.getElem?_cons_zero]; rfl) (by kernel_rfl) (by intro _ _ _ h; exact h) (Or.inl ⟨by rfl, ?y5⟩) HS.out ?r5
                  case y5 =>
                    intro W hSW
                    try dsimp only at hSW
                    obtain ⟨s0, s1, s2, s3⟩ := hSW
                    go_simp
                    try with_reducible rfl
                  simp only [Act.put, List.setIfInBounds_toArray, List.set_cons_zero, List.set_cons_succ]
                  refine wpAnyN_take (i := 6) (v := ?v6) (by simp only [List.getElem?_toArray, List.getElem?_cons_succ, List.getElem?_cons_zero]; rfl) (by kernel_rfl) (by intro _ _ _ h; exact h) (Or.inl ⟨by rfl, ?y6⟩) HS.out ?r6
                  case y6 =>
                    intro W hSW
                    try dsimp only at hSW
                    obtain ⟨s0, s1, s2, s3⟩ := hSW
                    go_simp
                    try with_reducible rfl
                  simp only [Act.put, List.setIfInBounds_toArray, List.set_cons_zero, List.set_cons_succ]
                  refine wpAnyN_take (i := 7) (v := ?v7) (by simp only [List.getElem?_toArray, List.getElem?_cons_succ, List.getElem?_cons_zero]; rfl) (by kernel_rfl) (by intro _ _ _ h; exact h) (Or.inl ⟨by rfl, ?y7⟩) HS.out ?r7
                  case y7 =>
                    intro W hSW
                    try dsimp only at hSW
                    obtain ⟨s0, s1, s2, s3⟩ := hSW
                    go_simp
                    try with_reducible rfl
                  simp only [Act.put, List.setIfInBounds_toArray, List.set_cons_zero, List.set_cons_succ]
                  refine wpAnyN_two (i := 3) (j := 8) (by kernel_rfl) (by simp only [List.getElem?_toArray, List.getElem?_cons_succ, List.getElem?_cons_zero]; rfl) (by simp only [List.getElem?_toArray, List.getElem?_cons_succ, List.getElem?_cons_zero]; rfl) (fun K hK => ?a3) (fun K hK => ?a8)
                  case a3 =>
                    refine step_call rfl 34 _ _ rfl Try.func34 (by kernel_rfl) (by kernel_rfl) #[.slice Ak am ck] (by simp [Act.eval]) ?_
                    refine (HC.out _ _ O0.out).mono ?_
                    rintro e E1w ⟨A5, c5, rfl, E1o⟩
                    have E1 := Lib.hid E1o
                    refine ⟨_, rfl, ?_⟩
                    refine hK _ _ ⟨fun _ => HSF.out _ _ (E1o.pick (L := [_, _, _]) [2]), ?_⟩
                    clear hK K E1o O0
                    try simp only [Act.put, List.setIfInBounds_toArray, List.set_cons_zero, List.set_cons_succ]
                    refine wpAnyN_one (i := 8) (by kernel_rfl) (by simp only [List.getElem?_toArray, List.getElem?_cons_succ, List.getElem?_cons_zero]; rfl) (fun K hK => ?_)
                    go_simp
                    have E2 := Lib.hid (E1.out.alloc #[.int .i64 m.term, .int .i64 ((am : Int) + 1), .int .i64 m.kind, d] 26)
                    refine hK _ _ ⟨fun _ => HSF.out _ _ (E2.out.pick (L := [_, _, _, _]) [3]), ?_⟩
                    clear hK K E1
                    try simp only [Act.put, List.setIfInBounds_toArray, List.set_cons_zero, List.set_cons_succ]
                    obtain ⟨E2w, hW⟩ : ∃ x, E1w.alloc (.cells #[.int .i64 m.term, .int .i64 ((am : Int) + 1), .int .i64 m.kind, d] 26) = x := ⟨_, rfl⟩
                    obtain ⟨qe, hqe⟩ : ∃ x, E1w.heap.size = x := ⟨_, rfl⟩
                    rw [hW, hqe] at E2
                    simp only [hW, hqe]
                    clear hW hqe
                    have E3 := Lib.hid (E2.out.swap)
                    obtain ⟨A6, c6, dt, z, hdt, -, -, o6⟩ := (E3.out).ents_open
                    rw [HTL.out] at z o6
                    cases z
                    have O6 := Lib.hid o6
                    have HDT := Lib.hid hdt
                    have hrl := Lib.hid (mrow_length hdt)
                    clear o6 hdt E3
                    refine wpAnyN_one (i := 9) (by kernel_rfl) (by simp only [List.getElem?_toArray, List.getElem?_cons_succ, List.getElem?_cons_zero]; rfl) (fun K hK => ?_)
                    refine step_append_move rfl (.tmp 102) (.tmp 107) 23 rfl 26 entZero 4 48 Try.underlying23 Try.info26 entZero_size (by decide) (by simp [Act.eval]) (by rw [hrl.out, HTL.out]) O6.out (Below.refl _ _) (some ⟨qe, 0, none⟩) 1 1 [.int .i64 m.term, .int .i64 ((am : Int) + 1), .int .i64 m.kind, d] (by simp [Act.eval]) rfl (rd_blk (O6.out.pick (L := [_, _, _]) [2])) ?oc (by unfold maxLen; omega) (by omega) ?_
                    case oc => exact hone.out
                    rintro A7 c7 w7 o7
                    have O7 := Lib.hid o7
                    refine hK _ _ ⟨fun _ => HSF.out _ _ (o7.pick (L := [_, _, _, _, _]) [4]), ?_⟩
                    clear hK K o7 O6 HS
                    try simp only [Act.put, List.setIfInBounds_toArray, List.set_cons_zero, List.set_cons_succ]
                    refine wpAnyN_one (i := 10) (by kernel_rfl) (by simp only [List.getElem?_toArray, List.getElem?_cons_succ, List.getElem?_cons_zero]; rfl) (fun K hK => ?_)
                    go_simp
                    refine hK _ _ ⟨fun h => (by cases h), ?_⟩
                    clear hK K
                    try simp only [Act.put, List.setIfInBounds_toArray, List.set_cons_zero, List.set_cons_succ]
                    refine wpAnyN_done (by kernel_rfl) ?_ _
                    go_wp2
                    go_roundw
                    case rel =>
                      have hent : m.index = (am : Int) + 1 := HMD.out.2.2.1
                      have hst : HandAt x told (tl.take am ++ [m]) (k + 1) := by
                        have := hAT.out.step (by rw [HNX.out]; exact HMD.out.1)
                        rw [HHH.out] at this
                        rw [show am = (hh : Int).toNat + k by have := HMD.out.2.2.2.2; omega]
                        exact this
                      have hlen2 : (tl.take am ++ [m]).length = am + 1 := by rw [List.length_append, HTL.out]; rfl
                      refine ⟨k + 1, tl.take am ++ [m], A7, c7, by omega, by rw [hlen2], by go_num, hst, ?_⟩
                      rw [hlen2]
                      have hd2 : (dt ++ [d]).length = (tl.take am ++ [m]).length := by rw [List.length_append, List.length_append, HDT.out]; rfl
                      have hM : mrow (tl.take am ++ [m]) (dt ++ [d]) = mrow (tl.take am) dt ++ [.int .i64 m.term, .int .i64 ((am : Int) + 1), .int .i64 m.kind, d] := by rw [mrow_append HDT.out, ← hent]; rfl
                      have hD : mdata (tl.take am ++ [m]) (dt ++ [d]) = mdata (tl.take am) dt ++ [SP.row 5 1 d (bts m.dat)] := by rw [mdata_append HDT.out]; rfl
                      have o8 := Own.uncons (O7.out.pick (L := [_, _, _, _, _, _, _]) [5, 4, 6, 0, 1])
                      refine Own.ents_shut hd2 ?_
                      rw [hM, hD]
                      exact ((o8.pick (L := [_, _, _, _, _, _]) [5, 0, 4, 2, 1, 3]).snoc).swap
                    case measure => simp [intOf]; omega
                  case a8 =>
                    go_simp
                    have E1 := Lib.hid (O0.out.alloc #[.int .i64 m.term, .int .i64 ((am : Int) + 1), .int .i64 m.kind, d] 26)
                    refine hK _ _ ⟨fun _ => HSF.out _ _ (E1.out.pick (L := [_, _, _]) [2]), ?_⟩
                    clear hK K O0
                    try simp only [Act.put, List.setIfInBounds_toArray, List.set_cons_zero, List.set_cons_succ]
                    obtain ⟨E1w, hW⟩ : ∃ x, W0.alloc (.cells #[.int .i64 m.term, .int .i64 ((am : Int) + 1), .int .i64 m.kind, d] 26) = x := ⟨_, rfl⟩
                    obtain ⟨qe, hqe⟩ : ∃ x, W0.heap.size = x := ⟨_, rfl⟩
                    rw [hW, hqe] at E1
                    simp only [hW, hqe]
                    clear hW hqe
                    have E2 := Lib.hid (E1.out.pick (L := [_, _]) [1, 0])
                    refine wpAnyN_one (i := 3) (by kernel_rfl) (by simp only [List.getElem?_toArray, List.getElem?_cons_succ, List.getElem?_cons_zero]; rfl) (fun K hK => ?_)
                    refine step_call rfl 34 _ _ rfl Try.func34 (by kernel_rfl) (by kernel_rfl) #[.slice Ak am ck] (by simp [Act.eval]) ?_
                    refine (HC.out _ _ E2.out).mono ?_
                    rintro e E3w ⟨A5, c5, rfl, E3o⟩
                    have E3 := Lib.hid E3o
                    refine ⟨_, rfl, ?_⟩
                    refine hK _ _ ⟨fun _ => HSF.out _ _ (E3o.pick (L := [_, _, _, _]) [3]), ?_⟩
                    clear hK K E3o E2
                    try simp only [Act.put, List.setIfInBounds_toArray, List.set_cons_zero, List.set_cons_succ]
                    have E4 := Lib.hid (E3.out.pick (L := [_, _, _]) [0, 2, 1])
                    obtain ⟨A6, c6, dt, z, hdt, -, -, o6⟩ := (E4.out).ents_open
                    rw [HTL.out] at z o6
                    cases z
                    have O6 := Lib.hid o6
                    have HDT := Lib.hid hdt
                    have hrl := Lib.hid (mrow_length hdt)
                    clear o6 hdt E4
                    refine wpAnyN_one (i := 9) (by kernel_rfl) (by simp only [List.getElem?_toArray, List.getElem?_cons_succ, List.getElem?_cons_zero]; rfl) (fun K hK => ?_)
                    refine step_append_move rfl (.tmp 102) (.tmp 107) 23 rfl 26 entZero 4 48 Try.underlying23 Try.info26 entZero_size (by decide) (by simp [Act.eval]) (by rw [hrl.out, HTL.out]) O6.out (Below.refl _ _) (some ⟨qe, 0, none⟩) 1 1 [.int .i64 m.term, .int .i64 ((am : Int) + 1), .int .i64 m.kind, d] (by simp [Act.eval]) rfl (rd_blk (O6.out.pick (L := [_, _, _]) [2])) ?oc (by unfold maxLen; omega) (by omega) ?_
                    case oc => exact hone.out
                    rintro A7 c7 w7 o7
                    have O7 := Lib.hid o7
                    refine hK _ _ ⟨fun _ => HSF.out _ _ (o7.pick (L := [_, _, _, _, _]) [4]), ?_⟩
                    clear hK K o7 O6 HS
                    try simp only [Act.put, List.setIfInBounds_toArray, List.set_cons_zero, List.set_cons_succ]
                    refine wpAnyN_one (i := 10) (by kernel_rfl) (by simp only [List.getElem?_toArray, List.getElem?_cons_succ, List.getElem?_cons_zero]; rfl) (fun K hK => ?_)
                    go_simp
                    refine hK _ _ ⟨fun h => (by cases h), ?_⟩
                    clear hK K
                    try simp only [Act.put, List.setIfInBounds_toArray, List.set_cons_zero, List.set_cons_succ]
                    refine wpAnyN_done (by kernel_rfl) ?_ _
                    go_wp2
                    go_roundw
                    case rel =>
                      have hent : m.index = (am : Int) + 1 := HMD.out.2.2.1
                      have hst : HandAt x told (tl.take am ++ [m]) (k + 1) := by
                        have := hAT.out.step (by rw [HNX.out]; exact HMD.out.1)
                        rw [HHH.out] at this
                        rw [show am = (hh : Int).toNat + k by have := HMD.out.2.2.2.2; omega]
                        exact this
                      have hlen2 : (tl.take am ++ [m]).length = am + 1 := by rw [List.length_append, HTL.out]; rfl
                      refine ⟨k + 1, tl.take am ++ [m], A7, c7, by omega, by rw [hlen2], by go_num, hst, ?_⟩
                      rw [hlen2]
                      have hd2 : (dt ++ [d]).length = (tl.take am ++ [m]).length := by rw [List.length_append, List.length_append, HDT.out]; rfl
                      have hM : mrow (tl.take am ++ [m]) (dt ++ [d]) = mrow (tl.take am) dt ++ [.int .i64 m.term, .int .i64 ((am : Int) + 1), .int .i64 m.kind, d] := by rw [mrow_append HDT.out, ← hent]; rfl
                      have hD : mdata (tl.take am ++ [m]) (dt ++ [d]) = mdata (tl.take am) dt ++ [SP.row 5 1 d (bts m.dat)] := by rw [mdata_append HDT.out]; rfl
                      have o8 := Own.uncons (O7.out.pick (L := [_, _, _, _, _, _, _]) [5, 4, 6, 0, 1])
                      refine Own.ents_shut hd2 ?_
                      rw [hM, hD]
                      exact ((o8.pick (L := [_, _, _, _, _, _]) [5, 0, 4, 2, 1, 3]).snoc).swap
                    case measure => simp [intOf]; omega
                · have i2 : ¬ (k : Int) < (NX.length : Int) := by omega
                  have hkN : k = NX.length := by omega
                  have htl : tl = x.L := HandAt.done hI.out (by rw [HNX.out, ← hkN]; exact hAT.out)
                  subst htl
                  have hlen : x.L.length ≤ 10000 := hI.out.ok.len
                  have HLEN := Lib.hid hlen
                  have O6 := Lib.hid (hown.pick (L := [_, _, _, _]) [3, 0])
                  have hLa := last_own (by rw [HXP.out]; omega) O6.out (fun j e h => (HI2.out.ok.idx j e h).1)
                  rw [show x'.lastI = (x.L.length : Int) by unfold Lg.lastI; rw [HI2.out.i0, HXP.out]; omega] at hLa
                  have HLa := Lib.hid hLa
                  clear hLa hown hkN hAT hlen
                  go_wp2_with fail
                  refine (HLa.out).mono ?_
                  rintro e w6 ⟨rfl, o6⟩
                  have hEn := entries_own HI2.out.ok o6 1 10000 ⟨by decide, by decide⟩ ⟨by decide, by decide⟩
                  rw [entries_all HI2.out.i0, HXP.out, List.take_of_length_le HLEN.out] at hEn
                  have HEn := Lib.hid hEn
                  clear o6 hEn HLa O6
                  go_wp2_with fail
                  refine (HEn.out).mono ?_
                  rintro e w8 ⟨A8, c8, rfl, o8⟩
                  have hs := sameents_own (ca := ck) (cb := c8) (o8.pick (L := [_, _, _]) [0, 2, 1]) (EReads.of_ents.more [_]) EReads.of_ents (by have := HLEN.out; omega) (fun m hm => by have := hI.out.ok.dat m hm; omega)
                  rw [show decide (x.L = x.L) = true from decide_eq_true rfl] at hs
                  have HS := Lib.hid hs
                  clear o8 hs HEn
                  go_wp2_with fail
                  refine (HS.out).mono ?_
                  rintro e w9 ⟨rfl, o9⟩
                  have O9 := Lib.hid (o9.pick (L := [_, _, _]) [2, 1])
                  clear o9 HS
                  go_wp2
                  go_roundw
                  case rel => exact ⟨i + 1, x.L, x', Ak, ck, by omega, rfl, by go_num, HI2.out, O9.out⟩
                  case measure => simp [intOf]; omega
            · have hk3' : (kd == 3) = false := by rw [beq_eq_false_iff_ne]; exact hk3
              clear hk3
              have O5 := Lib.hid (HO.out.pick (L := [_, _, _]) [0, 1])
              clear HO
              go_wp2
              go_roundw
              case rel => exact ⟨i + 1, told, x, At, cT, by omega, rfl, by go_num, hI.out, O5.out⟩
              case measure => simp [intOf]; omega
      · have i1 : ¬ (i : Int) < (l.length : Int) := by omega
        have HO := Lib.hid hown
        clear hown
        go_wp2
        go_ret
        exact ⟨rfl, HO.out.below⟩
end Go.Proofs.Ytepnkhiclgjmpaa
