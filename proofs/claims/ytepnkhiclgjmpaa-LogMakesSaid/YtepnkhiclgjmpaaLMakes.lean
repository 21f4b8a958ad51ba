/-
  LogMakes as a call: it returns true, and what was there stays.
  Conditions: the entries and operations lie in memory as they were handed in.
-/
import Derived.Test.YtepnkhiclgjmpaaLPlays
namespace Go.Proofs.Ytepnkhiclgjmpaa
set_option linter.unusedVariables false
set_option linter.unusedSimpArgs false
open Go.RowKit

theorem checkAll_in : ∀ es : List E, 0 ≤ checkAll es ∧ checkAll es ≤ 18
  | [] => ⟨by decide, by decide⟩
  | e :: es => by
    rw [checkAll]
    split
    · exact checkE_in e
    · exact checkAll_in es
theorem newL_err (i t c : Int) (es : List E) : 0 ≤ (newL i t c es).2 ∧ (newL i t c es).2 ≤ 18 := by
  unfold newL
  split
  · exact ⟨by simp, by simp⟩
  · split
    · exact checkAll_in es
    · split
      · exact ⟨by simp, by simp⟩
      · split
        · exact ⟨by simp, by simp⟩
        · exact ⟨by simp, by simp⟩
theorem zero64m : In64 0 := ⟨by decide, by decide⟩
def zeroOp : Op8 := ⟨0, 0, 0, 0, [], []⟩
set_option maxRecDepth 100000 in
set_option maxHeartbeats 16000000 in
theorem makes_calls (w : World) (index term commit : Int) (B : Option Addr) (d : Nat) (es : List E) (hE0 : EArg w B d es) (A : Option Addr) (c : Nat) (l : List Op8) (hops : Ops8 w A l) (hl : l.length ≤ 140737488351232) :
    Calls Try.prog 11 #[.int .i64 index, .int .i64 term, .int .i64 commit, .slice B es.length d, .slice A l.length c] w fun e w' => e = .returned (.bool true) ∧ Below w.heap.size w w' := by
  have HF := Lib.hid (first_own (Own.start w))
  have HOP := Lib.hid hops
  have HE := Lib.hid hE0
  clear hops hE0
  go_enter Try.func11, Try.ntmps11
  go_wp2_with fail
  refine (HF.out).mono ?_
  rintro e w1 ⟨rfl, o1⟩
  have hop1 : Ops8 w1 A l := fun i o ho => by
    obtain ⟨b, off, Ae, ce, Ab, cb, h1, hb, k0, k1, k2, k3, k4, k5, hE, hB, hr⟩ := HOP.out i o ho
    have hbl := o1.below
    exact ⟨b, off, Ae, ce, Ab, cb, h1, by have := hbl.size; omega, (hbl.cell hb).trans k0, (hbl.cell hb).trans k1, (hbl.cell hb).trans k2, (hbl.cell hb).trans k3, (hbl.cell hb).trans k4, (hbl.cell hb).trans k5, hE.below hbl, ⟨hB.1, hB.2.1, hB.2.2.1, hB.2.2.2.below hbl⟩, hr⟩
  have HFew := Lib.hid (few_calls w1 A c l hop1 hl)
  have O1 := Lib.hid o1
  clear o1 HF hop1
  go_wp2_with fail
  refine (HFew.out).mono ?_
  rintro e w2 ⟨sm, rfl, rfl, hsm⟩
  have HSM := Lib.hid hsm
  clear HFew hsm
  cases sm with
  | false =>
    have OW := O1
    clear O1 HSM
    go_wp2
    go_loopw [13, 14] (fun tn ti wr => ∃ (i : Nat) (n : Int), i ≤ es.length ∧ i ≤ 300 ∧ tn = .int .i64 n ∧ ti = .int .i64 i ∧ 0 ≤ n ∧ n ≤ 20000 * (i : Int) ∧ Own (fun _ => False) w wr []) (fun _ ti _ => es.length - (intOf ti).toNat)
    case atStart => exact ⟨0, 0, Nat.zero_le _, Nat.zero_le _, rfl, rfl, Int.le_refl _, by decide, OW.out⟩
    case round =>
      obtain ⟨i, n, hi, hi3, rfl, rfl, hn0, hn1, hown⟩ := hrel
      clear OW
      have HO := Lib.hid hown
      clear hown
      by_cases hin : i < es.length
      · have i1 : (i : Int) < (es.length : Int) := by omega
        by_cases hi300 : i < 300
        · have i2 : (i : Int) < 300 := by omega
          obtain ⟨m, hm⟩ : ∃ m, es[i]? = some m := ⟨_, List.getElem?_eq_getElem hin⟩
          obtain ⟨b, off, Ad, cd, rfl, hb, -, -, -, k3, -, -, -⟩ := (HE.out.2.2.2.1.below HO.out.below) i m hm
          obtain ⟨dl, hdl⟩ : ∃ dl, m.dat.length = dl := ⟨_, rfl⟩
          have hd2 := (HE.out.2.2.2.2 m (List.mem_of_getElem? hm)).1
          rw [hdl] at k3 hd2
          clear hm hdl
          go_wp2_with fail
          all_goals
            go_roundw
            case rel => exact ⟨i + 1, _, by omega, by omega, by first | rfl | go_num, by go_num, by omega, by omega, HO.out⟩
            case measure => simp [intOf]; omega
        · have i2 : ¬ (i : Int) < 300 := by omega
          have hb3 : (300 : Int) < (es.length : Int) := by omega
          go_wp2
          go_ret
          exact ⟨rfl, HO.out.below⟩
      · have i1 : ¬ (i : Int) < (es.length : Int) := by omega
        go_wp2
        go_ret
        exact ⟨rfl, HO.out.below⟩
  | true =>
    have H64 := Lib.hid (HSM.out rfl).2
    clear HSM
    have o3 := O1.out.alloc #[.int .i64 0, .int .i64 0, .int .i64 0, .int .i64 0, .slice none 0 0, .slice none 0 0] 60
    have hf := few_calls (w1.alloc (.cells #[.int .i64 0, .int .i64 0, .int .i64 0, .int .i64 0, .slice none 0 0, .slice none 0 0] 60)) (some ⟨w1.heap.size, 0, none⟩) 1 [zeroOp] (fun k o ho => by
      match k, ho with
      | 0, ho =>
        simp at ho; subst ho
        exact ⟨w1.heap.size, 0, none, 0, none, 0, rfl, by rw [World.size_alloc]; omega, o3.blk_cell 0, o3.blk_cell 1, o3.blk_cell 2, o3.blk_cell 3, o3.blk_cell 4, o3.blk_cell 5, ⟨Nat.le_refl _, Nat.zero_le _, Nat.zero_le _, ERd.nil _ _, fun m hm => by cases hm⟩, ⟨Nat.le_refl _, Nat.zero_le _, Nat.zero_le _, Rd.nil _ _⟩, zero64m, zero64m, zero64m, zero64m⟩
      | k + 1, ho => simp at ho) (by simp)
    have HF2 := Lib.hid hf
    have OW := Lib.hid o3.pop
    clear hf o3 O1
    go_wp2_with fail
    refine (HF2.out).mono ?_
    rintro e w3 ⟨sb, rfl, rfl, -⟩
    clear HF2
    cases sb with
    | false =>
      go_wp2
      go_loopw [13, 14] (fun tn ti wr => ∃ (i : Nat) (n : Int), i ≤ es.length ∧ i ≤ 300 ∧ tn = .int .i64 n ∧ ti = .int .i64 i ∧ 0 ≤ n ∧ n ≤ 20000 * (i : Int) ∧ Own (fun _ => False) w wr []) (fun _ ti _ => es.length - (intOf ti).toNat)
      case atStart => exact ⟨0, 0, Nat.zero_le _, Nat.zero_le _, rfl, rfl, Int.le_refl _, by decide, OW.out⟩
      case round =>
        obtain ⟨i, n, hi, hi3, rfl, rfl, hn0, hn1, hown⟩ := hrel
        clear OW
        have HO := Lib.hid hown
        clear hown
        by_cases hin : i < es.length
        · have i1 : (i : Int) < (es.length : Int) := by omega
          by_cases hi300 : i < 300
          · have i2 : (i : Int) < 300 := by omega
            obtain ⟨m, hm⟩ : ∃ m, es[i]? = some m := ⟨_, List.getElem?_eq_getElem hin⟩
            obtain ⟨b, off, Ad, cd, rfl, hb, -, -, -, k3, -, -, -⟩ := (HE.out.2.2.2.1.below HO.out.below) i m hm
            obtain ⟨dl, hdl⟩ : ∃ dl, m.dat.length = dl := ⟨_, rfl⟩
            have hd2 := (HE.out.2.2.2.2 m (List.mem_of_getElem? hm)).1
            rw [hdl] at k3 hd2
            clear hm hdl
            go_wp2_with fail
            all_goals
              go_roundw
              case rel => exact ⟨i + 1, _, by omega, by omega, by first | rfl | go_num, by go_num, by omega, by omega, HO.out⟩
              case measure => simp [intOf]; omega
          · have i2 : ¬ (i : Int) < 300 := by omega
            have hb3 : (300 : Int) < (es.length : Int) := by omega
            go_wp2
            go_ret
            exact ⟨rfl, HO.out.below⟩
        · have i1 : ¬ (i : Int) < (es.length : Int) := by omega
          go_wp2
          go_ret
          exact ⟨rfl, HO.out.below⟩
    | true =>
      go_wp2
      go_loopw [13, 14] (fun tn ti wr => ∃ (i : Nat) (n : Int), i ≤ es.length ∧ i ≤ 300 ∧ tn = .int .i64 n ∧ ti = .int .i64 i ∧ 0 ≤ n ∧ n ≤ 20000 * (i : Int) ∧ Own (fun _ => False) w wr []) (fun _ ti _ => es.length - (intOf ti).toNat)
      case atStart => exact ⟨0, 0, Nat.zero_le _, Nat.zero_le _, rfl, rfl, Int.le_refl _, by decide, OW.out⟩
      case round =>
        obtain ⟨i, n, hi, hi3, rfl, rfl, hn0, hn1, hown⟩ := hrel
        clear OW
        have HO := Lib.hid hown
        clear hown
        by_cases hin : i < es.length
        · have i1 : (i : Int) < (es.length : Int) := by omega
          by_cases hi300 : i < 300
          · have i2 : (i : Int) < 300 := by omega
            obtain ⟨m, hm⟩ : ∃ m, es[i]? = some m := ⟨_, List.getElem?_eq_getElem hin⟩
            obtain ⟨b, off, Ad, cd, rfl, hb, -, -, -, k3, -, -, -⟩ := (HE.out.2.2.2.1.below HO.out.below) i m hm
            obtain ⟨dl, hdl⟩ : ∃ dl, m.dat.length = dl := ⟨_, rfl⟩
            have hd2 := (HE.out.2.2.2.2 m (List.mem_of_getElem? hm)).1
            rw [hdl] at k3 hd2
            clear hm hdl
            go_wp2_with fail
            all_goals
              go_roundw
              case rel => exact ⟨i + 1, _, by omega, by omega, by first | rfl | go_num, by go_num, by omega, by omega, HO.out⟩
              case measure => simp [intOf]; omega
          · have i2 : ¬ (i : Int) < 300 := by omega
            have hb3 : (300 : Int) < (es.length : Int) := by omega
            go_wp2
            go_ret
            exact ⟨rfl, HO.out.below⟩
        · have i1 : ¬ (i : Int) < (es.length : Int) := by omega
          by_cases hbig : 300 < es.length
          · have hb3 : (300 : Int) < (es.length : Int) := by omega
            go_wp2
            go_ret
            exact ⟨rfl, HO.out.below⟩
          · have hb3 : ¬ (300 : Int) < (es.length : Int) := by omega
            by_cases hnn : 20000 < n
            · go_wp2
              go_ret
              exact ⟨rfl, HO.out.below⟩
            · have hes : es.length ≤ 300 := by omega
              obtain ⟨N, hN⟩ : ∃ N, es.length = N := ⟨_, rfl⟩
              have HNN := Lib.hid hN
              have hC := copies_own (c := d) (A := B) (es := es) (by omega) (fun m hm => (HE.out.2.2.2.2 m hm).1) HO.out (EReads.of_rd HE.out.2.2.2.1)
              rw [hN] at hC hb3 hes i1
              simp only [hN]
              have HC := Lib.hid hC
              clear hC hN
              go_wp2_with fail
              refine (HC.out).mono ?_
              rintro e w3 ⟨A3, c3, rfl, o3⟩
              have hNw := new_own (c := c3) (A := A3) (es := es) (by rw [HNN.out]; omega) (fun m hm => (HE.out.2.2.2.2 m hm).1) o3 EReads.of_ents index term commit
              obtain ⟨⟨mx, er⟩, hmx⟩ : ∃ r, newL index term commit es = r := ⟨_, rfl⟩
              have hee := newL_err index term commit es
              rw [hmx] at hee
              obtain ⟨he1, he2⟩ := hee
              simp only at he1 he2
              rw [hmx, HNN.out] at hNw
              have HMX := Lib.hid hmx
              have HNw := Lib.hid hNw
              clear o3 hNw hmx HC HO
              cases mx with
              | none =>
                go_wp2_with fail
                refine (HNw.out).mono ?_
                rintro e w4 ⟨rfl, o4⟩
                have hR := rnew_own (c := d) (A := B) (es := es) (by rw [HNN.out]; omega) (fun m hm => (HE.out.2.2.2.2 m hm).1) o4 (EReads.of_rd HE.out.2.2.2.1) index term commit
                rw [HMX.out, HNN.out] at hR
                have HR := Lib.hid hR
                clear o4 hR HNw
                go_wp2_with fail
                refine (HR.out).mono ?_
                rintro e w5 ⟨rfl, o5⟩
                have hS := sameents_own (ca := c3) (cb := d) (xs := es) (ys := es) o5 EReads.of_ents (EReads.of_rd HE.out.2.2.2.1) (by rw [HNN.out]; omega) (fun m hm => (HE.out.2.2.2.2 m hm).1)
                rw [show decide (es = es) = true from decide_eq_true rfl, HNN.out] at hS
                have HS := Lib.hid hS
                clear o5 hS HR
                go_wp2_with fail
                refine (HS.out).mono ?_
                rintro e w6 ⟨rfl, o6⟩
                have HOv := Lib.hid (over_own HNN.out (by omega) (fun m hm => (HE.out.2.2.2.2 m hm).1) o6)
                clear o6 HS
                go_wp2_with fail
                refine (HOv.out).mono ?_
                rintro e w7 ⟨⟨v, rfl⟩, o7⟩
                have O7 := Lib.hid o7
                have q1 : (er != er) = false := by simp
                clear o7 HOv
                go_wp2_with fail
                refine (num_calls _ er ⟨by omega, by omega⟩).mono ?_
                rintro e w8 ⟨rfl, rfl⟩
                go_wp2
                go_ret
                exact ⟨rfl, O7.out.below⟩
              | some x =>
                have hx := (newL_isOk HMX.out).1
                have HXO := Lib.hid hx
                clear hx
                go_wp2_with fail
                refine (HNw.out).mono ?_
                rintro e w4 ⟨g, rfl, o4⟩
                have hR := rnew_own (c := d) (A := B) (es := es) (by rw [HNN.out]; omega) (fun m hm => (HE.out.2.2.2.2 m hm).1) o4 (EReads.of_rd HE.out.2.2.2.1) index term commit
                rw [HMX.out, HNN.out] at hR
                have HR := Lib.hid hR
                clear o4 hR HNw
                go_wp2_with fail
                refine (HR.out).mono ?_
                rintro e w5 ⟨k, rfl, o5⟩
                have hS := sameents_own (ca := c3) (cb := d) (xs := es) (ys := es) (o5.pick (L := [_, _, _]) [2, 1, 0]) EReads.of_ents (EReads.of_rd HE.out.2.2.2.1) (by rw [HNN.out]; omega) (fun m hm => (HE.out.2.2.2.2 m hm).1)
                rw [show decide (es = es) = true from decide_eq_true rfl, HNN.out] at hS
                have HS := Lib.hid hS
                clear o5 hS HR
                go_wp2_with fail
                refine (HS.out).mono ?_
                rintro e w6 ⟨rfl, o6⟩
                have HOv := Lib.hid (over_own HNN.out (by omega) (fun m hm => (HE.out.2.2.2.2 m hm).1) o6)
                clear o6 HS
                go_wp2_with fail
                refine (HOv.out).mono ?_
                rintro e w7 ⟨⟨v, rfl⟩, o7⟩
                have HAl := Lib.hid (alike_own HXO.out o7)
                clear o7 HOv
                go_wp2_with fail
                refine (num_calls _ 0 ⟨by decide, by decide⟩).mono ?_
                rintro e w8 ⟨rfl, rfl⟩
                go_wp2_with fail
                refine (HAl.out).mono ?_
                rintro e w8 ⟨rfl, o8⟩
                have O8 := Lib.hid o8
                clear o8 HAl hn0 hn1 hnn
                go_wp2
                go_loopw [21, 22] (fun tf ti wr => ∃ (i : Nat) (x : Lg), i ≤ l.length ∧ tf = .bool true ∧ ti = .int .i64 i ∧ Hid x.Ok ∧ Own (fun _ => False) w wr [SP.log 85 g x, SP.log 88 k x]) (fun _ ti _ => l.length - (intOf ti).toNat)
                case atStart => exact ⟨0, x, Nat.zero_le _, rfl, rfl, HXO.out, O8.out⟩
                case round =>
                  obtain ⟨i, x, hi, rfl, rfl, hI, hown⟩ := hrel
                  clear O8
                  by_cases hin : i < l.length
                  · obtain ⟨o, hoi⟩ : ∃ o, l[i]? = some o := ⟨_, List.getElem?_eq_getElem hin⟩
                    obtain ⟨b, off, Ae, ce, Ab, cb, rfl, hb, k0, k1, k2, k3, k4, k5, hE, hB, h64i⟩ := HOP.out i o hoi
                    have h64 := H64.out o (List.mem_of_getElem? hoi)
                    obtain ⟨kd, on, ot, om, oe, obb⟩ := o
                    simp only at k0 k1 k2 k3 k4 k5 hE hB h64 h64i
                    have hbw : Below w.heap.size w wr := hown.below
                    have c0 := (hbw.cell hb).trans k0
                    have c1 := (hbw.cell hb).trans k1
                    have c2 := (hbw.cell hb).trans k2
                    have c3 := (hbw.cell hb).trans k3
                    have c4 := (hbw.cell hb).trans k4
                    have c5 := (hbw.cell hb).trans k5
                    have i1 : (i : Int) < (l.length : Int) := by omega
                    have HD := Lib.hid (does_own hI.out kd on ot om Ae Ab ce cb oe obb hE h64 hB h64i hown)
                    obtain ⟨el, hel⟩ : ∃ el, oe.length = el := ⟨_, rfl⟩
                    obtain ⟨bl, hbl⟩ : ∃ bl, obb.length = bl := ⟨_, rfl⟩
                    rw [hel] at c4
                    rw [hbl] at c5
                    rw [hel, hbl] at HD
                    clear hel hbl k0 k1 k2 k3 k4 k5 hoi hE hB hown hbw h64 h64i
                    go_wp2_with fail
                    refine (HD.out).mono ?_
                    rintro e w6 ⟨y, rfl, hy, o6⟩
                    have HA := Lib.hid (alike_own hy o6)
                    have HY := Lib.hid hy
                    clear HD o6 hy c0 c1 c2 c3 c4 c5
                    go_wp2_with fail
                    refine (HA.out).mono ?_
                    rintro e w7 ⟨rfl, o7⟩
                    have O7 := Lib.hid o7
                    clear o7 HA
                    go_wp2
                    go_roundw
                    case rel => exact ⟨i + 1, y, by omega, rfl, by go_num, HY.out, O7.out⟩
                    case measure => simp [intOf]; omega
                  · have i1 : ¬ (i : Int) < (l.length : Int) := by omega
                    have HO := Lib.hid hown
                    clear hown
                    go_wp2
                    go_ret
                    exact ⟨rfl, HO.out.below⟩
end Go.Proofs.Ytepnkhiclgjmpaa
