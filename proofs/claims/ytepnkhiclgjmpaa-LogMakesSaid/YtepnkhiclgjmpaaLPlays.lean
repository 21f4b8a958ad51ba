/-
  LogPlays as a call: it returns true, and what was there stays.
  Conditions: the operations lie in memory as they were handed in.
-/
import Derived.Test.YtepnkhiclgjmpaaDoes
namespace Go.Proofs.Ytepnkhiclgjmpaa
set_option linter.unusedVariables false
set_option linter.unusedSimpArgs false
open Go.RowKit

set_option maxRecDepth 100000 in
set_option maxHeartbeats 16000000 in
theorem plays_calls (w : World) (A : Option Addr) (c : Nat) (l : List Op8) (hops : Ops8 w A l) (hl : l.length ≤ 140737488351232) :
    Calls Try.prog 10 #[.slice A l.length c] w fun e w' => e = .returned (.bool true) ∧ Below w.heap.size w w' := by
  have HF := Lib.hid (first_own (Own.start w))
  have HOP := Lib.hid hops
  clear hops
  go_enter Try.func10, Try.ntmps10
  go_wp2_with fail
  refine (HF.out).mono ?_
  rintro e w1 ⟨rfl, o1⟩
  have hop1 : Ops8 w1 A l := fun i o ho => by
    obtain ⟨b, off, Ae, ce, Ab, cb, h1, hb, k0, k1, k2, k3, k4, k5, hE, hB, hr⟩ := HOP.out i o ho
    have hbl := o1.below
    exact ⟨b, off, Ae, ce, Ab, cb, h1, by have := hbl.size; omega, (hbl.cell hb).trans k0, (hbl.cell hb).trans k1, (hbl.cell hb).trans k2, (hbl.cell hb).trans k3, (hbl.cell hb).trans k4, (hbl.cell hb).trans k5, hE.below hbl, ⟨hB.1, hB.2.1, hB.2.2.1, hB.2.2.2.below hbl⟩, hr⟩
  have HFew := Lib.hid (few_calls w1 A c l hop1 hl)
  have O1 := Lib.hid o1
  clear o1 HF hop1
  go_wp2_with fail
  refine (HFew.out).mono ?_
  rintro e w2 ⟨sm, rfl, rfl, hsm⟩
  have HSM := Lib.hid hsm
  have hN := new_own (A := none) (c := 0) (es := []) (by decide) (by simp) O1.out EReads.nil 0 0 0
  rw [bLog_new] at hN
  have HN := Lib.hid hN
  clear hN HFew hsm
  cases sm with
  | false =>
    go_wp2
    go_ret
    exact ⟨rfl, O1.out.below⟩
  | true =>
    have h300 := (HSM.out rfl).1
    have H64 := Lib.hid (HSM.out rfl).2
    clear HSM
    go_wp2_with fail
    refine (HN.out).mono ?_
    rintro e w3 ⟨g, rfl, o3⟩
    have hR := rnew_own (A := none) (c := 0) (es := []) (by decide) (by simp) o3 EReads.nil 0 0 0
    rw [bLog_new] at hR
    have HR := Lib.hid hR
    have HN0 := Lib.hid (fun (W : World) => num_calls W 0 ⟨by decide, by decide⟩)
    have hb0 := Lib.hid bLog_nil_ok
    clear o3 hR HN O1
    go_wp2_with fail
    refine (HR.out).mono ?_
    rintro e w4 ⟨k, rfl, o4⟩
    have O4 := Lib.hid o4.swap
    clear o4 HR
    go_wp2_with fail
    refine (HN0.out _).mono ?_
    rintro e w5 ⟨rfl, rfl⟩
    go_wp2
    go_loopw [9] (fun ti wr => ∃ (i : Nat) (x : Lg), i ≤ l.length ∧ ti = .int .i64 i ∧ Hid x.Ok ∧ Own (fun _ => False) w wr [SP.log 85 g x, SP.log 88 k x]) (fun ti _ => l.length - (intOf ti).toNat)
    case atStart => exact ⟨0, bLog [], Nat.zero_le _, rfl, hb0.out, O4.out⟩
    case round =>
      obtain ⟨i, x, hi, rfl, hI, hown⟩ := hrel
      clear O4 hb0
      by_cases hin : i < l.length
      · obtain ⟨o, hoi⟩ : ∃ o, l[i]? = some o := ⟨_, List.getElem?_eq_getElem hin⟩
        obtain ⟨b, off, Ae, ce, Ab, cb, rfl, hb, k0, k1, k2, k3, k4, k5, hE, hB, h64i⟩ := HOP.out i o hoi
        have h64 := H64.out o (List.mem_of_getElem? hoi)
        obtain ⟨kd, on, ot, om, oe, obb⟩ := o
        simp only at k0 k1 k2 k3 k4 k5 hE hB h64 h64i
        have hbw : Below w.heap.size w wr := hown.below
        have c0 := (hbw.cell hb).trans k0
        have c1 := (hbw.cell hb).trans k1
        have c2 := (hbw.cell hb).trans k2
        have c3 := (hbw.cell hb).trans k3
        have c4 := (hbw.cell hb).trans k4
        have c5 := (hbw.cell hb).trans k5
        have i1 : (i : Int) < (l.length : Int) := by omega
        have HD := Lib.hid (does_own hI.out kd on ot om Ae Ab ce cb oe obb hE h64 hB h64i hown)
        obtain ⟨el, hel⟩ : ∃ el, oe.length = el := ⟨_, rfl⟩
        obtain ⟨bl, hbl⟩ : ∃ bl, obb.length = bl := ⟨_, rfl⟩
        rw [hel] at c4
        rw [hbl] at c5
        rw [hel, hbl] at HD
        clear hel hbl k0 k1 k2 k3 k4 k5 hoi hE hB hown hbw h64 h64i
        go_wp2_with fail
        refine (HD.out).mono ?_
        rintro e w6 ⟨y, rfl, hy, o6⟩
        have HA := Lib.hid (alike_own hy o6)
        have HY := Lib.hid hy
        clear HD o6 hy c0 c1 c2 c3 c4 c5
        go_wp2_with fail
        refine (HA.out).mono ?_
        rintro e w7 ⟨rfl, o7⟩
        have O7 := Lib.hid o7
        clear o7 HA
        go_wp2
        go_roundw
        case rel => exact ⟨i + 1, y, by omega, by go_num, HY.out, O7.out⟩
        case measure => simp [intOf]; omega
      · have i1 : ¬ (i : Int) < (l.length : Int) := by omega
        have HO := Lib.hid hown
        clear hown
        go_wp2
        go_ret
        exact ⟨rfl, HO.out.below⟩
end Go.Proofs.Ytepnkhiclgjmpaa
