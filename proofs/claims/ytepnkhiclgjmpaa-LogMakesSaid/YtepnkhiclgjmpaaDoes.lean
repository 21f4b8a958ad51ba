/-
  does of chapter 8: the log and the document's answer the same, and stay the same.
  Conditions: the log is in order; the operation lies in memory as it was handed in.
-/
import Derived.Test.YtepnkhiclgjmpaaSame
import Derived.Test.YtepnkhiclgjmpaaCopies
import Derived.Test.YtepnkhiclgjmpaaFew
import Derived.Test.YtepnkhiclgjmpaaMay4
import Derived.Test.YtepnkhiclgjmpaaTwicePure
import Derived.Test.YtepnkhiclgjmpaaLog11
namespace Go.Proofs.Ytepnkhiclgjmpaa
set_option linter.unusedVariables false
set_option linter.unusedSimpArgs false
open Go.RowKit

section
variable {W0 w : World} {R : List SP} {g k : Nat} {x : Lg}
set_option maxRecDepth 100000 in
set_option maxHeartbeats 16000000 in
theorem does0_own (hx : x.Ok) (kd on ot om : Int) (Ae Ab : Option Addr) (ce cb : Nat) (oe : List E) (obb : List UInt8) (hE : EArg W0 Ae ce oe) (h64 : oe.length ≤ 64) (hB : obb.length ≤ cb ∧ cb ≤ maxLen ∧ obb.length ≤ 140737488351232 ∧ Rd W0 Ab (bts obb)) (hi : In64 kd ∧ In64 on ∧ In64 ot ∧ In64 om)
    (hk : kd = 0) (h : Own (fun _ => False) W0 w (SP.log 85 g x :: SP.log 88 k x :: R)) :
    Calls Try.prog 44 #[.pointer (some ⟨g, 0, none⟩), .pointer (some ⟨k, 0, none⟩), .agg #[.int .i64 kd, .int .i64 on, .int .i64 ot, .int .i64 om, .slice Ae oe.length ce, .slice Ab obb.length cb]] w fun e w' => ∃ y : Lg, e = .returned (.bool true) ∧ y.Ok ∧ Own (fun _ => False) W0 w' (SP.log 85 g y :: SP.log 88 k y :: R) := by
  obtain ⟨el, hel⟩ : ∃ el, oe.length = el := ⟨_, rfl⟩
  obtain ⟨bl, hbl⟩ : ∃ bl, obb.length = bl := ⟨_, rfl⟩
  have HX := Lib.hid hx
  have HE := Lib.hid hE
  have HB := Lib.hid hB
  have HI := Lib.hid hi
  have HL := Lib.hid (And.intro hel hbl)
  have hbl2 := hB.2.2.1
  have hbc := hB.1
  rw [hel] at h64 ⊢
  rw [hbl] at hbl2 hbc ⊢
  obtain ⟨q3, hq3⟩ : ∃ q3, w.heap.size = q3 := ⟨_, rfl⟩
  obtain ⟨q4, hq4⟩ : ∃ q4, q3 + 1 = q4 := ⟨_, rfl⟩
  obtain ⟨q5, hq5⟩ : ∃ q5, q4 + 1 = q5 := ⟨_, rfl⟩
  have o1 := ((h.alloc #[.pointer (some ⟨g, 0, none⟩)] 27).alloc #[.pointer (some ⟨k, 0, none⟩)] 31).alloc #[.int .i64 kd, .int .i64 on, .int .i64 ot, .int .i64 om, .slice Ae el ce, .slice Ab bl cb] 60
  simp only [World.size_alloc, hq3, hq4, hq5] at o1
  have HQ := Lib.hid (And.intro hq3 (And.intro hq4 hq5))
  have HO0 := Lib.hid (o1.pick (L := [_, _, _, _, _]) [3, 4, 2, 1, 0])
  have HCELL := Lib.hid (fun (W : World) (a b : SP) (R' : List SP) (o : Own (fun _ => False) W0 W (a :: b :: SP.blk q3 27 #[.pointer (some ⟨g, 0, none⟩)] :: SP.blk q4 31 #[.pointer (some ⟨k, 0, none⟩)] :: SP.blk q5 60 #[.int .i64 kd, .int .i64 on, .int .i64 ot, .int .i64 om, .slice Ae el ce, .slice Ab bl cb] :: R')) => show W.cell? ⟨q3, 0, none⟩ = some (.pointer (some ⟨g, 0, none⟩)) ∧ W.cell? ⟨q4, 0, none⟩ = some (.pointer (some ⟨k, 0, none⟩)) ∧ W.cell? ⟨q5, 0, none⟩ = some (.int .i64 kd) ∧ W.cell? ⟨q5, 1, none⟩ = some (.int .i64 on) ∧ W.cell? ⟨q5, 2, none⟩ = some (.int .i64 ot) ∧ W.cell? ⟨q5, 3, none⟩ = some (.int .i64 om) ∧ W.cell? ⟨q5, 4, none⟩ = some (.slice Ae el ce) ∧ W.cell? ⟨q5, 5, none⟩ = some (.slice Ab bl cb) from ⟨(o.pick (L := [_, _, _, _, _]) [2]).blk_cell 0, (o.pick (L := [_, _, _, _, _]) [3]).blk_cell 0, (o.pick (L := [_, _, _, _, _]) [4]).blk_cell 0, (o.pick (L := [_, _, _, _, _]) [4]).blk_cell 1, (o.pick (L := [_, _, _, _, _]) [4]).blk_cell 2, (o.pick (L := [_, _, _, _, _]) [4]).blk_cell 3, (o.pick (L := [_, _, _, _, _]) [4]).blk_cell 4, (o.pick (L := [_, _, _, _, _]) [4]).blk_cell 5⟩)
  have hk0 : (kd == 0) = true := by simp [hk]
  clear h o1 hx hE hB hi hel hbl hq3 hq4 hq5 hk
  go_enter Try.func44, Try.ntmps44
  go_upto_region 1 with (fail)
  simp only [World.size_alloc, HQ.out.1, HQ.out.2.1, HQ.out.2.2]
  obtain ⟨w1, hw1⟩ : ∃ W, ((w.alloc (.cells #[.pointer (some ⟨g, 0, none⟩)] 27)).alloc (.cells #[.pointer (some ⟨k, 0, none⟩)] 31)).alloc (.cells #[.int .i64 kd, .int .i64 on, .int .i64 ot, .int .i64 om, .slice Ae el ce, .slice Ab bl cb] 60) = W := ⟨_, rfl⟩
  have HO := HO0
  rw [hw1] at HO ⊢
  clear hw1 HO0
  obtain ⟨p3, p4, e0, e1, e2, e3, e4, e5⟩ := HCELL.out _ _ _ _ HO.out
  have hLe := lent_own (cb := cb) HO.out (fun W X hX => HB.out.2.2.2.below hX.below) (by rw [HL.out.2]; exact hbl2)
  rw [HL.out.2] at hLe
  have HLe := Lib.hid hLe
  clear hLe
  go_wp2_with fail
  refine (HLe.out).mono ?_
  rintro e w2 ⟨A2, c2, rfl, hc1, hc2, o2⟩
  obtain ⟨⟨⟨a1, a2⟩, y⟩, hy⟩ : ∃ r, x.append ot om obb = r := ⟨_, rfl⟩
  have hyo := append_isOk HX.out ot om obb
  have hye := append_err x ot om obb
  have hA := append_own (B := A2) (cb := c2) (d := obb) HX.out (o2.pick (L := [_, _]) [1, 0]) reads_front (by rw [HL.out.2]; omega) hc2 (by rw [HL.out.2]; exact hbl2) ot om
  rw [HL.out.2, hy] at hA
  rw [hy] at hyo hye
  simp only at hyo hye hA
  have HA := Lib.hid hA
  have HY := Lib.hid (And.intro hy hyo)
  obtain ⟨y1, y2⟩ := hye
  clear p3 p4 e0 e1 e2 e3 e4 e5
  obtain ⟨p3, p4, e0, e1, e2, e3, e4, e5⟩ := HCELL.out _ _ _ _ (o2.pick (L := [_, _, _, _, _, _]) [1, 2, 3, 4, 5, 0])
  clear o2 hA hy hyo HLe HO
  go_wp2_with fail
  refine (HA.out).mono ?_
  rintro e w3 ⟨rfl, o3⟩
  have hR := rappend_own (B := Ab) (cb := cb) (d := obb) HX.out (o3.pick (L := [_, _, _]) [2, 0, 1]) (fun W X hX => HB.out.2.2.2.below hX.below) (by rw [HL.out.2]; exact hbl2) ot om
  rw [HL.out.2, HY.out.1] at hR
  simp only at hR
  have HR := Lib.hid hR
  clear p3 p4 e0 e1 e2 e3 e4 e5
  obtain ⟨p3, p4, e0, e1, e2, e3, e4, e5⟩ := HCELL.out _ _ _ _ (o3.pick (L := [_, _, _, _, _, _]) [0, 2, 3, 4, 5, 1])
  clear o3 hR HA
  go_wp2_with fail
  refine (HR.out).mono ?_
  rintro e w4 ⟨rfl, o4⟩
  have o5 := o4.pick (L := [_, _, _, _, _, _]) [2, 1, 0, 3, 4, 5]
  have hK := kept_own (A := A2) (B := Ab) (c := c2) (cb := cb) (b := obb) o5 o5.rd (HB.out.2.2.2.below o5.below) (by rw [HL.out.2]; exact hbl2) (by rw [HL.out.2]; exact hc1) hc2
  rw [HL.out.2] at hK
  have HK := Lib.hid hK
  clear p3 p4 e0 e1 e2 e3 e4 e5
  obtain ⟨p3, p4, e0, e1, e2, e3, e4, e5⟩ := HCELL.out _ _ _ _ (o5.pick (L := [_, _, _, _, _, _]) [1, 2, 3, 4, 5])
  have HBL := Lib.hid (show (bts (obb ++ [201])).length = bl + 1 by rw [bts_length, List.length_append, HL.out.2]; rfl)
  have hn18 := Lib.hid (fun (W : World) => num_calls W a2 ⟨by omega, by omega⟩)
  clear o4 o5 hK HR
  go_wp2_with fail
  refine (HK.out).mono ?_
  rintro e w6 ⟨rfl, o6⟩
  have O6 := Lib.hid o6
  clear p3 p4 e0 e1 e2 e3 e4 e5
  clear o6 HK
  unfold maxLen at hc2
  go_wp2
  go_loopw [13] (fun ti wr => ∃ (i : Nat) (ys : List Value), i ≤ bl ∧ ti = .int .i64 i ∧ ys.length = bl + 1 ∧ Own (fun _ => False) W0 wr (SP.row 5 1 (.slice A2 (bl + 1) c2) ys :: SP.log 85 g y :: SP.log 88 k y :: SP.blk q3 27 #[.pointer (some ⟨g, 0, none⟩)] :: SP.blk q4 31 #[.pointer (some ⟨k, 0, none⟩)] :: SP.blk q5 60 #[.int .i64 kd, .int .i64 on, .int .i64 ot, .int .i64 om, .slice Ae el ce, .slice Ab bl cb] :: R)) (fun ti _ => bl - (intOf ti).toNat)
  case atStart => exact ⟨0, _, Nat.zero_le _, rfl, HBL.out, O6.out⟩
  case round =>
    obtain ⟨i, ys, hi, rfl, hys, hown⟩ := hrel
    clear O6
    by_cases hin : i < bl
    · have i1 : (i : Int) < (bl : Int) := by omega
      obtain ⟨u, hu⟩ : ∃ u, ys[i]? = some u := ⟨_, List.getElem?_eq_getElem (by omega)⟩
      obtain ⟨gb, go, rfl, k0, f0⟩ := hown.cell hu
      have O7 := Lib.hid (hown.store (j := i) (by omega) (.int .u8 75))
      have HYS := Lib.hid hys
      clear hown hu hys
      go_wp2
      go_roundw
      case rel => exact ⟨i + 1, _, by omega, by go_num, by rw [List.length_set]; exact HYS.out, O7.out⟩
      case measure => simp [intOf]; omega
    · have i1 : ¬ (i : Int) < (bl : Int) := by omega
      have O7 := Lib.hid hown
      have qq1 : (a1 == a1) = true := by simp
      have qq2 : (a2 == a2) = true := by simp
      clear hown hys
      go_wp2_with fail
      refine (hn18.out _).mono ?_
      rintro e w8 ⟨rfl, rfl⟩
      go_wp2
      go_ret
      first | exact ⟨rfl, y, HY.out.2, O7.out.pick (L := [_, _, _, _, _, _]) [1, 2]⟩ | exact ⟨y, rfl, HY.out.2, O7.out.pick (L := [_, _, _, _, _, _]) [1, 2]⟩
end

section
variable {W0 w : World} {R : List SP} {g k : Nat} {x : Lg}
set_option maxRecDepth 100000 in
set_option maxHeartbeats 16000000 in
theorem does1_own (hx : x.Ok) (kd on ot om : Int) (Ae Ab : Option Addr) (ce cb : Nat) (oe : List E) (obb : List UInt8) (hE : EArg W0 Ae ce oe) (h64 : oe.length ≤ 64) (hB : obb.length ≤ cb ∧ cb ≤ maxLen ∧ obb.length ≤ 140737488351232 ∧ Rd W0 Ab (bts obb)) (hi : In64 kd ∧ In64 on ∧ In64 ot ∧ In64 om)
    (hk : kd = 1) (h : Own (fun _ => False) W0 w (SP.log 85 g x :: SP.log 88 k x :: R)) :
    Calls Try.prog 44 #[.pointer (some ⟨g, 0, none⟩), .pointer (some ⟨k, 0, none⟩), .agg #[.int .i64 kd, .int .i64 on, .int .i64 ot, .int .i64 om, .slice Ae oe.length ce, .slice Ab obb.length cb]] w fun e w' => ∃ y : Lg, e = .returned (.bool true) ∧ y.Ok ∧ Own (fun _ => False) W0 w' (SP.log 85 g y :: SP.log 88 k y :: R) := by
  obtain ⟨el, hel⟩ : ∃ el, oe.length = el := ⟨_, rfl⟩
  obtain ⟨bl, hbl⟩ : ∃ bl, obb.length = bl := ⟨_, rfl⟩
  have HX := Lib.hid hx
  have HE := Lib.hid hE
  have HB := Lib.hid hB
  have HI := Lib.hid hi
  have HL := Lib.hid (And.intro hel hbl)
  have hbl2 := hB.2.2.1
  have hbc := hB.1
  rw [hel] at h64 ⊢
  rw [hbl] at hbl2 hbc ⊢
  obtain ⟨q3, hq3⟩ : ∃ q3, w.heap.size = q3 := ⟨_, rfl⟩
  obtain ⟨q4, hq4⟩ : ∃ q4, q3 + 1 = q4 := ⟨_, rfl⟩
  obtain ⟨q5, hq5⟩ : ∃ q5, q4 + 1 = q5 := ⟨_, rfl⟩
  have o1 := ((h.alloc #[.pointer (some ⟨g, 0, none⟩)] 27).alloc #[.pointer (some ⟨k, 0, none⟩)] 31).alloc #[.int .i64 kd, .int .i64 on, .int .i64 ot, .int .i64 om, .slice Ae el ce, .slice Ab bl cb] 60
  simp only [World.size_alloc, hq3, hq4, hq5] at o1
  have HQ := Lib.hid (And.intro hq3 (And.intro hq4 hq5))
  have HO0 := Lib.hid (o1.pick (L := [_, _, _, _, _]) [3, 4, 2, 1, 0])
  have HCELL := Lib.hid (fun (W : World) (a b : SP) (R' : List SP) (o : Own (fun _ => False) W0 W (a :: b :: SP.blk q3 27 #[.pointer (some ⟨g, 0, none⟩)] :: SP.blk q4 31 #[.pointer (some ⟨k, 0, none⟩)] :: SP.blk q5 60 #[.int .i64 kd, .int .i64 on, .int .i64 ot, .int .i64 om, .slice Ae el ce, .slice Ab bl cb] :: R')) => show W.cell? ⟨q3, 0, none⟩ = some (.pointer (some ⟨g, 0, none⟩)) ∧ W.cell? ⟨q4, 0, none⟩ = some (.pointer (some ⟨k, 0, none⟩)) ∧ W.cell? ⟨q5, 0, none⟩ = some (.int .i64 kd) ∧ W.cell? ⟨q5, 1, none⟩ = some (.int .i64 on) ∧ W.cell? ⟨q5, 2, none⟩ = some (.int .i64 ot) ∧ W.cell? ⟨q5, 3, none⟩ = some (.int .i64 om) ∧ W.cell? ⟨q5, 4, none⟩ = some (.slice Ae el ce) ∧ W.cell? ⟨q5, 5, none⟩ = some (.slice Ab bl cb) from ⟨(o.pick (L := [_, _, _, _, _]) [2]).blk_cell 0, (o.pick (L := [_, _, _, _, _]) [3]).blk_cell 0, (o.pick (L := [_, _, _, _, _]) [4]).blk_cell 0, (o.pick (L := [_, _, _, _, _]) [4]).blk_cell 1, (o.pick (L := [_, _, _, _, _]) [4]).blk_cell 2, (o.pick (L := [_, _, _, _, _]) [4]).blk_cell 3, (o.pick (L := [_, _, _, _, _]) [4]).blk_cell 4, (o.pick (L := [_, _, _, _, _]) [4]).blk_cell 5⟩)
  have hk0 : (kd == 0) = false := by rw [beq_eq_false_iff_ne, hk]; decide
  have hk1 : (kd == 1) = true := by simp [hk]
  clear h o1 hx hE hB hi hel hbl hq3 hq4 hq5 hk
  go_enter Try.func44, Try.ntmps44
  go_upto_region 1 with (fail)
  simp only [World.size_alloc, HQ.out.1, HQ.out.2.1, HQ.out.2.2]
  obtain ⟨w1, hw1⟩ : ∃ W, ((w.alloc (.cells #[.pointer (some ⟨g, 0, none⟩)] 27)).alloc (.cells #[.pointer (some ⟨k, 0, none⟩)] 31)).alloc (.cells #[.int .i64 kd, .int .i64 on, .int .i64 ot, .int .i64 om, .slice Ae el ce, .slice Ab bl cb] 60) = W := ⟨_, rfl⟩
  have HO := HO0
  rw [hw1] at HO ⊢
  clear hw1 HO0
  obtain ⟨p3, p4, e0, e1, e2, e3, e4, e5⟩ := HCELL.out _ _ _ _ HO.out
  have HM := Lib.hid (may_own (A := Ae) (c := ce) HO.out (EReads.of_rd HE.out.2.2.2.1) (by rw [HL.out.1]; omega) (fun m hm => (HE.out.2.2.2.2 m hm).1) on ot)
  obtain ⟨mb, hmb⟩ : ∃ mb, mayB on ot oe = mb := ⟨_, rfl⟩
  rw [hmb, HL.out.1] at HM
  have HMB := Lib.hid hmb
  clear hmb
  go_wp2_with fail
  refine (HM.out).mono ?_
  rintro e w2 ⟨rfl, o2⟩
  have O2 := Lib.hid o2
  clear p3 p4 e0 e1 e2 e3 e4 e5
  obtain ⟨p3, p4, e0, e1, e2, e3, e4, e5⟩ := HCELL.out _ _ _ _ o2
  clear o2 HM HO
  cases mb with
  | false =>
    go_wp2
    go_ret
    first | exact ⟨rfl, x, HX.out, O2.out.pick (L := [_, _, _, _, _]) [0, 1]⟩ | exact ⟨x, rfl, HX.out, O2.out.pick (L := [_, _, _, _, _]) [0, 1]⟩
  | true =>
    have TR := Lib.hid (may_tried HMB.out)
    have hC := copies_own (c := ce) (A := Ae) (es := oe) (by rw [HL.out.1]; omega) (fun m hm => (HE.out.2.2.2.2 m hm).1) O2.out (EReads.of_rd HE.out.2.2.2.1)
    rw [HL.out.1] at hC
    have HC := Lib.hid hC
    clear hC HMB
    go_wp2_with fail
    refine (HC.out).mono ?_
    rintro e w3 ⟨A3, c3, rfl, o3⟩
    obtain ⟨_, _, ds, z, -, hcc1, hcc2, -⟩ := o3.ents_open
    rw [HL.out.1] at z hcc1
    cases z
    obtain ⟨⟨⟨t1, t2⟩, y⟩, hy⟩ : ∃ r, x.try_ on ot om oe = r := ⟨_, rfl⟩
    have hyo := try_isOk (t := ot) (c := om) HX.out TR.out.1
    have hin : In64 on := HI.out.2.1
    have hT := try_own (A := A3) (cap := c3) (es := oe) HX.out (o3.pick (L := [_, _]) [1, 0]) EReads.of_ents (by rw [HL.out.1]; exact hcc1) hcc2 (by rw [HL.out.1]; omega) on ot om hin TR.out.1
    rw [HL.out.1, hy] at hT
    rw [hy] at hyo
    have HT := Lib.hid hT
    have HY := Lib.hid (And.intro hy hyo)
    clear p3 p4 e0 e1 e2 e3 e4 e5
    obtain ⟨p3, p4, e0, e1, e2, e3, e4, e5⟩ := HCELL.out _ _ _ _ (o3.pick (L := [_, _, _, _, _, _]) [1, 2, 3, 4, 5])
    clear o3 hT hy hyo HC O2
    go_wp2_with fail
    refine (HT.out).mono ?_
    rintro e w4 ⟨rfl, o4⟩
    simp only at o4
    have hR := rtry_own (A := Ae) (cap := ce) (es := oe) HX.out (o4.pick (L := [_, _, _]) [2, 0, 1]) (EReads.of_rd HE.out.2.2.2.1) HE.out.1 HE.out.2.1 (by rw [HL.out.1]; omega) on ot om hin TR.out.1
    rw [HL.out.1, HY.out.1] at hR
    have HR := Lib.hid hR
    clear p3 p4 e0 e1 e2 e3 e4 e5
    obtain ⟨p3, p4, e0, e1, e2, e3, e4, e5⟩ := HCELL.out _ _ _ _ (o4.pick (L := [_, _, _, _, _, _]) [0, 2, 3, 4, 5])
    clear o4 hR HT
    go_wp2_with fail
    refine (HR.out).mono ?_
    rintro e w5 ⟨rfl, o5⟩
    simp only at o5
    have o6 := o5.pick (L := [_, _, _, _, _, _]) [2, 1, 0, 3, 4, 5]
    have hS := sameents_own (ca := c3) (cb := ce) (xs := oe) (ys := oe) o6 EReads.of_ents (EReads.of_rd HE.out.2.2.2.1) (by rw [HL.out.1]; omega) (fun m hm => (HE.out.2.2.2.2 m hm).1)
    rw [show decide (oe = oe) = true from decide_eq_true rfl, HL.out.1] at hS
    have HS := Lib.hid hS
    clear p3 p4 e0 e1 e2 e3 e4 e5
    obtain ⟨p3, p4, e0, e1, e2, e3, e4, e5⟩ := HCELL.out _ _ _ _ (o6.pick (L := [_, _, _, _, _, _]) [1, 2, 3, 4, 5])
    clear o5 o6 hS HR
    go_wp2_with fail
    refine (HS.out).mono ?_
    rintro e w6 ⟨rfl, o6⟩
    have HOv := Lib.hid (over_own HL.out.1 (by omega) (fun m hm => (HE.out.2.2.2.2 m hm).1) o6)
    clear p3 p4 e0 e1 e2 e3 e4 e5
    clear o6 HS
    go_wp2_with fail
    refine (HOv.out).mono ?_
    rintro e w7 ⟨⟨v, rfl⟩, o7⟩
    have O7 := Lib.hid o7
    have qq1 : (t1 == t1) = true := by simp
    have qq2 : (t2 == t2) = true := by simp
    clear o7 HOv
    go_wp2
    go_ret
    first | exact ⟨rfl, y, HY.out.2, O7.out.pick (L := [_, _, _, _, _]) [0, 1]⟩ | exact ⟨y, rfl, HY.out.2, O7.out.pick (L := [_, _, _, _, _]) [0, 1]⟩
end

section
variable {W0 w : World} {R : List SP} {g k : Nat} {x : Lg}
set_option maxRecDepth 100000 in
set_option maxHeartbeats 16000000 in
theorem does2_own (hx : x.Ok) (kd on ot om : Int) (Ae Ab : Option Addr) (ce cb : Nat) (oe : List E) (obb : List UInt8) (hE : EArg W0 Ae ce oe) (h64 : oe.length ≤ 64) (hB : obb.length ≤ cb ∧ cb ≤ maxLen ∧ obb.length ≤ 140737488351232 ∧ Rd W0 Ab (bts obb)) (hi : In64 kd ∧ In64 on ∧ In64 ot ∧ In64 om)
    (hk : kd = 2) (h : Own (fun _ => False) W0 w (SP.log 85 g x :: SP.log 88 k x :: R)) :
    Calls Try.prog 44 #[.pointer (some ⟨g, 0, none⟩), .pointer (some ⟨k, 0, none⟩), .agg #[.int .i64 kd, .int .i64 on, .int .i64 ot, .int .i64 om, .slice Ae oe.length ce, .slice Ab obb.length cb]] w fun e w' => ∃ y : Lg, e = .returned (.bool true) ∧ y.Ok ∧ Own (fun _ => False) W0 w' (SP.log 85 g y :: SP.log 88 k y :: R) := by
  obtain ⟨el, hel⟩ : ∃ el, oe.length = el := ⟨_, rfl⟩
  obtain ⟨bl, hbl⟩ : ∃ bl, obb.length = bl := ⟨_, rfl⟩
  have HX := Lib.hid hx
  have HE := Lib.hid hE
  have HB := Lib.hid hB
  have HI := Lib.hid hi
  have HL := Lib.hid (And.intro hel hbl)
  have hbl2 := hB.2.2.1
  have hbc := hB.1
  rw [hel] at h64 ⊢
  rw [hbl] at hbl2 hbc ⊢
  obtain ⟨q3, hq3⟩ : ∃ q3, w.heap.size = q3 := ⟨_, rfl⟩
  obtain ⟨q4, hq4⟩ : ∃ q4, q3 + 1 = q4 := ⟨_, rfl⟩
  obtain ⟨q5, hq5⟩ : ∃ q5, q4 + 1 = q5 := ⟨_, rfl⟩
  have o1 := ((h.alloc #[.pointer (some ⟨g, 0, none⟩)] 27).alloc #[.pointer (some ⟨k, 0, none⟩)] 31).alloc #[.int .i64 kd, .int .i64 on, .int .i64 ot, .int .i64 om, .slice Ae el ce, .slice Ab bl cb] 60
  simp only [World.size_alloc, hq3, hq4, hq5] at o1
  have HQ := Lib.hid (And.intro hq3 (And.intro hq4 hq5))
  have HO0 := Lib.hid (o1.pick (L := [_, _, _, _, _]) [3, 4, 2, 1, 0])
  have HCELL := Lib.hid (fun (W : World) (a b : SP) (R' : List SP) (o : Own (fun _ => False) W0 W (a :: b :: SP.blk q3 27 #[.pointer (some ⟨g, 0, none⟩)] :: SP.blk q4 31 #[.pointer (some ⟨k, 0, none⟩)] :: SP.blk q5 60 #[.int .i64 kd, .int .i64 on, .int .i64 ot, .int .i64 om, .slice Ae el ce, .slice Ab bl cb] :: R')) => show W.cell? ⟨q3, 0, none⟩ = some (.pointer (some ⟨g, 0, none⟩)) ∧ W.cell? ⟨q4, 0, none⟩ = some (.pointer (some ⟨k, 0, none⟩)) ∧ W.cell? ⟨q5, 0, none⟩ = some (.int .i64 kd) ∧ W.cell? ⟨q5, 1, none⟩ = some (.int .i64 on) ∧ W.cell? ⟨q5, 2, none⟩ = some (.int .i64 ot) ∧ W.cell? ⟨q5, 3, none⟩ = some (.int .i64 om) ∧ W.cell? ⟨q5, 4, none⟩ = some (.slice Ae el ce) ∧ W.cell? ⟨q5, 5, none⟩ = some (.slice Ab bl cb) from ⟨(o.pick (L := [_, _, _, _, _]) [2]).blk_cell 0, (o.pick (L := [_, _, _, _, _]) [3]).blk_cell 0, (o.pick (L := [_, _, _, _, _]) [4]).blk_cell 0, (o.pick (L := [_, _, _, _, _]) [4]).blk_cell 1, (o.pick (L := [_, _, _, _, _]) [4]).blk_cell 2, (o.pick (L := [_, _, _, _, _]) [4]).blk_cell 3, (o.pick (L := [_, _, _, _, _]) [4]).blk_cell 4, (o.pick (L := [_, _, _, _, _]) [4]).blk_cell 5⟩)
  have hk0 : (kd == 0) = false := by rw [beq_eq_false_iff_ne, hk]; decide
  have hk1 : (kd == 1) = false := by rw [beq_eq_false_iff_ne, hk]; decide
  have hk2 : (kd == 2) = true := by simp [hk]
  clear h o1 hx hE hB hi hel hbl hq3 hq4 hq5 hk
  go_enter Try.func44, Try.ntmps44
  go_upto_region 1 with (fail)
  simp only [World.size_alloc, HQ.out.1, HQ.out.2.1, HQ.out.2.2]
  obtain ⟨w1, hw1⟩ : ∃ W, ((w.alloc (.cells #[.pointer (some ⟨g, 0, none⟩)] 27)).alloc (.cells #[.pointer (some ⟨k, 0, none⟩)] 31)).alloc (.cells #[.int .i64 kd, .int .i64 on, .int .i64 ot, .int .i64 om, .slice Ae el ce, .slice Ab bl cb] 60) = W := ⟨_, rfl⟩
  have HO := HO0
  rw [hw1] at HO ⊢
  clear hw1 HO0
  obtain ⟨p3, p4, e0, e1, e2, e3, e4, e5⟩ := HCELL.out _ _ _ _ HO.out
  obtain ⟨⟨r, y⟩, hr⟩ : ∃ r, x.commit on = r := ⟨_, rfl⟩
  have hyo := commit_isOk HX.out on
  rw [hr] at hyo
  have HC1 := Lib.hid (fun (W : World) (o : Own (fun _ => False) W0 W (SP.log 85 g x :: SP.log 88 k x :: SP.blk q3 27 #[.pointer (some ⟨g, 0, none⟩)] :: SP.blk q4 31 #[.pointer (some ⟨k, 0, none⟩)] :: SP.blk q5 60 #[.int .i64 kd, .int .i64 on, .int .i64 ot, .int .i64 om, .slice Ae el ce, .slice Ab bl cb] :: R)) => show Calls Try.prog 36 #[.pointer (some ⟨g, 0, none⟩), .int .i64 on] W fun e w' => e = .returned (.bool r) ∧ Own (fun _ => False) W0 w' (SP.log 85 g y :: SP.log 88 k x :: SP.blk q3 27 #[.pointer (some ⟨g, 0, none⟩)] :: SP.blk q4 31 #[.pointer (some ⟨k, 0, none⟩)] :: SP.blk q5 60 #[.int .i64 kd, .int .i64 on, .int .i64 ot, .int .i64 om, .slice Ae el ce, .slice Ab bl cb] :: R) from by
    have := commit_own (by have := HX.out.len; omega) (fun j e h => (HX.out.idx j e h).1) o on
    rw [hr] at this
    exact this)
  have HC2 := Lib.hid (fun (W : World) (o : Own (fun _ => False) W0 W (SP.log 85 g y :: SP.log 88 k x :: SP.blk q3 27 #[.pointer (some ⟨g, 0, none⟩)] :: SP.blk q4 31 #[.pointer (some ⟨k, 0, none⟩)] :: SP.blk q5 60 #[.int .i64 kd, .int .i64 on, .int .i64 ot, .int .i64 om, .slice Ae el ce, .slice Ab bl cb] :: R)) => show Calls Try.prog 56 #[.pointer (some ⟨k, 0, none⟩), .int .i64 on] W fun e w' => e = .returned (.bool r) ∧ Own (fun _ => False) W0 w' (SP.log 85 g y :: SP.log 88 k y :: SP.blk q3 27 #[.pointer (some ⟨g, 0, none⟩)] :: SP.blk q4 31 #[.pointer (some ⟨k, 0, none⟩)] :: SP.blk q5 60 #[.int .i64 kd, .int .i64 on, .int .i64 ot, .int .i64 om, .slice Ae el ce, .slice Ab bl cb] :: R) from by
    have := rcommit_own HX.out o.swap on
    rw [hr] at this
    exact this.mono fun e w' ⟨h1, h2⟩ => ⟨h1, h2.swap⟩)
  have HYO := Lib.hid hyo
  clear hr hyo
  have HCS := Lib.hid (fun (W : World) (a b : SP) (R' : List SP) (o : Own (fun _ => False) W0 W (a :: b :: SP.blk q3 27 #[.pointer (some ⟨g, 0, none⟩)] :: SP.blk q4 31 #[.pointer (some ⟨k, 0, none⟩)] :: SP.blk q5 60 #[.int .i64 kd, .int .i64 on, .int .i64 ot, .int .i64 om, .slice Ae el ce, .slice Ab bl cb] :: R')) => show W.cell? ⟨q3, 0, none⟩ = some (.pointer (some ⟨g, 0, none⟩)) ∧ W.cell? ⟨q4, 0, none⟩ = some (.pointer (some ⟨k, 0, none⟩)) ∧ W.cell? ⟨q5, 1, none⟩ = some (.int .i64 on) from by
    obtain ⟨p3, p4, e0, e1, e2, e3, e4, e5⟩ := HCELL.out _ _ _ _ o
    exact ⟨p3, p4, e1⟩)
  go_upto_region 22 with (fail)
  go_region_held3 (fun W => W.cell? ⟨q3, 0, none⟩ = some (.pointer (some ⟨g, 0, none⟩)) ∧ W.cell? ⟨q4, 0, none⟩ = some (.pointer (some ⟨k, 0, none⟩)) ∧ W.cell? ⟨q5, 1, none⟩ = some (.int .i64 on))
    (first | go_keep | exact ⟨p3, p4, e1⟩ | exact K0.out | exact K1.out)
    (first
      | (refine step_callW 36 _ _ rfl Try.func36 (by kernel_rfl) (by kernel_rfl) #[.pointer (some ⟨g, 0, none⟩), .int .i64 on] (by rfl) (by rfl) ?_
         refine (HC1.out _ HO.out.drew).mono ?_
         rintro e w0a ⟨rfl, o0⟩
         refine ⟨_, rfl, ?_⟩
         have K0 := Lib.hid (HCS.out _ _ _ _ o0)
         have O0 := Lib.hid o0
         clear o0)
      | (refine step_callW 56 _ _ rfl Try.func56 (by kernel_rfl) (by kernel_rfl) #[.pointer (some ⟨k, 0, none⟩), .int .i64 on] (by rfl) (by rfl) ?_
         refine (HC2.out _ O0.out).mono ?_
         rintro e w1a ⟨rfl, o1⟩
         refine ⟨_, rfl, ?_⟩
         have K1 := Lib.hid (HCS.out _ _ _ _ o1)
         have O1 := Lib.hid o1
         clear o1))
  clear p3 p4 e0 e1 e2 e3 e4 e5
  go_wp2
  go_ret
  exact ⟨rfl, y, HYO.out, (O1.out.pick (L := [_, _, _, _, _]) [0, 1])⟩
end

theorem cut_small {x : Lg} (hx : x.Ok) (a b : Int) : (x.cut a b).length ≤ 10000 ∧ ∀ m, m ∈ x.cut a b → m.dat.length ≤ 140737488351232 := by
  unfold Lg.cut
  refine ⟨by rw [List.length_take, List.length_drop]; have := hx.len; omega, fun m hm => ?_⟩
  have := hx.dat m (List.mem_of_mem_drop (List.mem_of_mem_take hm))
  omega
section
variable {W0 w : World} {R : List SP} {g k : Nat} {x : Lg}
set_option maxRecDepth 100000 in
set_option maxHeartbeats 16000000 in
theorem does3_own (hx : x.Ok) (kd on ot om : Int) (Ae Ab : Option Addr) (ce cb : Nat) (oe : List E) (obb : List UInt8) (hE : EArg W0 Ae ce oe) (h64 : oe.length ≤ 64) (hB : obb.length ≤ cb ∧ cb ≤ maxLen ∧ obb.length ≤ 140737488351232 ∧ Rd W0 Ab (bts obb)) (hi : In64 kd ∧ In64 on ∧ In64 ot ∧ In64 om)
    (hk : kd = 3) (h : Own (fun _ => False) W0 w (SP.log 85 g x :: SP.log 88 k x :: R)) :
    Calls Try.prog 44 #[.pointer (some ⟨g, 0, none⟩), .pointer (some ⟨k, 0, none⟩), .agg #[.int .i64 kd, .int .i64 on, .int .i64 ot, .int .i64 om, .slice Ae oe.length ce, .slice Ab obb.length cb]] w fun e w' => ∃ y : Lg, e = .returned (.bool true) ∧ y.Ok ∧ Own (fun _ => False) W0 w' (SP.log 85 g y :: SP.log 88 k y :: R) := by
  obtain ⟨el, hel⟩ : ∃ el, oe.length = el := ⟨_, rfl⟩
  obtain ⟨bl, hbl⟩ : ∃ bl, obb.length = bl := ⟨_, rfl⟩
  have HX := Lib.hid hx
  have HE := Lib.hid hE
  have HB := Lib.hid hB
  have HI := Lib.hid hi
  have HL := Lib.hid (And.intro hel hbl)
  have hbl2 := hB.2.2.1
  have hbc := hB.1
  rw [hel] at h64 ⊢
  rw [hbl] at hbl2 hbc ⊢
  obtain ⟨q3, hq3⟩ : ∃ q3, w.heap.size = q3 := ⟨_, rfl⟩
  obtain ⟨q4, hq4⟩ : ∃ q4, q3 + 1 = q4 := ⟨_, rfl⟩
  obtain ⟨q5, hq5⟩ : ∃ q5, q4 + 1 = q5 := ⟨_, rfl⟩
  have o1 := ((h.alloc #[.pointer (some ⟨g, 0, none⟩)] 27).alloc #[.pointer (some ⟨k, 0, none⟩)] 31).alloc #[.int .i64 kd, .int .i64 on, .int .i64 ot, .int .i64 om, .slice Ae el ce, .slice Ab bl cb] 60
  simp only [World.size_alloc, hq3, hq4, hq5] at o1
  have HQ := Lib.hid (And.intro hq3 (And.intro hq4 hq5))
  have HO0 := Lib.hid (o1.pick (L := [_, _, _, _, _]) [3, 4, 2, 1, 0])
  have HCELL := Lib.hid (fun (W : World) (a b : SP) (R' : List SP) (o : Own (fun _ => False) W0 W (a :: b :: SP.blk q3 27 #[.pointer (some ⟨g, 0, none⟩)] :: SP.blk q4 31 #[.pointer (some ⟨k, 0, none⟩)] :: SP.blk q5 60 #[.int .i64 kd, .int .i64 on, .int .i64 ot, .int .i64 om, .slice Ae el ce, .slice Ab bl cb] :: R')) => show W.cell? ⟨q3, 0, none⟩ = some (.pointer (some ⟨g, 0, none⟩)) ∧ W.cell? ⟨q4, 0, none⟩ = some (.pointer (some ⟨k, 0, none⟩)) ∧ W.cell? ⟨q5, 0, none⟩ = some (.int .i64 kd) ∧ W.cell? ⟨q5, 1, none⟩ = some (.int .i64 on) ∧ W.cell? ⟨q5, 2, none⟩ = some (.int .i64 ot) ∧ W.cell? ⟨q5, 3, none⟩ = some (.int .i64 om) ∧ W.cell? ⟨q5, 4, none⟩ = some (.slice Ae el ce) ∧ W.cell? ⟨q5, 5, none⟩ = some (.slice Ab bl cb) from ⟨(o.pick (L := [_, _, _, _, _]) [2]).blk_cell 0, (o.pick (L := [_, _, _, _, _]) [3]).blk_cell 0, (o.pick (L := [_, _, _, _, _]) [4]).blk_cell 0, (o.pick (L := [_, _, _, _, _]) [4]).blk_cell 1, (o.pick (L := [_, _, _, _, _]) [4]).blk_cell 2, (o.pick (L := [_, _, _, _, _]) [4]).blk_cell 3, (o.pick (L := [_, _, _, _, _]) [4]).blk_cell 4, (o.pick (L := [_, _, _, _, _]) [4]).blk_cell 5⟩)
  have hk0 : (kd == 0) = false := by rw [beq_eq_false_iff_ne, hk]; decide
  have hk1 : (kd == 1) = false := by rw [beq_eq_false_iff_ne, hk]; decide
  have hk2 : (kd == 2) = false := by rw [beq_eq_false_iff_ne, hk]; decide
  have hk3 : (kd == 3) = true := by simp [hk]
  have hk5' : (kd == 5) = false := by rw [hk]; decide
  clear h o1 hx hE hB hi hel hbl hq3 hq4 hq5 hk
  go_enter Try.func44, Try.ntmps44
  go_upto_region 1 with (fail)
  simp only [World.size_alloc, HQ.out.1, HQ.out.2.1, HQ.out.2.2]
  obtain ⟨w1, hw1⟩ : ∃ W, ((w.alloc (.cells #[.pointer (some ⟨g, 0, none⟩)] 27)).alloc (.cells #[.pointer (some ⟨k, 0, none⟩)] 31)).alloc (.cells #[.int .i64 kd, .int .i64 on, .int .i64 ot, .int .i64 om, .slice Ae el ce, .slice Ab bl cb] 60) = W := ⟨_, rfl⟩
  have HO := HO0
  rw [hw1] at HO ⊢
  clear hw1 HO0
  obtain ⟨p3, p4, e0, e1, e2, e3, e4, e5⟩ := HCELL.out _ _ _ _ HO.out
  obtain ⟨⟨NX, y⟩, hy⟩ : ∃ r, x.hand = r := ⟨_, rfl⟩
  have hyo := hand_isOk HX.out
  have hnd : NX.length ≤ 10000 ∧ ∀ m, m ∈ NX → m.dat.length ≤ 140737488351232 := by
    have h1 := (show (x.hand.1).length ≤ 10000 ∧ ∀ m, m ∈ x.hand.1 → m.dat.length ≤ 140737488351232 from cut_small HX.out _ _)
    rw [hy] at h1
    exact h1
  rw [hy] at hyo
  obtain ⟨nl, hnl⟩ : ∃ nl, NX.length = nl := ⟨_, rfl⟩
  have HC1 := Lib.hid (fun (W : World) (o : Own (fun _ => False) W0 W (SP.log 85 g x :: SP.log 88 k x :: SP.blk q3 27 #[.pointer (some ⟨g, 0, none⟩)] :: SP.blk q4 31 #[.pointer (some ⟨k, 0, none⟩)] :: SP.blk q5 60 #[.int .i64 kd, .int .i64 on, .int .i64 ot, .int .i64 om, .slice Ae el ce, .slice Ab bl cb] :: R)) => show Calls Try.prog 33 #[.pointer (some ⟨g, 0, none⟩)] W fun e w' => ∃ A' c', e = .returned (.slice A' nl c') ∧ Own (fun _ => False) W0 w' (SP.ents 26 (.slice A' nl c') NX :: SP.log 85 g y :: SP.log 88 k x :: SP.blk q3 27 #[.pointer (some ⟨g, 0, none⟩)] :: SP.blk q4 31 #[.pointer (some ⟨k, 0, none⟩)] :: SP.blk q5 60 #[.int .i64 kd, .int .i64 on, .int .i64 ot, .int .i64 om, .slice Ae el ce, .slice Ab bl cb] :: R) from by
    have := hand_own HX.out o
    rw [hy] at this
    simp only [hnl] at this
    exact this)
  have HC2 := Lib.hid (fun (W : World) (A1 : Option Addr) (c1 : Nat) (o : Own (fun _ => False) W0 W (SP.ents 26 (.slice A1 nl c1) NX :: SP.log 85 g y :: SP.log 88 k x :: SP.blk q3 27 #[.pointer (some ⟨g, 0, none⟩)] :: SP.blk q4 31 #[.pointer (some ⟨k, 0, none⟩)] :: SP.blk q5 60 #[.int .i64 kd, .int .i64 on, .int .i64 ot, .int .i64 om, .slice Ae el ce, .slice Ab bl cb] :: R)) => show Calls Try.prog 64 #[.pointer (some ⟨k, 0, none⟩)] W fun e w' => ∃ A' c', e = .returned (.slice A' nl c') ∧ Own (fun _ => False) W0 w' (SP.ents 26 (.slice A' nl c') NX :: SP.ents 26 (.slice A1 nl c1) NX :: SP.log 85 g y :: SP.log 88 k y :: SP.blk q3 27 #[.pointer (some ⟨g, 0, none⟩)] :: SP.blk q4 31 #[.pointer (some ⟨k, 0, none⟩)] :: SP.blk q5 60 #[.int .i64 kd, .int .i64 on, .int .i64 ot, .int .i64 om, .slice Ae el ce, .slice Ab bl cb] :: R) from by
    have := rhand_own HX.out (o.pick (L := [_, _, _]) [2, 0, 1])
    rw [hy] at this
    simp only [hnl] at this
    exact this.mono fun e w' ⟨A', c', h1, h2⟩ => ⟨A', c', h1, h2.pick (L := [_, _, _, _]) [0, 2, 3, 1]⟩)
  have HY := Lib.hid (And.intro hyo (And.intro hnd hnl))
  clear hy hyo hnd hnl
  go_wp2_with fail
  refine (HC1.out _ HO.out).mono ?_
  rintro e w2 ⟨A2, c2, rfl, o2⟩
  have HR := Lib.hid (HC2.out _ _ _ o2)
  clear p3 p4 e0 e1 e2 e3 e4 e5
  clear o2 HC1 HO HC2
  go_wp2_with fail
  refine (HR.out).mono ?_
  rintro e w3 ⟨A3, c3, rfl, o3⟩
  clear HR
  have hS := sameents_own (ca := c2) (cb := c3) (xs := NX) (ys := NX) o3 (EReads.of_ents.more [_]) EReads.of_ents (by rw [HY.out.2.2]; have := HY.out.2.1.1; rw [HY.out.2.2] at this; omega) HY.out.2.1.2
  rw [show decide (NX = NX) = true from decide_eq_true rfl, HY.out.2.2] at hS
  have HS := Lib.hid hS
  clear o3 hS
  go_wp2_with fail
  refine (HS.out).mono ?_
  rintro e w4 ⟨rfl, o4⟩
  have HOv := Lib.hid (over_own HY.out.2.2 (by have := HY.out.2.1.1; rw [HY.out.2.2] at this; omega) HY.out.2.1.2 o4.pop)
  clear o4 HS
  go_wp2_with fail
  refine (HOv.out).mono ?_
  rintro e w5 ⟨⟨v, rfl⟩, o5⟩
  have O5 := Lib.hid o5
  clear o5 HOv
  go_wp2
  go_ret
  first | exact ⟨rfl, y, HY.out.1, O5.out.pick (L := [_, _, _, _, _]) [0, 1]⟩ | exact ⟨y, rfl, HY.out.1, O5.out.pick (L := [_, _, _, _, _]) [0, 1]⟩
end

section
variable {W0 w : World} {R : List SP} {g k : Nat} {x : Lg}
set_option maxRecDepth 100000 in
set_option maxHeartbeats 16000000 in
theorem does4_own (hx : x.Ok) (kd on ot om : Int) (Ae Ab : Option Addr) (ce cb : Nat) (oe : List E) (obb : List UInt8) (hE : EArg W0 Ae ce oe) (h64 : oe.length ≤ 64) (hB : obb.length ≤ cb ∧ cb ≤ maxLen ∧ obb.length ≤ 140737488351232 ∧ Rd W0 Ab (bts obb)) (hi : In64 kd ∧ In64 on ∧ In64 ot ∧ In64 om)
    (hk : kd = 4) (h : Own (fun _ => False) W0 w (SP.log 85 g x :: SP.log 88 k x :: R)) :
    Calls Try.prog 44 #[.pointer (some ⟨g, 0, none⟩), .pointer (some ⟨k, 0, none⟩), .agg #[.int .i64 kd, .int .i64 on, .int .i64 ot, .int .i64 om, .slice Ae oe.length ce, .slice Ab obb.length cb]] w fun e w' => ∃ y : Lg, e = .returned (.bool true) ∧ y.Ok ∧ Own (fun _ => False) W0 w' (SP.log 85 g y :: SP.log 88 k y :: R) := by
  obtain ⟨el, hel⟩ : ∃ el, oe.length = el := ⟨_, rfl⟩
  obtain ⟨bl, hbl⟩ : ∃ bl, obb.length = bl := ⟨_, rfl⟩
  have HX := Lib.hid hx
  have HE := Lib.hid hE
  have HB := Lib.hid hB
  have HI := Lib.hid hi
  have HL := Lib.hid (And.intro hel hbl)
  have hbl2 := hB.2.2.1
  have hbc := hB.1
  rw [hel] at h64 ⊢
  rw [hbl] at hbl2 hbc ⊢
  obtain ⟨q3, hq3⟩ : ∃ q3, w.heap.size = q3 := ⟨_, rfl⟩
  obtain ⟨q4, hq4⟩ : ∃ q4, q3 + 1 = q4 := ⟨_, rfl⟩
  obtain ⟨q5, hq5⟩ : ∃ q5, q4 + 1 = q5 := ⟨_, rfl⟩
  have o1 := ((h.alloc #[.pointer (some ⟨g, 0, none⟩)] 27).alloc #[.pointer (some ⟨k, 0, none⟩)] 31).alloc #[.int .i64 kd, .int .i64 on, .int .i64 ot, .int .i64 om, .slice Ae el ce, .slice Ab bl cb] 60
  simp only [World.size_alloc, hq3, hq4, hq5] at o1
  have HQ := Lib.hid (And.intro hq3 (And.intro hq4 hq5))
  have HO0 := Lib.hid (o1.pick (L := [_, _, _, _, _]) [3, 4, 2, 1, 0])
  have HCELL := Lib.hid (fun (W : World) (a b : SP) (R' : List SP) (o : Own (fun _ => False) W0 W (a :: b :: SP.blk q3 27 #[.pointer (some ⟨g, 0, none⟩)] :: SP.blk q4 31 #[.pointer (some ⟨k, 0, none⟩)] :: SP.blk q5 60 #[.int .i64 kd, .int .i64 on, .int .i64 ot, .int .i64 om, .slice Ae el ce, .slice Ab bl cb] :: R')) => show W.cell? ⟨q3, 0, none⟩ = some (.pointer (some ⟨g, 0, none⟩)) ∧ W.cell? ⟨q4, 0, none⟩ = some (.pointer (some ⟨k, 0, none⟩)) ∧ W.cell? ⟨q5, 0, none⟩ = some (.int .i64 kd) ∧ W.cell? ⟨q5, 1, none⟩ = some (.int .i64 on) ∧ W.cell? ⟨q5, 2, none⟩ = some (.int .i64 ot) ∧ W.cell? ⟨q5, 3, none⟩ = some (.int .i64 om) ∧ W.cell? ⟨q5, 4, none⟩ = some (.slice Ae el ce) ∧ W.cell? ⟨q5, 5, none⟩ = some (.slice Ab bl cb) from ⟨(o.pick (L := [_, _, _, _, _]) [2]).blk_cell 0, (o.pick (L := [_, _, _, _, _]) [3]).blk_cell 0, (o.pick (L := [_, _, _, _, _]) [4]).blk_cell 0, (o.pick (L := [_, _, _, _, _]) [4]).blk_cell 1, (o.pick (L := [_, _, _, _, _]) [4]).blk_cell 2, (o.pick (L := [_, _, _, _, _]) [4]).blk_cell 3, (o.pick (L := [_, _, _, _, _]) [4]).blk_cell 4, (o.pick (L := [_, _, _, _, _]) [4]).blk_cell 5⟩)
  have hk0 : (kd == 0) = false := by rw [beq_eq_false_iff_ne, hk]; decide
  have hk1 : (kd == 1) = false := by rw [beq_eq_false_iff_ne, hk]; decide
  have hk2 : (kd == 2) = false := by rw [beq_eq_false_iff_ne, hk]; decide
  have hk3 : (kd == 3) = false := by rw [beq_eq_false_iff_ne, hk]; decide
  have hk4 : (kd == 4) = true := by simp [hk]
  clear h o1 hx hE hB hi hel hbl hq3 hq4 hq5 hk
  go_enter Try.func44, Try.ntmps44
  go_upto_region 1 with (fail)
  simp only [World.size_alloc, HQ.out.1, HQ.out.2.1, HQ.out.2.2]
  obtain ⟨w1, hw1⟩ : ∃ W, ((w.alloc (.cells #[.pointer (some ⟨g, 0, none⟩)] 27)).alloc (.cells #[.pointer (some ⟨k, 0, none⟩)] 31)).alloc (.cells #[.int .i64 kd, .int .i64 on, .int .i64 ot, .int .i64 om, .slice Ae el ce, .slice Ab bl cb] 60) = W := ⟨_, rfl⟩
  have HO := HO0
  rw [hw1] at HO ⊢
  clear hw1 HO0
  obtain ⟨p3, p4, e0, e1, e2, e3, e4, e5⟩ := HCELL.out _ _ _ _ HO.out
  obtain ⟨⟨r, y⟩, hr⟩ : ∃ r, x.stable on ot = r := ⟨_, rfl⟩
  have hyo := stable_isOk HX.out on ot
  rw [hr] at hyo
  have HC1 := Lib.hid (fun (W : World) (o : Own (fun _ => False) W0 W (SP.log 85 g x :: SP.log 88 k x :: SP.blk q3 27 #[.pointer (some ⟨g, 0, none⟩)] :: SP.blk q4 31 #[.pointer (some ⟨k, 0, none⟩)] :: SP.blk q5 60 #[.int .i64 kd, .int .i64 on, .int .i64 ot, .int .i64 om, .slice Ae el ce, .slice Ab bl cb] :: R)) => show Calls Try.prog 37 #[.pointer (some ⟨g, 0, none⟩), .int .i64 on, .int .i64 ot] W fun e w' => e = .returned (.bool r) ∧ Own (fun _ => False) W0 w' (SP.log 85 g y :: SP.log 88 k x :: SP.blk q3 27 #[.pointer (some ⟨g, 0, none⟩)] :: SP.blk q4 31 #[.pointer (some ⟨k, 0, none⟩)] :: SP.blk q5 60 #[.int .i64 kd, .int .i64 on, .int .i64 ot, .int .i64 om, .slice Ae el ce, .slice Ab bl cb] :: R) from by
    have := stable_own HX.out o on ot HI.out.2.1
    rw [hr] at this
    exact this)
  have HC2 := Lib.hid (fun (W : World) (o : Own (fun _ => False) W0 W (SP.log 85 g y :: SP.log 88 k x :: SP.blk q3 27 #[.pointer (some ⟨g, 0, none⟩)] :: SP.blk q4 31 #[.pointer (some ⟨k, 0, none⟩)] :: SP.blk q5 60 #[.int .i64 kd, .int .i64 on, .int .i64 ot, .int .i64 om, .slice Ae el ce, .slice Ab bl cb] :: R)) => show Calls Try.prog 68 #[.pointer (some ⟨k, 0, none⟩), .int .i64 on, .int .i64 ot] W fun e w' => e = .returned (.bool r) ∧ Own (fun _ => False) W0 w' (SP.log 85 g y :: SP.log 88 k y :: SP.blk q3 27 #[.pointer (some ⟨g, 0, none⟩)] :: SP.blk q4 31 #[.pointer (some ⟨k, 0, none⟩)] :: SP.blk q5 60 #[.int .i64 kd, .int .i64 on, .int .i64 ot, .int .i64 om, .slice Ae el ce, .slice Ab bl cb] :: R) from by
    have := rsync_own HX.out o.swap on ot HI.out.2.1
    rw [hr] at this
    exact this.mono fun e w' ⟨h1, h2⟩ => ⟨h1, h2.swap⟩)
  have HYO := Lib.hid hyo
  clear hr hyo
  have HCS := Lib.hid (fun (W : World) (a b : SP) (R' : List SP) (o : Own (fun _ => False) W0 W (a :: b :: SP.blk q3 27 #[.pointer (some ⟨g, 0, none⟩)] :: SP.blk q4 31 #[.pointer (some ⟨k, 0, none⟩)] :: SP.blk q5 60 #[.int .i64 kd, .int .i64 on, .int .i64 ot, .int .i64 om, .slice Ae el ce, .slice Ab bl cb] :: R')) => show W.cell? ⟨q3, 0, none⟩ = some (.pointer (some ⟨g, 0, none⟩)) ∧ W.cell? ⟨q4, 0, none⟩ = some (.pointer (some ⟨k, 0, none⟩)) ∧ W.cell? ⟨q5, 1, none⟩ = some (.int .i64 on) ∧ W.cell? ⟨q5, 2, none⟩ = some (.int .i64 ot) from by
    obtain ⟨p3, p4, e0, e1, e2, e3, e4, e5⟩ := HCELL.out _ _ _ _ o
    exact ⟨p3, p4, e1, e2⟩)
  go_upto_region 35 with (fail)
  go_region_held3 (fun W => W.cell? ⟨q3, 0, none⟩ = some (.pointer (some ⟨g, 0, none⟩)) ∧ W.cell? ⟨q4, 0, none⟩ = some (.pointer (some ⟨k, 0, none⟩)) ∧ W.cell? ⟨q5, 1, none⟩ = some (.int .i64 on) ∧ W.cell? ⟨q5, 2, none⟩ = some (.int .i64 ot))
    (first | go_keep | exact ⟨p3, p4, e1, e2⟩ | exact K0.out | exact K1.out)
    (first
      | (refine step_callW 37 _ _ rfl Try.func37 (by kernel_rfl) (by kernel_rfl) #[.pointer (some ⟨g, 0, none⟩), .int .i64 on, .int .i64 ot] (by rfl) (by rfl) ?_
         refine (HC1.out _ HO.out.drew).mono ?_
         rintro e w0a ⟨rfl, o0⟩
         refine ⟨_, rfl, ?_⟩
         have K0 := Lib.hid (HCS.out _ _ _ _ o0)
         have O0 := Lib.hid o0
         clear o0)
      | (refine step_callW 68 _ _ rfl Try.func68 (by kernel_rfl) (by kernel_rfl) #[.pointer (some ⟨k, 0, none⟩), .int .i64 on, .int .i64 ot] (by rfl) (by rfl) ?_
         refine (HC2.out _ O0.out).mono ?_
         rintro e w1a ⟨rfl, o1⟩
         refine ⟨_, rfl, ?_⟩
         have K1 := Lib.hid (HCS.out _ _ _ _ o1)
         have O1 := Lib.hid o1
         clear o1))
  clear p3 p4 e0 e1 e2 e3 e4 e5
  go_wp2
  go_ret
  exact ⟨rfl, y, HYO.out, (O1.out.pick (L := [_, _, _, _, _]) [0, 1])⟩
end

theorem cut_small5 {x : Lg} (hx : x.Ok) (a b : Int) : (x.cut a b).length ≤ 10000 ∧ ∀ m, m ∈ x.cut a b → m.dat.length ≤ 140737488351232 := by
  unfold Lg.cut
  refine ⟨by rw [List.length_take, List.length_drop]; have := hx.len; omega, fun m hm => ?_⟩
  have := hx.dat m (List.mem_of_mem_drop (List.mem_of_mem_take hm))
  omega
section
variable {W0 w : World} {R : List SP} {g k : Nat} {x : Lg}
set_option maxRecDepth 100000 in
set_option maxHeartbeats 16000000 in
theorem does5_own (hx : x.Ok) (kd on ot om : Int) (Ae Ab : Option Addr) (ce cb : Nat) (oe : List E) (obb : List UInt8) (hE : EArg W0 Ae ce oe) (h64 : oe.length ≤ 64) (hB : obb.length ≤ cb ∧ cb ≤ maxLen ∧ obb.length ≤ 140737488351232 ∧ Rd W0 Ab (bts obb)) (hi : In64 kd ∧ In64 on ∧ In64 ot ∧ In64 om)
    (hk : kd = 5) (h : Own (fun _ => False) W0 w (SP.log 85 g x :: SP.log 88 k x :: R)) :
    Calls Try.prog 44 #[.pointer (some ⟨g, 0, none⟩), .pointer (some ⟨k, 0, none⟩), .agg #[.int .i64 kd, .int .i64 on, .int .i64 ot, .int .i64 om, .slice Ae oe.length ce, .slice Ab obb.length cb]] w fun e w' => ∃ y : Lg, e = .returned (.bool true) ∧ y.Ok ∧ Own (fun _ => False) W0 w' (SP.log 85 g y :: SP.log 88 k y :: R) := by
  obtain ⟨el, hel⟩ : ∃ el, oe.length = el := ⟨_, rfl⟩
  obtain ⟨bl, hbl⟩ : ∃ bl, obb.length = bl := ⟨_, rfl⟩
  have HX := Lib.hid hx
  have HE := Lib.hid hE
  have HB := Lib.hid hB
  have HI := Lib.hid hi
  have HL := Lib.hid (And.intro hel hbl)
  have hbl2 := hB.2.2.1
  have hbc := hB.1
  rw [hel] at h64 ⊢
  rw [hbl] at hbl2 hbc ⊢
  obtain ⟨q3, hq3⟩ : ∃ q3, w.heap.size = q3 := ⟨_, rfl⟩
  obtain ⟨q4, hq4⟩ : ∃ q4, q3 + 1 = q4 := ⟨_, rfl⟩
  obtain ⟨q5, hq5⟩ : ∃ q5, q4 + 1 = q5 := ⟨_, rfl⟩
  have o1 := ((h.alloc #[.pointer (some ⟨g, 0, none⟩)] 27).alloc #[.pointer (some ⟨k, 0, none⟩)] 31).alloc #[.int .i64 kd, .int .i64 on, .int .i64 ot, .int .i64 om, .slice Ae el ce, .slice Ab bl cb] 60
  simp only [World.size_alloc, hq3, hq4, hq5] at o1
  have HQ := Lib.hid (And.intro hq3 (And.intro hq4 hq5))
  have HO0 := Lib.hid (o1.pick (L := [_, _, _, _, _]) [3, 4, 2, 1, 0])
  have HCELL := Lib.hid (fun (W : World) (a b : SP) (R' : List SP) (o : Own (fun _ => False) W0 W (a :: b :: SP.blk q3 27 #[.pointer (some ⟨g, 0, none⟩)] :: SP.blk q4 31 #[.pointer (some ⟨k, 0, none⟩)] :: SP.blk q5 60 #[.int .i64 kd, .int .i64 on, .int .i64 ot, .int .i64 om, .slice Ae el ce, .slice Ab bl cb] :: R')) => show W.cell? ⟨q3, 0, none⟩ = some (.pointer (some ⟨g, 0, none⟩)) ∧ W.cell? ⟨q4, 0, none⟩ = some (.pointer (some ⟨k, 0, none⟩)) ∧ W.cell? ⟨q5, 0, none⟩ = some (.int .i64 kd) ∧ W.cell? ⟨q5, 1, none⟩ = some (.int .i64 on) ∧ W.cell? ⟨q5, 2, none⟩ = some (.int .i64 ot) ∧ W.cell? ⟨q5, 3, none⟩ = some (.int .i64 om) ∧ W.cell? ⟨q5, 4, none⟩ = some (.slice Ae el ce) ∧ W.cell? ⟨q5, 5, none⟩ = some (.slice Ab bl cb) from ⟨(o.pick (L := [_, _, _, _, _]) [2]).blk_cell 0, (o.pick (L := [_, _, _, _, _]) [3]).blk_cell 0, (o.pick (L := [_, _, _, _, _]) [4]).blk_cell 0, (o.pick (L := [_, _, _, _, _]) [4]).blk_cell 1, (o.pick (L := [_, _, _, _, _]) [4]).blk_cell 2, (o.pick (L := [_, _, _, _, _]) [4]).blk_cell 3, (o.pick (L := [_, _, _, _, _]) [4]).blk_cell 4, (o.pick (L := [_, _, _, _, _]) [4]).blk_cell 5⟩)
  have hk0 : (kd == 0) = false := by rw [beq_eq_false_iff_ne, hk]; decide
  have hk1 : (kd == 1) = false := by rw [beq_eq_false_iff_ne, hk]; decide
  have hk2 : (kd == 2) = false := by rw [beq_eq_false_iff_ne, hk]; decide
  have hk3 : (kd == 3) = false := by rw [beq_eq_false_iff_ne, hk]; decide
  have hk4 : (kd == 4) = false := by rw [beq_eq_false_iff_ne, hk]; decide
  have hk5 : (kd == 5) = true := by simp [hk]
  clear h o1 hx hE hB hi hel hbl hq3 hq4 hq5 hk
  go_enter Try.func44, Try.ntmps44
  go_upto_region 1 with (fail)
  simp only [World.size_alloc, HQ.out.1, HQ.out.2.1, HQ.out.2.2]
  obtain ⟨w1, hw1⟩ : ∃ W, ((w.alloc (.cells #[.pointer (some ⟨g, 0, none⟩)] 27)).alloc (.cells #[.pointer (some ⟨k, 0, none⟩)] 31)).alloc (.cells #[.int .i64 kd, .int .i64 on, .int .i64 ot, .int .i64 om, .slice Ae el ce, .slice Ab bl cb] 60) = W := ⟨_, rfl⟩
  have HO := HO0
  rw [hw1] at HO ⊢
  clear hw1 HO0
  obtain ⟨p3, p4, e0, e1, e2, e3, e4, e5⟩ := HCELL.out _ _ _ _ HO.out
  obtain ⟨⟨NX, y⟩, hy⟩ : ∃ r, x.next on = r := ⟨_, rfl⟩
  have hyo := next_isOk HX.out on
  have hnd : NX.length ≤ 10000 ∧ ∀ m, m ∈ NX → m.dat.length ≤ 140737488351232 := by
    have h1 := (show ((x.next on).1).length ≤ 10000 ∧ ∀ m, m ∈ (x.next on).1 → m.dat.length ≤ 140737488351232 from cut_small5 HX.out _ _)
    rw [hy] at h1
    exact h1
  rw [hy] at hyo
  obtain ⟨nl, hnl⟩ : ∃ nl, NX.length = nl := ⟨_, rfl⟩
  have HC1 := Lib.hid (fun (W : World) (o : Own (fun _ => False) W0 W (SP.log 85 g x :: SP.log 88 k x :: SP.blk q3 27 #[.pointer (some ⟨g, 0, none⟩)] :: SP.blk q4 31 #[.pointer (some ⟨k, 0, none⟩)] :: SP.blk q5 60 #[.int .i64 kd, .int .i64 on, .int .i64 ot, .int .i64 om, .slice Ae el ce, .slice Ab bl cb] :: R)) => show Calls Try.prog 38 #[.pointer (some ⟨g, 0, none⟩), .int .i64 on] W fun e w' => ∃ A' c', e = .returned (.slice A' nl c') ∧ Own (fun _ => False) W0 w' (SP.ents 26 (.slice A' nl c') NX :: SP.log 85 g y :: SP.log 88 k x :: SP.blk q3 27 #[.pointer (some ⟨g, 0, none⟩)] :: SP.blk q4 31 #[.pointer (some ⟨k, 0, none⟩)] :: SP.blk q5 60 #[.int .i64 kd, .int .i64 on, .int .i64 ot, .int .i64 om, .slice Ae el ce, .slice Ab bl cb] :: R) from by
    have := next_own HX.out o on HI.out.2.1
    rw [hy] at this
    simp only [hnl] at this
    exact this)
  have HC2 := Lib.hid (fun (W : World) (A1 : Option Addr) (c1 : Nat) (o : Own (fun _ => False) W0 W (SP.ents 26 (.slice A1 nl c1) NX :: SP.log 85 g y :: SP.log 88 k x :: SP.blk q3 27 #[.pointer (some ⟨g, 0, none⟩)] :: SP.blk q4 31 #[.pointer (some ⟨k, 0, none⟩)] :: SP.blk q5 60 #[.int .i64 kd, .int .i64 on, .int .i64 ot, .int .i64 om, .slice Ae el ce, .slice Ab bl cb] :: R)) => show Calls Try.prog 67 #[.pointer (some ⟨k, 0, none⟩), .int .i64 on] W fun e w' => ∃ A' c', e = .returned (.slice A' nl c') ∧ Own (fun _ => False) W0 w' (SP.ents 26 (.slice A' nl c') NX :: SP.ents 26 (.slice A1 nl c1) NX :: SP.log 85 g y :: SP.log 88 k y :: SP.blk q3 27 #[.pointer (some ⟨g, 0, none⟩)] :: SP.blk q4 31 #[.pointer (some ⟨k, 0, none⟩)] :: SP.blk q5 60 #[.int .i64 kd, .int .i64 on, .int .i64 ot, .int .i64 om, .slice Ae el ce, .slice Ab bl cb] :: R) from by
    have := rnext_own HX.out (o.pick (L := [_, _, _]) [2, 0, 1]) on HI.out.2.1
    rw [hy] at this
    simp only [hnl] at this
    exact this.mono fun e w' ⟨A', c', h1, h2⟩ => ⟨A', c', h1, h2.pick (L := [_, _, _, _]) [0, 2, 3, 1]⟩)
  have HY := Lib.hid (And.intro hyo (And.intro hnd hnl))
  clear hy hyo hnd hnl
  have HD1 := Lib.hid (show Calls Try.prog 65 #[.pointer (some ⟨q3, 0, none⟩), .pointer (some ⟨q5, 0, none⟩)] w1 fun e w' => ∃ A' c', e = .returned (.slice A' nl c') ∧ Own (fun _ => False) W0 w' (SP.ents 26 (.slice A' nl c') NX :: SP.log 85 g y :: SP.log 88 k x :: SP.blk q3 27 #[.pointer (some ⟨g, 0, none⟩)] :: SP.blk q4 31 #[.pointer (some ⟨k, 0, none⟩)] :: SP.blk q5 60 #[.int .i64 kd, .int .i64 on, .int .i64 ot, .int .i64 om, .slice Ae el ce, .slice Ab bl cb] :: R) from by
    clear hk0 hk1 hk2 hk3 hk4 hk5
    go_enter Try.func65, Try.ntmps65
    go_wp2_with fail
    refine (HC1.out _ HO.out).mono ?_
    rintro e w2 ⟨A2, c2, rfl, o2⟩
    have O2 := Lib.hid o2
    clear o2
    go_wp2
    go_ret
    exact ⟨A2, c2, rfl, O2.out⟩)
  have HD2 := Lib.hid (fun (W : World) (A1 : Option Addr) (c1 : Nat) (o : Own (fun _ => False) W0 W (SP.ents 26 (.slice A1 nl c1) NX :: SP.log 85 g y :: SP.log 88 k x :: SP.blk q3 27 #[.pointer (some ⟨g, 0, none⟩)] :: SP.blk q4 31 #[.pointer (some ⟨k, 0, none⟩)] :: SP.blk q5 60 #[.int .i64 kd, .int .i64 on, .int .i64 ot, .int .i64 om, .slice Ae el ce, .slice Ab bl cb] :: R)) => show Calls Try.prog 66 #[.pointer (some ⟨q4, 0, none⟩), .pointer (some ⟨q5, 0, none⟩)] W fun e w' => ∃ A' c', e = .returned (.slice A' nl c') ∧ Own (fun _ => False) W0 w' (SP.ents 26 (.slice A' nl c') NX :: SP.ents 26 (.slice A1 nl c1) NX :: SP.log 85 g y :: SP.log 88 k y :: SP.blk q3 27 #[.pointer (some ⟨g, 0, none⟩)] :: SP.blk q4 31 #[.pointer (some ⟨k, 0, none⟩)] :: SP.blk q5 60 #[.int .i64 kd, .int .i64 on, .int .i64 ot, .int .i64 om, .slice Ae el ce, .slice Ab bl cb] :: R) from by
    have HCW := Lib.hid (HC2.out _ _ _ o)
    clear p3 p4 e0 e1 e2 e3 e4 e5 hk0 hk1 hk2 hk3 hk4 hk5
    obtain ⟨p3, p4, e0, e1, e2, e3, e4, e5⟩ := HCELL.out _ _ _ _ o.pop
    clear o
    go_enter Try.func66, Try.ntmps66
    go_wp2_with fail
    refine (HCW.out).mono ?_
    rintro e w2 ⟨A2, c2, rfl, o2⟩
    have O2 := Lib.hid o2
    clear o2
    go_wp2
    go_ret
    exact ⟨A2, c2, rfl, O2.out⟩)
  clear HC1 HC2
  go_wp2_with fail
  refine (HD1.out).mono ?_
  rintro e w2 ⟨A2, c2, rfl, o2⟩
  have HR := Lib.hid (HD2.out _ _ _ o2)
  clear p3 p4 e0 e1 e2 e3 e4 e5
  clear o2 HD1 HO HD2
  go_wp2_with fail
  refine (HR.out).mono ?_
  rintro e w3 ⟨A3, c3, rfl, o3⟩
  clear HR
  have hS := sameents_own (ca := c2) (cb := c3) (xs := NX) (ys := NX) o3 (EReads.of_ents.more [_]) EReads.of_ents (by rw [HY.out.2.2]; have := HY.out.2.1.1; rw [HY.out.2.2] at this; omega) HY.out.2.1.2
  rw [show decide (NX = NX) = true from decide_eq_true rfl, HY.out.2.2] at hS
  have HS := Lib.hid hS
  clear o3 hS
  go_wp2_with fail
  refine (HS.out).mono ?_
  rintro e w4 ⟨rfl, o4⟩
  have HOv := Lib.hid (over_own HY.out.2.2 (by have := HY.out.2.1.1; rw [HY.out.2.2] at this; omega) HY.out.2.1.2 o4.pop)
  clear o4 HS
  go_wp2_with fail
  refine (HOv.out).mono ?_
  rintro e w5 ⟨⟨v, rfl⟩, o5⟩
  have O5 := Lib.hid o5
  clear o5 HOv
  go_wp2
  go_ret
  first | exact ⟨rfl, y, HY.out.1, O5.out.pick (L := [_, _, _, _, _]) [0, 1]⟩ | exact ⟨y, rfl, HY.out.1, O5.out.pick (L := [_, _, _, _, _]) [0, 1]⟩
end

section
variable {W0 w : World} {R : List SP} {g k : Nat} {x : Lg}
set_option maxRecDepth 100000 in
set_option maxHeartbeats 16000000 in
theorem does6_own (hx : x.Ok) (kd on ot om : Int) (Ae Ab : Option Addr) (ce cb : Nat) (oe : List E) (obb : List UInt8) (hE : EArg W0 Ae ce oe) (h64 : oe.length ≤ 64) (hB : obb.length ≤ cb ∧ cb ≤ maxLen ∧ obb.length ≤ 140737488351232 ∧ Rd W0 Ab (bts obb)) (hi : In64 kd ∧ In64 on ∧ In64 ot ∧ In64 om)
    (hk : kd = 6) (h : Own (fun _ => False) W0 w (SP.log 85 g x :: SP.log 88 k x :: R)) :
    Calls Try.prog 44 #[.pointer (some ⟨g, 0, none⟩), .pointer (some ⟨k, 0, none⟩), .agg #[.int .i64 kd, .int .i64 on, .int .i64 ot, .int .i64 om, .slice Ae oe.length ce, .slice Ab obb.length cb]] w fun e w' => ∃ y : Lg, e = .returned (.bool true) ∧ y.Ok ∧ Own (fun _ => False) W0 w' (SP.log 85 g y :: SP.log 88 k y :: R) := by
  obtain ⟨el, hel⟩ : ∃ el, oe.length = el := ⟨_, rfl⟩
  obtain ⟨bl, hbl⟩ : ∃ bl, obb.length = bl := ⟨_, rfl⟩
  have HX := Lib.hid hx
  have HE := Lib.hid hE
  have HB := Lib.hid hB
  have HI := Lib.hid hi
  have HL := Lib.hid (And.intro hel hbl)
  have hbl2 := hB.2.2.1
  have hbc := hB.1
  rw [hel] at h64 ⊢
  rw [hbl] at hbl2 hbc ⊢
  obtain ⟨q3, hq3⟩ : ∃ q3, w.heap.size = q3 := ⟨_, rfl⟩
  obtain ⟨q4, hq4⟩ : ∃ q4, q3 + 1 = q4 := ⟨_, rfl⟩
  obtain ⟨q5, hq5⟩ : ∃ q5, q4 + 1 = q5 := ⟨_, rfl⟩
  have o1 := ((h.alloc #[.pointer (some ⟨g, 0, none⟩)] 27).alloc #[.pointer (some ⟨k, 0, none⟩)] 31).alloc #[.int .i64 kd, .int .i64 on, .int .i64 ot, .int .i64 om, .slice Ae el ce, .slice Ab bl cb] 60
  simp only [World.size_alloc, hq3, hq4, hq5] at o1
  have HQ := Lib.hid (And.intro hq3 (And.intro hq4 hq5))
  have HO0 := Lib.hid (o1.pick (L := [_, _, _, _, _]) [3, 4, 2, 1, 0])
  have HCELL := Lib.hid (fun (W : World) (a b : SP) (R' : List SP) (o : Own (fun _ => False) W0 W (a :: b :: SP.blk q3 27 #[.pointer (some ⟨g, 0, none⟩)] :: SP.blk q4 31 #[.pointer (some ⟨k, 0, none⟩)] :: SP.blk q5 60 #[.int .i64 kd, .int .i64 on, .int .i64 ot, .int .i64 om, .slice Ae el ce, .slice Ab bl cb] :: R')) => show W.cell? ⟨q3, 0, none⟩ = some (.pointer (some ⟨g, 0, none⟩)) ∧ W.cell? ⟨q4, 0, none⟩ = some (.pointer (some ⟨k, 0, none⟩)) ∧ W.cell? ⟨q5, 0, none⟩ = some (.int .i64 kd) ∧ W.cell? ⟨q5, 1, none⟩ = some (.int .i64 on) ∧ W.cell? ⟨q5, 2, none⟩ = some (.int .i64 ot) ∧ W.cell? ⟨q5, 3, none⟩ = some (.int .i64 om) ∧ W.cell? ⟨q5, 4, none⟩ = some (.slice Ae el ce) ∧ W.cell? ⟨q5, 5, none⟩ = some (.slice Ab bl cb) from ⟨(o.pick (L := [_, _, _, _, _]) [2]).blk_cell 0, (o.pick (L := [_, _, _, _, _]) [3]).blk_cell 0, (o.pick (L := [_, _, _, _, _]) [4]).blk_cell 0, (o.pick (L := [_, _, _, _, _]) [4]).blk_cell 1, (o.pick (L := [_, _, _, _, _]) [4]).blk_cell 2, (o.pick (L := [_, _, _, _, _]) [4]).blk_cell 3, (o.pick (L := [_, _, _, _, _]) [4]).blk_cell 4, (o.pick (L := [_, _, _, _, _]) [4]).blk_cell 5⟩)
  have hk0 : (kd == 0) = false := by rw [beq_eq_false_iff_ne, hk]; decide
  have hk1 : (kd == 1) = false := by rw [beq_eq_false_iff_ne, hk]; decide
  have hk2 : (kd == 2) = false := by rw [beq_eq_false_iff_ne, hk]; decide
  have hk3 : (kd == 3) = false := by rw [beq_eq_false_iff_ne, hk]; decide
  have hk4 : (kd == 4) = false := by rw [beq_eq_false_iff_ne, hk]; decide
  have hk5 : (kd == 5) = false := by rw [beq_eq_false_iff_ne, hk]; decide
  have hk6 : (kd == 6) = true := by simp [hk]
  clear h o1 hx hE hB hi hel hbl hq3 hq4 hq5 hk
  go_enter Try.func44, Try.ntmps44
  go_upto_region 1 with (fail)
  simp only [World.size_alloc, HQ.out.1, HQ.out.2.1, HQ.out.2.2]
  obtain ⟨w1, hw1⟩ : ∃ W, ((w.alloc (.cells #[.pointer (some ⟨g, 0, none⟩)] 27)).alloc (.cells #[.pointer (some ⟨k, 0, none⟩)] 31)).alloc (.cells #[.int .i64 kd, .int .i64 on, .int .i64 ot, .int .i64 om, .slice Ae el ce, .slice Ab bl cb] 60) = W := ⟨_, rfl⟩
  have HO := HO0
  rw [hw1] at HO ⊢
  clear hw1 HO0
  obtain ⟨p3, p4, e0, e1, e2, e3, e4, e5⟩ := HCELL.out _ _ _ _ HO.out
  obtain ⟨⟨r, y⟩, hr⟩ : ∃ r, x.applied on = r := ⟨_, rfl⟩
  have hyo := applied_isOk HX.out on
  rw [hr] at hyo
  have HC1 := Lib.hid (fun (W : World) (o : Own (fun _ => False) W0 W (SP.log 85 g x :: SP.log 88 k x :: SP.blk q3 27 #[.pointer (some ⟨g, 0, none⟩)] :: SP.blk q4 31 #[.pointer (some ⟨k, 0, none⟩)] :: SP.blk q5 60 #[.int .i64 kd, .int .i64 on, .int .i64 ot, .int .i64 om, .slice Ae el ce, .slice Ab bl cb] :: R)) => show Calls Try.prog 39 #[.pointer (some ⟨g, 0, none⟩), .int .i64 on] W fun e w' => e = .returned (.bool r) ∧ Own (fun _ => False) W0 w' (SP.log 85 g y :: SP.log 88 k x :: SP.blk q3 27 #[.pointer (some ⟨g, 0, none⟩)] :: SP.blk q4 31 #[.pointer (some ⟨k, 0, none⟩)] :: SP.blk q5 60 #[.int .i64 kd, .int .i64 on, .int .i64 ot, .int .i64 om, .slice Ae el ce, .slice Ab bl cb] :: R) from by
    have := applied_own o on
    rw [hr] at this
    exact this)
  have HC2 := Lib.hid (fun (W : World) (o : Own (fun _ => False) W0 W (SP.log 85 g y :: SP.log 88 k x :: SP.blk q3 27 #[.pointer (some ⟨g, 0, none⟩)] :: SP.blk q4 31 #[.pointer (some ⟨k, 0, none⟩)] :: SP.blk q5 60 #[.int .i64 kd, .int .i64 on, .int .i64 ot, .int .i64 om, .slice Ae el ce, .slice Ab bl cb] :: R)) => show Calls Try.prog 69 #[.pointer (some ⟨k, 0, none⟩), .int .i64 on] W fun e w' => e = .returned (.bool r) ∧ Own (fun _ => False) W0 w' (SP.log 85 g y :: SP.log 88 k y :: SP.blk q3 27 #[.pointer (some ⟨g, 0, none⟩)] :: SP.blk q4 31 #[.pointer (some ⟨k, 0, none⟩)] :: SP.blk q5 60 #[.int .i64 kd, .int .i64 on, .int .i64 ot, .int .i64 om, .slice Ae el ce, .slice Ab bl cb] :: R) from by
    have := rapply_own o.swap on
    rw [hr] at this
    exact this.mono fun e w' ⟨h1, h2⟩ => ⟨h1, h2.swap⟩)
  have HYO := Lib.hid hyo
  clear hr hyo
  have HCS := Lib.hid (fun (W : World) (a b : SP) (R' : List SP) (o : Own (fun _ => False) W0 W (a :: b :: SP.blk q3 27 #[.pointer (some ⟨g, 0, none⟩)] :: SP.blk q4 31 #[.pointer (some ⟨k, 0, none⟩)] :: SP.blk q5 60 #[.int .i64 kd, .int .i64 on, .int .i64 ot, .int .i64 om, .slice Ae el ce, .slice Ab bl cb] :: R')) => show W.cell? ⟨q3, 0, none⟩ = some (.pointer (some ⟨g, 0, none⟩)) ∧ W.cell? ⟨q4, 0, none⟩ = some (.pointer (some ⟨k, 0, none⟩)) ∧ W.cell? ⟨q5, 1, none⟩ = some (.int .i64 on) from by
    obtain ⟨p3, p4, e0, e1, e2, e3, e4, e5⟩ := HCELL.out _ _ _ _ o
    exact ⟨p3, p4, e1⟩)
  go_upto_region 37 with (fail)
  go_region_held3 (fun W => W.cell? ⟨q3, 0, none⟩ = some (.pointer (some ⟨g, 0, none⟩)) ∧ W.cell? ⟨q4, 0, none⟩ = some (.pointer (some ⟨k, 0, none⟩)) ∧ W.cell? ⟨q5, 1, none⟩ = some (.int .i64 on))
    (first | go_keep | exact ⟨p3, p4, e1⟩ | exact K0.out | exact K1.out)
    (first
      | (refine step_callW 39 _ _ rfl Try.func39 (by kernel_rfl) (by kernel_rfl) #[.pointer (some ⟨g, 0, none⟩), .int .i64 on] (by rfl) (by rfl) ?_
         refine (HC1.out _ HO.out.drew).mono ?_
         rintro e w0a ⟨rfl, o0⟩
         refine ⟨_, rfl, ?_⟩
         have K0 := Lib.hid (HCS.out _ _ _ _ o0)
         have O0 := Lib.hid o0
         clear o0)
      | (refine step_callW 69 _ _ rfl Try.func69 (by kernel_rfl) (by kernel_rfl) #[.pointer (some ⟨k, 0, none⟩), .int .i64 on] (by rfl) (by rfl) ?_
         refine (HC2.out _ O0.out).mono ?_
         rintro e w1a ⟨rfl, o1⟩
         refine ⟨_, rfl, ?_⟩
         have K1 := Lib.hid (HCS.out _ _ _ _ o1)
         have O1 := Lib.hid o1
         clear o1))
  clear p3 p4 e0 e1 e2 e3 e4 e5
  go_wp2
  go_ret
  exact ⟨rfl, y, HYO.out, (O1.out.pick (L := [_, _, _, _, _]) [0, 1])⟩
end

theorem compact_err (x : Lg) (i : Int) : 0 ≤ (x.compact i).1 ∧ (x.compact i).1 ≤ 18 := by
  unfold Lg.compact
  split
  · exact ⟨by simp, by simp⟩
  · split
    · exact ⟨by simp, by simp⟩
    · exact ⟨by simp, by simp⟩
section
variable {W0 w : World} {R : List SP} {g k : Nat} {x : Lg}
set_option maxRecDepth 100000 in
set_option maxHeartbeats 16000000 in
theorem does7_own (hx : x.Ok) (kd on ot om : Int) (Ae Ab : Option Addr) (ce cb : Nat) (oe : List E) (obb : List UInt8) (hE : EArg W0 Ae ce oe) (h64 : oe.length ≤ 64) (hB : obb.length ≤ cb ∧ cb ≤ maxLen ∧ obb.length ≤ 140737488351232 ∧ Rd W0 Ab (bts obb)) (hi : In64 kd ∧ In64 on ∧ In64 ot ∧ In64 om)
    (hk : kd = 7) (h : Own (fun _ => False) W0 w (SP.log 85 g x :: SP.log 88 k x :: R)) :
    Calls Try.prog 44 #[.pointer (some ⟨g, 0, none⟩), .pointer (some ⟨k, 0, none⟩), .agg #[.int .i64 kd, .int .i64 on, .int .i64 ot, .int .i64 om, .slice Ae oe.length ce, .slice Ab obb.length cb]] w fun e w' => ∃ y : Lg, e = .returned (.bool true) ∧ y.Ok ∧ Own (fun _ => False) W0 w' (SP.log 85 g y :: SP.log 88 k y :: R) := by
  obtain ⟨el, hel⟩ : ∃ el, oe.length = el := ⟨_, rfl⟩
  obtain ⟨bl, hbl⟩ : ∃ bl, obb.length = bl := ⟨_, rfl⟩
  have HX := Lib.hid hx
  have HE := Lib.hid hE
  have HB := Lib.hid hB
  have HI := Lib.hid hi
  have HL := Lib.hid (And.intro hel hbl)
  have hbl2 := hB.2.2.1
  have hbc := hB.1
  rw [hel] at h64 ⊢
  rw [hbl] at hbl2 hbc ⊢
  obtain ⟨q3, hq3⟩ : ∃ q3, w.heap.size = q3 := ⟨_, rfl⟩
  obtain ⟨q4, hq4⟩ : ∃ q4, q3 + 1 = q4 := ⟨_, rfl⟩
  obtain ⟨q5, hq5⟩ : ∃ q5, q4 + 1 = q5 := ⟨_, rfl⟩
  have o1 := ((h.alloc #[.pointer (some ⟨g, 0, none⟩)] 27).alloc #[.pointer (some ⟨k, 0, none⟩)] 31).alloc #[.int .i64 kd, .int .i64 on, .int .i64 ot, .int .i64 om, .slice Ae el ce, .slice Ab bl cb] 60
  simp only [World.size_alloc, hq3, hq4, hq5] at o1
  have HQ := Lib.hid (And.intro hq3 (And.intro hq4 hq5))
  have HO0 := Lib.hid (o1.pick (L := [_, _, _, _, _]) [3, 4, 2, 1, 0])
  have HCELL := Lib.hid (fun (W : World) (a b : SP) (R' : List SP) (o : Own (fun _ => False) W0 W (a :: b :: SP.blk q3 27 #[.pointer (some ⟨g, 0, none⟩)] :: SP.blk q4 31 #[.pointer (some ⟨k, 0, none⟩)] :: SP.blk q5 60 #[.int .i64 kd, .int .i64 on, .int .i64 ot, .int .i64 om, .slice Ae el ce, .slice Ab bl cb] :: R')) => show W.cell? ⟨q3, 0, none⟩ = some (.pointer (some ⟨g, 0, none⟩)) ∧ W.cell? ⟨q4, 0, none⟩ = some (.pointer (some ⟨k, 0, none⟩)) ∧ W.cell? ⟨q5, 0, none⟩ = some (.int .i64 kd) ∧ W.cell? ⟨q5, 1, none⟩ = some (.int .i64 on) ∧ W.cell? ⟨q5, 2, none⟩ = some (.int .i64 ot) ∧ W.cell? ⟨q5, 3, none⟩ = some (.int .i64 om) ∧ W.cell? ⟨q5, 4, none⟩ = some (.slice Ae el ce) ∧ W.cell? ⟨q5, 5, none⟩ = some (.slice Ab bl cb) from ⟨(o.pick (L := [_, _, _, _, _]) [2]).blk_cell 0, (o.pick (L := [_, _, _, _, _]) [3]).blk_cell 0, (o.pick (L := [_, _, _, _, _]) [4]).blk_cell 0, (o.pick (L := [_, _, _, _, _]) [4]).blk_cell 1, (o.pick (L := [_, _, _, _, _]) [4]).blk_cell 2, (o.pick (L := [_, _, _, _, _]) [4]).blk_cell 3, (o.pick (L := [_, _, _, _, _]) [4]).blk_cell 4, (o.pick (L := [_, _, _, _, _]) [4]).blk_cell 5⟩)
  have hk0 : (kd == 0) = false := by rw [beq_eq_false_iff_ne, hk]; decide
  have hk1 : (kd == 1) = false := by rw [beq_eq_false_iff_ne, hk]; decide
  have hk2 : (kd == 2) = false := by rw [beq_eq_false_iff_ne, hk]; decide
  have hk3 : (kd == 3) = false := by rw [beq_eq_false_iff_ne, hk]; decide
  have hk4 : (kd == 4) = false := by rw [beq_eq_false_iff_ne, hk]; decide
  have hk5 : (kd == 5) = false := by rw [beq_eq_false_iff_ne, hk]; decide
  have hk6 : (kd == 6) = false := by rw [beq_eq_false_iff_ne, hk]; decide
  have hk7 : (kd == 7) = true := by simp [hk]
  clear h o1 hx hE hB hi hel hbl hq3 hq4 hq5 hk
  go_enter Try.func44, Try.ntmps44
  go_upto_region 1 with (fail)
  simp only [World.size_alloc, HQ.out.1, HQ.out.2.1, HQ.out.2.2]
  obtain ⟨w1, hw1⟩ : ∃ W, ((w.alloc (.cells #[.pointer (some ⟨g, 0, none⟩)] 27)).alloc (.cells #[.pointer (some ⟨k, 0, none⟩)] 31)).alloc (.cells #[.int .i64 kd, .int .i64 on, .int .i64 ot, .int .i64 om, .slice Ae el ce, .slice Ab bl cb] 60) = W := ⟨_, rfl⟩
  have HO := HO0
  rw [hw1] at HO ⊢
  clear hw1 HO0
  obtain ⟨p3, p4, e0, e1, e2, e3, e4, e5⟩ := HCELL.out _ _ _ _ HO.out
  obtain ⟨⟨r, y⟩, hr⟩ : ∃ r, x.compact on = r := ⟨_, rfl⟩
  have hyo := compact_isOk HX.out on
  rw [hr] at hyo
  have HC1 := Lib.hid (fun (W : World) (o : Own (fun _ => False) W0 W (SP.log 85 g x :: SP.log 88 k x :: SP.blk q3 27 #[.pointer (some ⟨g, 0, none⟩)] :: SP.blk q4 31 #[.pointer (some ⟨k, 0, none⟩)] :: SP.blk q5 60 #[.int .i64 kd, .int .i64 on, .int .i64 ot, .int .i64 om, .slice Ae el ce, .slice Ab bl cb] :: R)) => show Calls Try.prog 40 #[.pointer (some ⟨g, 0, none⟩), .int .i64 on] W fun e w' => e = .returned (.int .i64 r) ∧ Own (fun _ => False) W0 w' (SP.log 85 g y :: SP.log 88 k x :: SP.blk q3 27 #[.pointer (some ⟨g, 0, none⟩)] :: SP.blk q4 31 #[.pointer (some ⟨k, 0, none⟩)] :: SP.blk q5 60 #[.int .i64 kd, .int .i64 on, .int .i64 ot, .int .i64 om, .slice Ae el ce, .slice Ab bl cb] :: R) from by
    have := compact_own HX.out o on HI.out.2.1
    rw [hr] at this
    exact this)
  have HC2 := Lib.hid (fun (W : World) (o : Own (fun _ => False) W0 W (SP.log 85 g y :: SP.log 88 k x :: SP.blk q3 27 #[.pointer (some ⟨g, 0, none⟩)] :: SP.blk q4 31 #[.pointer (some ⟨k, 0, none⟩)] :: SP.blk q5 60 #[.int .i64 kd, .int .i64 on, .int .i64 ot, .int .i64 om, .slice Ae el ce, .slice Ab bl cb] :: R)) => show Calls Try.prog 70 #[.pointer (some ⟨k, 0, none⟩), .int .i64 on] W fun e w' => e = .returned (.int .i64 r) ∧ Own (fun _ => False) W0 w' (SP.log 85 g y :: SP.log 88 k y :: SP.blk q3 27 #[.pointer (some ⟨g, 0, none⟩)] :: SP.blk q4 31 #[.pointer (some ⟨k, 0, none⟩)] :: SP.blk q5 60 #[.int .i64 kd, .int .i64 on, .int .i64 ot, .int .i64 om, .slice Ae el ce, .slice Ab bl cb] :: R) from by
    have := rcompact_own HX.out o.swap on HI.out.2.1
    rw [hr] at this
    exact this.mono fun e w' ⟨h1, h2⟩ => ⟨h1, h2.swap⟩)
  have HYO := Lib.hid hyo
  have HRR := Lib.hid (show (x.compact on).1 = r by rw [hr])
  clear hr hyo
  have HN := Lib.hid (fun (W : World) => num_calls W r (by have := compact_err x on; rw [HRR.out] at this; exact ⟨by omega, by omega⟩))
  have HCS := Lib.hid (fun (W : World) (a b : SP) (R' : List SP) (o : Own (fun _ => False) W0 W (a :: b :: SP.blk q3 27 #[.pointer (some ⟨g, 0, none⟩)] :: SP.blk q4 31 #[.pointer (some ⟨k, 0, none⟩)] :: SP.blk q5 60 #[.int .i64 kd, .int .i64 on, .int .i64 ot, .int .i64 om, .slice Ae el ce, .slice Ab bl cb] :: R')) => show W.cell? ⟨q3, 0, none⟩ = some (.pointer (some ⟨g, 0, none⟩)) ∧ W.cell? ⟨q4, 0, none⟩ = some (.pointer (some ⟨k, 0, none⟩)) ∧ W.cell? ⟨q5, 1, none⟩ = some (.int .i64 on) from by
    obtain ⟨p3, p4, e0, e1, e2, e3, e4, e5⟩ := HCELL.out _ _ _ _ o
    exact ⟨p3, p4, e1⟩)
  go_upto_region 39 with (fail)
  go_region_held3 (fun W => W.cell? ⟨q3, 0, none⟩ = some (.pointer (some ⟨g, 0, none⟩)) ∧ W.cell? ⟨q4, 0, none⟩ = some (.pointer (some ⟨k, 0, none⟩)) ∧ W.cell? ⟨q5, 1, none⟩ = some (.int .i64 on))
    (first | go_keep | exact ⟨p3, p4, e1⟩ | exact K0.out | exact K1.out | exact K2.out)
    (first
      | (refine step_callW 40 _ _ rfl Try.func40 (by kernel_rfl) (by kernel_rfl) #[.pointer (some ⟨g, 0, none⟩), .int .i64 on] (by rfl) (by rfl) ?_
         refine (HC1.out _ HO.out.drew).mono ?_
         rintro e w0a ⟨rfl, o0⟩
         refine ⟨_, rfl, ?_⟩
         have K0 := Lib.hid (HCS.out _ _ _ _ o0)
         have O0 := Lib.hid o0
         clear o0)
      | (refine step_callW 15 _ _ rfl Try.func15 (by kernel_rfl) (by kernel_rfl) #[.int .i64 r] (by rfl) (by rfl) ?_
         refine (HN.out _).mono ?_
         rintro e w1a ⟨rfl, rfl⟩
         refine ⟨_, rfl, ?_⟩
         skip
         skip
         skip)
      | (refine step_callW 70 _ _ rfl Try.func70 (by kernel_rfl) (by kernel_rfl) #[.pointer (some ⟨k, 0, none⟩), .int .i64 on] (by rfl) (by rfl) ?_
         refine (HC2.out _ O0.out).mono ?_
         rintro e w2a ⟨rfl, o2⟩
         refine ⟨_, rfl, ?_⟩
         have K2 := Lib.hid (HCS.out _ _ _ _ o2)
         have O2 := Lib.hid o2
         clear o2))
  clear p3 p4 e0 e1 e2 e3 e4 e5
  go_wp2
  go_ret
  exact ⟨rfl, y, HYO.out, (O2.out.pick (L := [_, _, _, _, _]) [0, 1])⟩
end

theorem restore_err (x : Lg) (i t : Int) : 0 ≤ (x.restore i t).1 ∧ (x.restore i t).1 ≤ 18 := by
  unfold Lg.restore
  split
  · exact ⟨by simp, by simp⟩
  · exact ⟨by simp, by simp⟩
section
variable {W0 w : World} {R : List SP} {g k : Nat} {x : Lg}
set_option maxRecDepth 100000 in
set_option maxHeartbeats 16000000 in
theorem does8_own (hx : x.Ok) (kd on ot om : Int) (Ae Ab : Option Addr) (ce cb : Nat) (oe : List E) (obb : List UInt8) (hE : EArg W0 Ae ce oe) (h64 : oe.length ≤ 64) (hB : obb.length ≤ cb ∧ cb ≤ maxLen ∧ obb.length ≤ 140737488351232 ∧ Rd W0 Ab (bts obb)) (hi : In64 kd ∧ In64 on ∧ In64 ot ∧ In64 om)
    (hk : kd = 8) (h : Own (fun _ => False) W0 w (SP.log 85 g x :: SP.log 88 k x :: R)) :
    Calls Try.prog 44 #[.pointer (some ⟨g, 0, none⟩), .pointer (some ⟨k, 0, none⟩), .agg #[.int .i64 kd, .int .i64 on, .int .i64 ot, .int .i64 om, .slice Ae oe.length ce, .slice Ab obb.length cb]] w fun e w' => ∃ y : Lg, e = .returned (.bool true) ∧ y.Ok ∧ Own (fun _ => False) W0 w' (SP.log 85 g y :: SP.log 88 k y :: R) := by
  obtain ⟨el, hel⟩ : ∃ el, oe.length = el := ⟨_, rfl⟩
  obtain ⟨bl, hbl⟩ : ∃ bl, obb.length = bl := ⟨_, rfl⟩
  have HX := Lib.hid hx
  have HE := Lib.hid hE
  have HB := Lib.hid hB
  have HI := Lib.hid hi
  have HL := Lib.hid (And.intro hel hbl)
  have hbl2 := hB.2.2.1
  have hbc := hB.1
  rw [hel] at h64 ⊢
  rw [hbl] at hbl2 hbc ⊢
  obtain ⟨q3, hq3⟩ : ∃ q3, w.heap.size = q3 := ⟨_, rfl⟩
  obtain ⟨q4, hq4⟩ : ∃ q4, q3 + 1 = q4 := ⟨_, rfl⟩
  obtain ⟨q5, hq5⟩ : ∃ q5, q4 + 1 = q5 := ⟨_, rfl⟩
  have o1 := ((h.alloc #[.pointer (some ⟨g, 0, none⟩)] 27).alloc #[.pointer (some ⟨k, 0, none⟩)] 31).alloc #[.int .i64 kd, .int .i64 on, .int .i64 ot, .int .i64 om, .slice Ae el ce, .slice Ab bl cb] 60
  simp only [World.size_alloc, hq3, hq4, hq5] at o1
  have HQ := Lib.hid (And.intro hq3 (And.intro hq4 hq5))
  have HO0 := Lib.hid (o1.pick (L := [_, _, _, _, _]) [3, 4, 2, 1, 0])
  have HCELL := Lib.hid (fun (W : World) (a b : SP) (R' : List SP) (o : Own (fun _ => False) W0 W (a :: b :: SP.blk q3 27 #[.pointer (some ⟨g, 0, none⟩)] :: SP.blk q4 31 #[.pointer (some ⟨k, 0, none⟩)] :: SP.blk q5 60 #[.int .i64 kd, .int .i64 on, .int .i64 ot, .int .i64 om, .slice Ae el ce, .slice Ab bl cb] :: R')) => show W.cell? ⟨q3, 0, none⟩ = some (.pointer (some ⟨g, 0, none⟩)) ∧ W.cell? ⟨q4, 0, none⟩ = some (.pointer (some ⟨k, 0, none⟩)) ∧ W.cell? ⟨q5, 0, none⟩ = some (.int .i64 kd) ∧ W.cell? ⟨q5, 1, none⟩ = some (.int .i64 on) ∧ W.cell? ⟨q5, 2, none⟩ = some (.int .i64 ot) ∧ W.cell? ⟨q5, 3, none⟩ = some (.int .i64 om) ∧ W.cell? ⟨q5, 4, none⟩ = some (.slice Ae el ce) ∧ W.cell? ⟨q5, 5, none⟩ = some (.slice Ab bl cb) from ⟨(o.pick (L := [_, _, _, _, _]) [2]).blk_cell 0, (o.pick (L := [_, _, _, _, _]) [3]).blk_cell 0, (o.pick (L := [_, _, _, _, _]) [4]).blk_cell 0, (o.pick (L := [_, _, _, _, _]) [4]).blk_cell 1, (o.pick (L := [_, _, _, _, _]) [4]).blk_cell 2, (o.pick (L := [_, _, _, _, _]) [4]).blk_cell 3, (o.pick (L := [_, _, _, _, _]) [4]).blk_cell 4, (o.pick (L := [_, _, _, _, _]) [4]).blk_cell 5⟩)
  have hk0 : (kd == 0) = false := by rw [beq_eq_false_iff_ne, hk]; decide
  have hk1 : (kd == 1) = false := by rw [beq_eq_false_iff_ne, hk]; decide
  have hk2 : (kd == 2) = false := by rw [beq_eq_false_iff_ne, hk]; decide
  have hk3 : (kd == 3) = false := by rw [beq_eq_false_iff_ne, hk]; decide
  have hk4 : (kd == 4) = false := by rw [beq_eq_false_iff_ne, hk]; decide
  have hk5 : (kd == 5) = false := by rw [beq_eq_false_iff_ne, hk]; decide
  have hk6 : (kd == 6) = false := by rw [beq_eq_false_iff_ne, hk]; decide
  have hk7 : (kd == 7) = false := by rw [beq_eq_false_iff_ne, hk]; decide
  have hk8 : (kd == 8) = true := by simp [hk]
  clear h o1 hx hE hB hi hel hbl hq3 hq4 hq5 hk
  go_enter Try.func44, Try.ntmps44
  go_upto_region 1 with (fail)
  simp only [World.size_alloc, HQ.out.1, HQ.out.2.1, HQ.out.2.2]
  obtain ⟨w1, hw1⟩ : ∃ W, ((w.alloc (.cells #[.pointer (some ⟨g, 0, none⟩)] 27)).alloc (.cells #[.pointer (some ⟨k, 0, none⟩)] 31)).alloc (.cells #[.int .i64 kd, .int .i64 on, .int .i64 ot, .int .i64 om, .slice Ae el ce, .slice Ab bl cb] 60) = W := ⟨_, rfl⟩
  have HO := HO0
  rw [hw1] at HO ⊢
  clear hw1 HO0
  obtain ⟨p3, p4, e0, e1, e2, e3, e4, e5⟩ := HCELL.out _ _ _ _ HO.out
  obtain ⟨⟨r, y⟩, hr⟩ : ∃ r, x.restore on ot = r := ⟨_, rfl⟩
  have hyo := restore_isOk HX.out on ot
  rw [hr] at hyo
  have HC1 := Lib.hid (fun (W : World) (o : Own (fun _ => False) W0 W (SP.log 85 g x :: SP.log 88 k x :: SP.blk q3 27 #[.pointer (some ⟨g, 0, none⟩)] :: SP.blk q4 31 #[.pointer (some ⟨k, 0, none⟩)] :: SP.blk q5 60 #[.int .i64 kd, .int .i64 on, .int .i64 ot, .int .i64 om, .slice Ae el ce, .slice Ab bl cb] :: R)) => show Calls Try.prog 41 #[.pointer (some ⟨g, 0, none⟩), .int .i64 on, .int .i64 ot] W fun e w' => e = .returned (.int .i64 r) ∧ Own (fun _ => False) W0 w' (SP.log 85 g y :: SP.log 88 k x :: SP.blk q3 27 #[.pointer (some ⟨g, 0, none⟩)] :: SP.blk q4 31 #[.pointer (some ⟨k, 0, none⟩)] :: SP.blk q5 60 #[.int .i64 kd, .int .i64 on, .int .i64 ot, .int .i64 om, .slice Ae el ce, .slice Ab bl cb] :: R) from by
    have := restore_own o on ot
    rw [hr] at this
    exact this)
  have HC2 := Lib.hid (fun (W : World) (o : Own (fun _ => False) W0 W (SP.log 85 g y :: SP.log 88 k x :: SP.blk q3 27 #[.pointer (some ⟨g, 0, none⟩)] :: SP.blk q4 31 #[.pointer (some ⟨k, 0, none⟩)] :: SP.blk q5 60 #[.int .i64 kd, .int .i64 on, .int .i64 ot, .int .i64 om, .slice Ae el ce, .slice Ab bl cb] :: R)) => show Calls Try.prog 71 #[.pointer (some ⟨k, 0, none⟩), .int .i64 on, .int .i64 ot] W fun e w' => e = .returned (.int .i64 r) ∧ Own (fun _ => False) W0 w' (SP.log 85 g y :: SP.log 88 k y :: SP.blk q3 27 #[.pointer (some ⟨g, 0, none⟩)] :: SP.blk q4 31 #[.pointer (some ⟨k, 0, none⟩)] :: SP.blk q5 60 #[.int .i64 kd, .int .i64 on, .int .i64 ot, .int .i64 om, .slice Ae el ce, .slice Ab bl cb] :: R) from by
    have := rrestore_own o.swap on ot
    rw [hr] at this
    exact this.mono fun e w' ⟨h1, h2⟩ => ⟨h1, h2.swap⟩)
  have HYO := Lib.hid hyo
  have HRR := Lib.hid (show (x.restore on ot).1 = r by rw [hr])
  clear hr hyo
  have HN := Lib.hid (fun (W : World) => num_calls W r (by have := restore_err x on ot; rw [HRR.out] at this; exact ⟨by omega, by omega⟩))
  have HCS := Lib.hid (fun (W : World) (a b : SP) (R' : List SP) (o : Own (fun _ => False) W0 W (a :: b :: SP.blk q3 27 #[.pointer (some ⟨g, 0, none⟩)] :: SP.blk q4 31 #[.pointer (some ⟨k, 0, none⟩)] :: SP.blk q5 60 #[.int .i64 kd, .int .i64 on, .int .i64 ot, .int .i64 om, .slice Ae el ce, .slice Ab bl cb] :: R')) => show W.cell? ⟨q3, 0, none⟩ = some (.pointer (some ⟨g, 0, none⟩)) ∧ W.cell? ⟨q4, 0, none⟩ = some (.pointer (some ⟨k, 0, none⟩)) ∧ W.cell? ⟨q5, 1, none⟩ = some (.int .i64 on) ∧ W.cell? ⟨q5, 2, none⟩ = some (.int .i64 ot) from by
    obtain ⟨p3, p4, e0, e1, e2, e3, e4, e5⟩ := HCELL.out _ _ _ _ o
    exact ⟨p3, p4, e1, e2⟩)
  go_upto_region 41 with (fail)
  go_region_held3 (fun W => W.cell? ⟨q3, 0, none⟩ = some (.pointer (some ⟨g, 0, none⟩)) ∧ W.cell? ⟨q4, 0, none⟩ = some (.pointer (some ⟨k, 0, none⟩)) ∧ W.cell? ⟨q5, 1, none⟩ = some (.int .i64 on) ∧ W.cell? ⟨q5, 2, none⟩ = some (.int .i64 ot))
    (first | go_keep | exact ⟨p3, p4, e1, e2⟩ | exact K0.out | exact K1.out | exact K2.out)
    (first
      | (refine step_callW 41 _ _ rfl Try.func41 (by kernel_rfl) (by kernel_rfl) #[.pointer (some ⟨g, 0, none⟩), .int .i64 on, .int .i64 ot] (by rfl) (by rfl) ?_
         refine (HC1.out _ HO.out.drew).mono ?_
         rintro e w0a ⟨rfl, o0⟩
         refine ⟨_, rfl, ?_⟩
         have K0 := Lib.hid (HCS.out _ _ _ _ o0)
         have O0 := Lib.hid o0
         clear o0)
      | (refine step_callW 15 _ _ rfl Try.func15 (by kernel_rfl) (by kernel_rfl) #[.int .i64 r] (by rfl) (by rfl) ?_
         refine (HN.out _).mono ?_
         rintro e w1a ⟨rfl, rfl⟩
         refine ⟨_, rfl, ?_⟩
         skip
         skip
         skip)
      | (refine step_callW 71 _ _ rfl Try.func71 (by kernel_rfl) (by kernel_rfl) #[.pointer (some ⟨k, 0, none⟩), .int .i64 on, .int .i64 ot] (by rfl) (by rfl) ?_
         refine (HC2.out _ O0.out).mono ?_
         rintro e w2a ⟨rfl, o2⟩
         refine ⟨_, rfl, ?_⟩
         have K2 := Lib.hid (HCS.out _ _ _ _ o2)
         have O2 := Lib.hid o2
         clear o2))
  clear p3 p4 e0 e1 e2 e3 e4 e5
  go_wp2
  go_ret
  exact ⟨rfl, y, HYO.out, (O2.out.pick (L := [_, _, _, _, _]) [0, 1])⟩
end

theorem at_err (x : Lg) (i : Int) : 0 ≤ (x.at i).2 ∧ (x.at i).2 ≤ 18 := by
  unfold Lg.at
  split
  · exact ⟨by simp, by simp⟩
  · split
    · exact ⟨by simp, by simp⟩
    · split
      · exact ⟨by simp, by simp⟩
      · exact ⟨by simp, by simp⟩
theorem entries_err (x : Lg) (a m : Int) : 0 ≤ (x.entries a m).2 ∧ (x.entries a m).2 ≤ 18 := by
  unfold Lg.entries
  split
  · exact ⟨by simp, by simp⟩
  · split
    · exact ⟨by simp, by simp⟩
    · exact ⟨by simp, by simp⟩
theorem entries_small {x : Lg} (hx : x.Ok) (a m : Int) : (x.entries a m).1.length ≤ 10000 ∧ ∀ e, e ∈ (x.entries a m).1 → e.dat.length ≤ 140737488351232 := by
  unfold Lg.entries
  split
  · exact ⟨by simp, fun e he => by simp at he⟩
  · split
    · exact ⟨by simp, fun e he => by simp at he⟩
    · refine ⟨by simp only [List.length_take, List.length_drop]; have := hx.len; omega, fun e he => ?_⟩
      have := hx.dat e (List.mem_of_mem_drop (List.mem_of_mem_take he))
      omega
section
variable {W0 w : World} {R : List SP} {g k : Nat} {x : Lg}
set_option maxRecDepth 100000 in
set_option maxHeartbeats 16000000 in
theorem doesE_own (hx : x.Ok) (kd on ot om : Int) (Ae Ab : Option Addr) (ce cb : Nat) (oe : List E) (obb : List UInt8) (hE : EArg W0 Ae ce oe) (h64 : oe.length ≤ 64) (hB : obb.length ≤ cb ∧ cb ≤ maxLen ∧ obb.length ≤ 140737488351232 ∧ Rd W0 Ab (bts obb)) (hi : In64 kd ∧ In64 on ∧ In64 ot ∧ In64 om)
    (hk : kd ≠ 0 ∧ kd ≠ 1 ∧ kd ≠ 2 ∧ kd ≠ 3 ∧ kd ≠ 4 ∧ kd ≠ 5 ∧ kd ≠ 6 ∧ kd ≠ 7 ∧ kd ≠ 8) (h : Own (fun _ => False) W0 w (SP.log 85 g x :: SP.log 88 k x :: R)) :
    Calls Try.prog 44 #[.pointer (some ⟨g, 0, none⟩), .pointer (some ⟨k, 0, none⟩), .agg #[.int .i64 kd, .int .i64 on, .int .i64 ot, .int .i64 om, .slice Ae oe.length ce, .slice Ab obb.length cb]] w fun e w' => ∃ y : Lg, e = .returned (.bool true) ∧ y.Ok ∧ Own (fun _ => False) W0 w' (SP.log 85 g y :: SP.log 88 k y :: R) := by
  obtain ⟨el, hel⟩ : ∃ el, oe.length = el := ⟨_, rfl⟩
  obtain ⟨bl, hbl⟩ : ∃ bl, obb.length = bl := ⟨_, rfl⟩
  have HX := Lib.hid hx
  have HE := Lib.hid hE
  have HB := Lib.hid hB
  have HI := Lib.hid hi
  have HL := Lib.hid (And.intro hel hbl)
  have hbl2 := hB.2.2.1
  have hbc := hB.1
  rw [hel] at h64 ⊢
  rw [hbl] at hbl2 hbc ⊢
  obtain ⟨q3, hq3⟩ : ∃ q3, w.heap.size = q3 := ⟨_, rfl⟩
  obtain ⟨q4, hq4⟩ : ∃ q4, q3 + 1 = q4 := ⟨_, rfl⟩
  obtain ⟨q5, hq5⟩ : ∃ q5, q4 + 1 = q5 := ⟨_, rfl⟩
  have o1 := ((h.alloc #[.pointer (some ⟨g, 0, none⟩)] 27).alloc #[.pointer (some ⟨k, 0, none⟩)] 31).alloc #[.int .i64 kd, .int .i64 on, .int .i64 ot, .int .i64 om, .slice Ae el ce, .slice Ab bl cb] 60
  simp only [World.size_alloc, hq3, hq4, hq5] at o1
  have HQ := Lib.hid (And.intro hq3 (And.intro hq4 hq5))
  have HO0 := Lib.hid (o1.pick (L := [_, _, _, _, _]) [3, 4, 2, 1, 0])
  have HCELL := Lib.hid (fun (W : World) (a b : SP) (R' : List SP) (o : Own (fun _ => False) W0 W (a :: b :: SP.blk q3 27 #[.pointer (some ⟨g, 0, none⟩)] :: SP.blk q4 31 #[.pointer (some ⟨k, 0, none⟩)] :: SP.blk q5 60 #[.int .i64 kd, .int .i64 on, .int .i64 ot, .int .i64 om, .slice Ae el ce, .slice Ab bl cb] :: R')) => show W.cell? ⟨q3, 0, none⟩ = some (.pointer (some ⟨g, 0, none⟩)) ∧ W.cell? ⟨q4, 0, none⟩ = some (.pointer (some ⟨k, 0, none⟩)) ∧ W.cell? ⟨q5, 0, none⟩ = some (.int .i64 kd) ∧ W.cell? ⟨q5, 1, none⟩ = some (.int .i64 on) ∧ W.cell? ⟨q5, 2, none⟩ = some (.int .i64 ot) ∧ W.cell? ⟨q5, 3, none⟩ = some (.int .i64 om) ∧ W.cell? ⟨q5, 4, none⟩ = some (.slice Ae el ce) ∧ W.cell? ⟨q5, 5, none⟩ = some (.slice Ab bl cb) from ⟨(o.pick (L := [_, _, _, _, _]) [2]).blk_cell 0, (o.pick (L := [_, _, _, _, _]) [3]).blk_cell 0, (o.pick (L := [_, _, _, _, _]) [4]).blk_cell 0, (o.pick (L := [_, _, _, _, _]) [4]).blk_cell 1, (o.pick (L := [_, _, _, _, _]) [4]).blk_cell 2, (o.pick (L := [_, _, _, _, _]) [4]).blk_cell 3, (o.pick (L := [_, _, _, _, _]) [4]).blk_cell 4, (o.pick (L := [_, _, _, _, _]) [4]).blk_cell 5⟩)
  have hk0 : (kd == 0) = false := by rw [beq_eq_false_iff_ne]; exact hk.1
  have hk1 : (kd == 1) = false := by rw [beq_eq_false_iff_ne]; exact hk.2.1
  have hk2 : (kd == 2) = false := by rw [beq_eq_false_iff_ne]; exact hk.2.2.1
  have hk3 : (kd == 3) = false := by rw [beq_eq_false_iff_ne]; exact hk.2.2.2.1
  have hk4 : (kd == 4) = false := by rw [beq_eq_false_iff_ne]; exact hk.2.2.2.2.1
  have hk5 : (kd == 5) = false := by rw [beq_eq_false_iff_ne]; exact hk.2.2.2.2.2.1
  have hk6 : (kd == 6) = false := by rw [beq_eq_false_iff_ne]; exact hk.2.2.2.2.2.2.1
  have hk7 : (kd == 7) = false := by rw [beq_eq_false_iff_ne]; exact hk.2.2.2.2.2.2.2.1
  have hk8 : (kd == 8) = false := by rw [beq_eq_false_iff_ne]; exact hk.2.2.2.2.2.2.2.2
  clear h o1 hx hE hB hi hel hbl hq3 hq4 hq5 hk
  go_enter Try.func44, Try.ntmps44
  go_upto_region 1 with (fail)
  simp only [World.size_alloc, HQ.out.1, HQ.out.2.1, HQ.out.2.2]
  obtain ⟨w1, hw1⟩ : ∃ W, ((w.alloc (.cells #[.pointer (some ⟨g, 0, none⟩)] 27)).alloc (.cells #[.pointer (some ⟨k, 0, none⟩)] 31)).alloc (.cells #[.int .i64 kd, .int .i64 on, .int .i64 ot, .int .i64 om, .slice Ae el ce, .slice Ab bl cb] 60) = W := ⟨_, rfl⟩
  have HO := HO0
  rw [hw1] at HO ⊢
  clear hw1 HO0
  obtain ⟨p3, p4, e0, e1, e2, e3, e4, e5⟩ := HCELL.out _ _ _ _ HO.out
  obtain ⟨⟨a1, a2⟩, ha⟩ : ∃ r, x.at on = r := ⟨_, rfl⟩
  obtain ⟨⟨NX, er⟩, hn⟩ : ∃ r, x.entries on om = r := ⟨_, rfl⟩
  obtain ⟨nl, hnl⟩ : ∃ nl, NX.length = nl := ⟨_, rfl⟩
  have hnd : NX.length ≤ 10000 ∧ ∀ m, m ∈ NX → m.dat.length ≤ 140737488351232 := by
    have h1 := entries_small HX.out on om
    rw [hn] at h1
    exact h1
  have hae := at_err x on
  rw [ha] at hae
  have hee := entries_err x on om
  rw [hn] at hee
  obtain ⟨ae1, ae2⟩ := hae
  obtain ⟨ee1, ee2⟩ := hee
  simp only at ae1 ae2 ee1 ee2
  obtain ⟨z1, hz1⟩ : ∃ z, x.has on ot = z := ⟨_, rfl⟩
  obtain ⟨z2, hz2⟩ : ∃ z, x.newer on ot = z := ⟨_, rfl⟩
  obtain ⟨z3, hz3⟩ : ∃ z, x.hint on ot = z := ⟨_, rfl⟩
  have hlen := HX.out.len
  have HT1 := Lib.hid (fun (W : World) (o : Own (fun _ => False) W0 W (SP.log 85 g x :: SP.log 88 k x :: SP.blk q3 27 #[.pointer (some ⟨g, 0, none⟩)] :: SP.blk q4 31 #[.pointer (some ⟨k, 0, none⟩)] :: SP.blk q5 60 #[.int .i64 kd, .int .i64 on, .int .i64 ot, .int .i64 om, .slice Ae el ce, .slice Ab bl cb] :: R)) => show Calls Try.prog 57 #[.pointer (some ⟨g, 0, none⟩), .int .i64 on] W fun e w' => e = .returned (.tuple #[.int .i64 a1, .int .i64 a2]) ∧ Own (fun _ => False) W0 w' (SP.log 85 g x :: SP.log 88 k x :: SP.blk q3 27 #[.pointer (some ⟨g, 0, none⟩)] :: SP.blk q4 31 #[.pointer (some ⟨k, 0, none⟩)] :: SP.blk q5 60 #[.int .i64 kd, .int .i64 on, .int .i64 ot, .int .i64 om, .slice Ae el ce, .slice Ab bl cb] :: R) from by
    have := term_own HX.out.i0 (by omega) o on HI.out.2.1
    rw [ha] at this
    exact this)
  have HT2 := Lib.hid (fun (W : World) (o : Own (fun _ => False) W0 W (SP.log 85 g x :: SP.log 88 k x :: SP.blk q3 27 #[.pointer (some ⟨g, 0, none⟩)] :: SP.blk q4 31 #[.pointer (some ⟨k, 0, none⟩)] :: SP.blk q5 60 #[.int .i64 kd, .int .i64 on, .int .i64 ot, .int .i64 om, .slice Ae el ce, .slice Ab bl cb] :: R)) => show Calls Try.prog 72 #[.pointer (some ⟨k, 0, none⟩), .int .i64 on] W fun e w' => e = .returned (.tuple #[.int .i64 a1, .int .i64 a2]) ∧ Own (fun _ => False) W0 w' (SP.log 85 g x :: SP.log 88 k x :: SP.blk q3 27 #[.pointer (some ⟨g, 0, none⟩)] :: SP.blk q4 31 #[.pointer (some ⟨k, 0, none⟩)] :: SP.blk q5 60 #[.int .i64 kd, .int .i64 on, .int .i64 ot, .int .i64 om, .slice Ae el ce, .slice Ab bl cb] :: R) from by
    have := rat_own HX.out o.swap on HI.out.2.1
    rw [ha] at this
    exact this.mono fun e w' ⟨h1, h2⟩ => ⟨h1, h2.swap⟩)
  have HE1 := Lib.hid (fun (W : World) (o : Own (fun _ => False) W0 W (SP.log 85 g x :: SP.log 88 k x :: SP.blk q3 27 #[.pointer (some ⟨g, 0, none⟩)] :: SP.blk q4 31 #[.pointer (some ⟨k, 0, none⟩)] :: SP.blk q5 60 #[.int .i64 kd, .int .i64 on, .int .i64 ot, .int .i64 om, .slice Ae el ce, .slice Ab bl cb] :: R)) => show Calls Try.prog 30 #[.pointer (some ⟨g, 0, none⟩), .int .i64 on, .int .i64 om] W fun e w' => ∃ A' c', e = .returned (.tuple #[.slice A' nl c', .int .i64 er]) ∧ Own (fun _ => False) W0 w' (SP.ents 26 (.slice A' nl c') NX :: SP.log 85 g x :: SP.log 88 k x :: SP.blk q3 27 #[.pointer (some ⟨g, 0, none⟩)] :: SP.blk q4 31 #[.pointer (some ⟨k, 0, none⟩)] :: SP.blk q5 60 #[.int .i64 kd, .int .i64 on, .int .i64 ot, .int .i64 om, .slice Ae el ce, .slice Ab bl cb] :: R) from by
    have := entries_own HX.out o on om HI.out.2.1 HI.out.2.2.2
    rw [hn] at this
    simp only [hnl] at this
    exact this)
  have HE2 := Lib.hid (fun (W : World) (A1 : Option Addr) (c1 : Nat) (o : Own (fun _ => False) W0 W (SP.ents 26 (.slice A1 nl c1) NX :: SP.log 85 g x :: SP.log 88 k x :: SP.blk q3 27 #[.pointer (some ⟨g, 0, none⟩)] :: SP.blk q4 31 #[.pointer (some ⟨k, 0, none⟩)] :: SP.blk q5 60 #[.int .i64 kd, .int .i64 on, .int .i64 ot, .int .i64 om, .slice Ae el ce, .slice Ab bl cb] :: R)) => show Calls Try.prog 73 #[.pointer (some ⟨k, 0, none⟩), .int .i64 on, .int .i64 om] W fun e w' => ∃ A' c', e = .returned (.tuple #[.slice A' nl c', .int .i64 er]) ∧ Own (fun _ => False) W0 w' (SP.ents 26 (.slice A' nl c') NX :: SP.ents 26 (.slice A1 nl c1) NX :: SP.log 85 g x :: SP.log 88 k x :: SP.blk q3 27 #[.pointer (some ⟨g, 0, none⟩)] :: SP.blk q4 31 #[.pointer (some ⟨k, 0, none⟩)] :: SP.blk q5 60 #[.int .i64 kd, .int .i64 on, .int .i64 ot, .int .i64 om, .slice Ae el ce, .slice Ab bl cb] :: R) from by
    have := rentries_own HX.out (o.pick (L := [_, _, _]) [2, 0, 1]) on om HI.out.2.1 HI.out.2.2.2
    rw [hn] at this
    simp only [hnl] at this
    exact this.mono fun e w' ⟨A', c', h1, h2⟩ => ⟨A', c', h1, h2.pick (L := [_, _, _, _]) [0, 2, 3, 1]⟩)
  have HH1 := Lib.hid (fun (W : World) (o : Own (fun _ => False) W0 W (SP.log 85 g x :: SP.log 88 k x :: SP.blk q3 27 #[.pointer (some ⟨g, 0, none⟩)] :: SP.blk q4 31 #[.pointer (some ⟨k, 0, none⟩)] :: SP.blk q5 60 #[.int .i64 kd, .int .i64 on, .int .i64 ot, .int .i64 om, .slice Ae el ce, .slice Ab bl cb] :: R)) => show Calls Try.prog 54 #[.pointer (some ⟨g, 0, none⟩), .int .i64 on, .int .i64 ot] W fun e w' => e = .returned (.bool z1) ∧ Own (fun _ => False) W0 w' (SP.log 85 g x :: SP.log 88 k x :: SP.blk q3 27 #[.pointer (some ⟨g, 0, none⟩)] :: SP.blk q4 31 #[.pointer (some ⟨k, 0, none⟩)] :: SP.blk q5 60 #[.int .i64 kd, .int .i64 on, .int .i64 ot, .int .i64 om, .slice Ae el ce, .slice Ab bl cb] :: R) from by
    have := has_own HX.out.i0 (by omega) o on ot HI.out.2.1
    rw [hz1] at this
    exact this)
  have HH2 := Lib.hid (fun (W : World) (o : Own (fun _ => False) W0 W (SP.log 85 g x :: SP.log 88 k x :: SP.blk q3 27 #[.pointer (some ⟨g, 0, none⟩)] :: SP.blk q4 31 #[.pointer (some ⟨k, 0, none⟩)] :: SP.blk q5 60 #[.int .i64 kd, .int .i64 on, .int .i64 ot, .int .i64 om, .slice Ae el ce, .slice Ab bl cb] :: R)) => show Calls Try.prog 55 #[.pointer (some ⟨k, 0, none⟩), .int .i64 on, .int .i64 ot] W fun e w' => e = .returned (.bool z1) ∧ Own (fun _ => False) W0 w' (SP.log 85 g x :: SP.log 88 k x :: SP.blk q3 27 #[.pointer (some ⟨g, 0, none⟩)] :: SP.blk q4 31 #[.pointer (some ⟨k, 0, none⟩)] :: SP.blk q5 60 #[.int .i64 kd, .int .i64 on, .int .i64 ot, .int .i64 om, .slice Ae el ce, .slice Ab bl cb] :: R) from by
    have := rhas_own HX.out o.swap on ot HI.out.2.1
    rw [hz1] at this
    exact this.mono fun e w' ⟨h1, h2⟩ => ⟨h1, h2.swap⟩)
  have HH3 := Lib.hid (fun (W : World) (o : Own (fun _ => False) W0 W (SP.log 85 g x :: SP.log 88 k x :: SP.blk q3 27 #[.pointer (some ⟨g, 0, none⟩)] :: SP.blk q4 31 #[.pointer (some ⟨k, 0, none⟩)] :: SP.blk q5 60 #[.int .i64 kd, .int .i64 on, .int .i64 ot, .int .i64 om, .slice Ae el ce, .slice Ab bl cb] :: R)) => show Calls Try.prog 25 #[.pointer (some ⟨g, 0, none⟩), .int .i64 on, .int .i64 ot] W fun e w' => e = .returned (.bool z2) ∧ Own (fun _ => False) W0 w' (SP.log 85 g x :: SP.log 88 k x :: SP.blk q3 27 #[.pointer (some ⟨g, 0, none⟩)] :: SP.blk q4 31 #[.pointer (some ⟨k, 0, none⟩)] :: SP.blk q5 60 #[.int .i64 kd, .int .i64 on, .int .i64 ot, .int .i64 om, .slice Ae el ce, .slice Ab bl cb] :: R) from by
    have := newer_own (by omega) (fun j e h => (HX.out.idx j e h).1) o on ot
    rw [hz2] at this
    exact this)
  have HH4 := Lib.hid (fun (W : World) (o : Own (fun _ => False) W0 W (SP.log 85 g x :: SP.log 88 k x :: SP.blk q3 27 #[.pointer (some ⟨g, 0, none⟩)] :: SP.blk q4 31 #[.pointer (some ⟨k, 0, none⟩)] :: SP.blk q5 60 #[.int .i64 kd, .int .i64 on, .int .i64 ot, .int .i64 om, .slice Ae el ce, .slice Ab bl cb] :: R)) => show Calls Try.prog 74 #[.pointer (some ⟨k, 0, none⟩), .int .i64 on, .int .i64 ot] W fun e w' => e = .returned (.bool z2) ∧ Own (fun _ => False) W0 w' (SP.log 85 g x :: SP.log 88 k x :: SP.blk q3 27 #[.pointer (some ⟨g, 0, none⟩)] :: SP.blk q4 31 #[.pointer (some ⟨k, 0, none⟩)] :: SP.blk q5 60 #[.int .i64 kd, .int .i64 on, .int .i64 ot, .int .i64 om, .slice Ae el ce, .slice Ab bl cb] :: R) from by
    have := rnewer_own HX.out o.swap on ot
    rw [hz2] at this
    exact this.mono fun e w' ⟨h1, h2⟩ => ⟨h1, h2.swap⟩)
  have HH5 := Lib.hid (fun (W : World) (o : Own (fun _ => False) W0 W (SP.log 85 g x :: SP.log 88 k x :: SP.blk q3 27 #[.pointer (some ⟨g, 0, none⟩)] :: SP.blk q4 31 #[.pointer (some ⟨k, 0, none⟩)] :: SP.blk q5 60 #[.int .i64 kd, .int .i64 on, .int .i64 ot, .int .i64 om, .slice Ae el ce, .slice Ab bl cb] :: R)) => show Calls Try.prog 24 #[.pointer (some ⟨g, 0, none⟩), .int .i64 on, .int .i64 ot] W fun e w' => e = .returned (.int .i64 z3) ∧ Own (fun _ => False) W0 w' (SP.log 85 g x :: SP.log 88 k x :: SP.blk q3 27 #[.pointer (some ⟨g, 0, none⟩)] :: SP.blk q4 31 #[.pointer (some ⟨k, 0, none⟩)] :: SP.blk q5 60 #[.int .i64 kd, .int .i64 on, .int .i64 ot, .int .i64 om, .slice Ae el ce, .slice Ab bl cb] :: R) from by
    have := hint_own HX.out o on ot HI.out.2.1
    rw [hz3] at this
    exact this)
  have HH6 := Lib.hid (fun (W : World) (o : Own (fun _ => False) W0 W (SP.log 85 g x :: SP.log 88 k x :: SP.blk q3 27 #[.pointer (some ⟨g, 0, none⟩)] :: SP.blk q4 31 #[.pointer (some ⟨k, 0, none⟩)] :: SP.blk q5 60 #[.int .i64 kd, .int .i64 on, .int .i64 ot, .int .i64 om, .slice Ae el ce, .slice Ab bl cb] :: R)) => show Calls Try.prog 75 #[.pointer (some ⟨k, 0, none⟩), .int .i64 on, .int .i64 ot] W fun e w' => e = .returned (.int .i64 z3) ∧ Own (fun _ => False) W0 w' (SP.log 85 g x :: SP.log 88 k x :: SP.blk q3 27 #[.pointer (some ⟨g, 0, none⟩)] :: SP.blk q4 31 #[.pointer (some ⟨k, 0, none⟩)] :: SP.blk q5 60 #[.int .i64 kd, .int .i64 on, .int .i64 ot, .int .i64 om, .slice Ae el ce, .slice Ab bl cb] :: R) from by
    have := rhint_own HX.out o.swap on ot HI.out.2.1
    rw [hz3] at this
    exact this.mono fun e w' ⟨h1, h2⟩ => ⟨h1, h2.swap⟩)
  have HNa := Lib.hid (fun (W : World) => num_calls W a2 ⟨by omega, by omega⟩)
  have HNe := Lib.hid (fun (W : World) => num_calls W er ⟨by omega, by omega⟩)
  have HY := Lib.hid (And.intro hnd hnl)
  clear ha hn hnl hnd hz1 hz2 hz3 hlen ae1 ae2 ee1 ee2
  go_wp2_with fail
  refine (HT1.out _ HO.out).mono ?_
  rintro e w2 ⟨rfl, o2⟩
  have O2 := Lib.hid o2
  clear p3 p4 e0 e1 e2 e3 e4 e5
  obtain ⟨p3, p4, e0, e1, e2, e3, e4, e5⟩ := HCELL.out _ _ _ _ o2
  clear o2 HT1 HO
  go_wp2_with fail
  refine (HT2.out _ O2.out).mono ?_
  rintro e w3 ⟨rfl, o3⟩
  have O3 := Lib.hid o3
  clear p3 p4 e0 e1 e2 e3 e4 e5
  obtain ⟨p3, p4, e0, e1, e2, e3, e4, e5⟩ := HCELL.out _ _ _ _ o3
  clear o3 HT2 O2
  go_wp2_with fail
  refine (HE1.out _ O3.out).mono ?_
  rintro e w4 ⟨A2, c2, rfl, o4⟩
  have O4 := Lib.hid o4
  clear p3 p4 e0 e1 e2 e3 e4 e5
  obtain ⟨p3, p4, e0, e1, e2, e3, e4, e5⟩ := HCELL.out _ _ _ _ o4.pop
  clear o4 HE1 O3
  go_wp2_with fail
  refine (HE2.out _ _ _ O4.out).mono ?_
  rintro e w5 ⟨A3, c3, rfl, o5⟩
  have hS := sameents_own (ca := c2) (cb := c3) (xs := NX) (ys := NX) o5 (EReads.of_ents.more [_]) EReads.of_ents (by have := HY.out.1.1; omega) HY.out.1.2
  rw [show decide (NX = NX) = true from decide_eq_true rfl, HY.out.2] at hS
  have HS := Lib.hid hS
  clear p3 p4 e0 e1 e2 e3 e4 e5
  clear o5 hS HE2 O4
  go_wp2_with fail
  refine (HS.out).mono ?_
  rintro e w6 ⟨rfl, o6⟩
  have HOv := Lib.hid (over_own HY.out.2 (by have := HY.out.1.1; rw [HY.out.2] at this; omega) HY.out.1.2 o6.pop)
  clear o6 HS
  go_wp2_with fail
  refine (HOv.out).mono ?_
  rintro e w7 ⟨⟨v, rfl⟩, o7⟩
  have O7 := Lib.hid o7
  obtain ⟨p3, p4, e0, e1, e2, e3, e4, e5⟩ := HCELL.out _ _ _ _ o7
  have qq1 : (z1 == z1) = true := by simp
  have qq2 : (z2 == z2) = true := by simp
  have qq3 : (z3 == z3) = true := by simp
  have qq4 : (a1 == a1) = true := by simp
  have qq5 : (a2 == a2) = true := by simp
  have qq6 : (er == er) = true := by simp
  clear o7 HOv
  have HCS := Lib.hid (fun (W : World) (a b : SP) (R' : List SP) (o : Own (fun _ => False) W0 W (a :: b :: SP.blk q3 27 #[.pointer (some ⟨g, 0, none⟩)] :: SP.blk q4 31 #[.pointer (some ⟨k, 0, none⟩)] :: SP.blk q5 60 #[.int .i64 kd, .int .i64 on, .int .i64 ot, .int .i64 om, .slice Ae el ce, .slice Ab bl cb] :: R')) => show W.cell? ⟨q3, 0, none⟩ = some (.pointer (some ⟨g, 0, none⟩)) ∧ W.cell? ⟨q4, 0, none⟩ = some (.pointer (some ⟨k, 0, none⟩)) ∧ W.cell? ⟨q5, 1, none⟩ = some (.int .i64 on) ∧ W.cell? ⟨q5, 2, none⟩ = some (.int .i64 ot) from by
    obtain ⟨p3, p4, e0, e1, e2, e3, e4, e5⟩ := HCELL.out _ _ _ _ o
    exact ⟨p3, p4, e1, e2⟩)
  go_upto_region 48 with (fail)
  go_region_held3 (fun W => W.cell? ⟨q3, 0, none⟩ = some (.pointer (some ⟨g, 0, none⟩)) ∧ W.cell? ⟨q4, 0, none⟩ = some (.pointer (some ⟨k, 0, none⟩)) ∧ W.cell? ⟨q5, 1, none⟩ = some (.int .i64 on) ∧ W.cell? ⟨q5, 2, none⟩ = some (.int .i64 ot))
    (first | go_keep | exact ⟨p3, p4, e1, e2⟩ | exact K0.out | exact K1.out | exact K2.out | exact K3.out | exact K4.out | exact K5.out)
    (first
      | (refine step_callW 54 _ _ rfl Try.func54 (by kernel_rfl) (by kernel_rfl) #[.pointer (some ⟨g, 0, none⟩), .int .i64 on, .int .i64 ot] (by rfl) (by rfl) ?_
         refine (HH1.out _ O7.out.drew).mono ?_
         rintro e w0a ⟨rfl, o0⟩
         refine ⟨_, rfl, ?_⟩
         have K0 := Lib.hid (HCS.out _ _ _ _ o0)
         have O0 := Lib.hid o0
         clear o0)
      | (refine step_callW 55 _ _ rfl Try.func55 (by kernel_rfl) (by kernel_rfl) #[.pointer (some ⟨k, 0, none⟩), .int .i64 on, .int .i64 ot] (by rfl) (by rfl) ?_
         refine (HH2.out _ O0.out).mono ?_
         rintro e w1a ⟨rfl, o1⟩
         refine ⟨_, rfl, ?_⟩
         have K1 := Lib.hid (HCS.out _ _ _ _ o1)
         have O1 := Lib.hid o1
         clear o1)
      | (refine step_callW 25 _ _ rfl Try.func25 (by kernel_rfl) (by kernel_rfl) #[.pointer (some ⟨g, 0, none⟩), .int .i64 on, .int .i64 ot] (by rfl) (by rfl) ?_
         refine (HH3.out _ O1.out).mono ?_
         rintro e w2a ⟨rfl, o2⟩
         refine ⟨_, rfl, ?_⟩
         have K2 := Lib.hid (HCS.out _ _ _ _ o2)
         have O2 := Lib.hid o2
         clear o2)
      | (refine step_callW 74 _ _ rfl Try.func74 (by kernel_rfl) (by kernel_rfl) #[.pointer (some ⟨k, 0, none⟩), .int .i64 on, .int .i64 ot] (by rfl) (by rfl) ?_
         refine (HH4.out _ O2.out).mono ?_
         rintro e w3a ⟨rfl, o3⟩
         refine ⟨_, rfl, ?_⟩
         have K3 := Lib.hid (HCS.out _ _ _ _ o3)
         have O3 := Lib.hid o3
         clear o3)
      | (refine step_callW 24 _ _ rfl Try.func24 (by kernel_rfl) (by kernel_rfl) #[.pointer (some ⟨g, 0, none⟩), .int .i64 on, .int .i64 ot] (by rfl) (by rfl) ?_
         refine (HH5.out _ O3.out).mono ?_
         rintro e w4a ⟨rfl, o4⟩
         refine ⟨_, rfl, ?_⟩
         have K4 := Lib.hid (HCS.out _ _ _ _ o4)
         have O4 := Lib.hid o4
         clear o4)
      | (refine step_callW 75 _ _ rfl Try.func75 (by kernel_rfl) (by kernel_rfl) #[.pointer (some ⟨k, 0, none⟩), .int .i64 on, .int .i64 ot] (by rfl) (by rfl) ?_
         refine (HH6.out _ O4.out).mono ?_
         rintro e w5a ⟨rfl, o5⟩
         refine ⟨_, rfl, ?_⟩
         have K5 := Lib.hid (HCS.out _ _ _ _ o5)
         have O5 := Lib.hid o5
         clear o5))
  clear p3 p4 e0 e1 e2 e3 e4 e5
  go_wp2_with fail
  refine (HNa.out _).mono ?_
  rintro e w8 ⟨rfl, rfl⟩
  go_wp2_with fail
  refine (HNe.out _).mono ?_
  rintro e w8 ⟨rfl, rfl⟩
  go_wp2
  go_ret
  first | exact ⟨rfl, x, HX.out, O5.out.pick (L := [_, _, _, _, _]) [0, 1]⟩ | exact ⟨x, rfl, HX.out, O5.out.pick (L := [_, _, _, _, _]) [0, 1]⟩
end
theorem does_own {W0 w : World} {R : List SP} {g k : Nat} {x : Lg} (hx : x.Ok) (kd on ot om : Int) (Ae Ab : Option Addr) (ce cb : Nat) (oe : List E) (obb : List UInt8) (hE : EArg W0 Ae ce oe) (h64 : oe.length ≤ 64) (hB : obb.length ≤ cb ∧ cb ≤ maxLen ∧ obb.length ≤ 140737488351232 ∧ Rd W0 Ab (bts obb)) (hi : In64 kd ∧ In64 on ∧ In64 ot ∧ In64 om)
    (h : Own (fun _ => False) W0 w (SP.log 85 g x :: SP.log 88 k x :: R)) :
    Calls Try.prog 44 #[.pointer (some ⟨g, 0, none⟩), .pointer (some ⟨k, 0, none⟩), .agg #[.int .i64 kd, .int .i64 on, .int .i64 ot, .int .i64 om, .slice Ae oe.length ce, .slice Ab obb.length cb]] w fun e w' => ∃ y : Lg, e = .returned (.bool true) ∧ y.Ok ∧ Own (fun _ => False) W0 w' (SP.log 85 g y :: SP.log 88 k y :: R) := by
  by_cases k0 : kd = 0
  · exact does0_own hx kd on ot om Ae Ab ce cb oe obb hE h64 hB hi k0 h
  by_cases k1 : kd = 1
  · exact does1_own hx kd on ot om Ae Ab ce cb oe obb hE h64 hB hi k1 h
  by_cases k2 : kd = 2
  · exact does2_own hx kd on ot om Ae Ab ce cb oe obb hE h64 hB hi k2 h
  by_cases k3 : kd = 3
  · exact does3_own hx kd on ot om Ae Ab ce cb oe obb hE h64 hB hi k3 h
  by_cases k4 : kd = 4
  · exact does4_own hx kd on ot om Ae Ab ce cb oe obb hE h64 hB hi k4 h
  by_cases k5 : kd = 5
  · exact does5_own hx kd on ot om Ae Ab ce cb oe obb hE h64 hB hi k5 h
  by_cases k6 : kd = 6
  · exact does6_own hx kd on ot om Ae Ab ce cb oe obb hE h64 hB hi k6 h
  by_cases k7 : kd = 7
  · exact does7_own hx kd on ot om Ae Ab ce cb oe obb hE h64 hB hi k7 h
  by_cases k8 : kd = 8
  · exact does8_own hx kd on ot om Ae Ab ce cb oe obb hE h64 hB hi k8 h
  exact doesE_own hx kd on ot om Ae Ab ce cb oe obb hE h64 hB hi ⟨k0, k1, k2, k3, k4, k5, k6, k7, k8⟩ h

end Go.Proofs.Ytepnkhiclgjmpaa
