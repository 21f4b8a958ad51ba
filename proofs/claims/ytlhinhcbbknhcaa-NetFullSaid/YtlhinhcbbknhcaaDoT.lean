/-
  does of chapter 14, kind some: the network and the document's answer the same, and stay the same.
  Conditions: the two are beside each other (Tw); the operation lies in memory as it was handed in.
-/
import Derived.Test.YtlhinhcbbknhcaaBoth2
import Derived.Test.YtlhinhcbbknhcaaOps
import Derived.Deep.Cut
namespace Go.Proofs.Ytlhinhcbbknhcaa
set_option linter.unusedVariables false
set_option linter.unusedSimpArgs false
open Go.RowKit

section
variable {W0 w : World} {R : List SP} {g gr k : Nat} {nodes last : Int} {cut : List Bool} {C : List (Int × Int)} {L : List M}
set_option maxRecDepth 100000 in
set_option maxHeartbeats 16000000 in
theorem do0_own (t : Tw nodes last cut C L k) (hkk : k ≤ 1000000) (kd a b : Int) (up : Bool) (Ad : Option Addr) (cd : Nat) (dat : List UInt8) (hD : dat.length ≤ cd ∧ cd ≤ maxLen ∧ dat.length ≤ 140737488351232 ∧ Rd W0 Ad (bts dat)) (hi : In64 kd ∧ In64 a ∧ In64 b) (hk : kd = 0) (h : Own (fun _ => False) W0 w (SP.net g nodes cut last L :: SP.rnet gr nodes last L C :: R)) :
    Calls Try.prog 17 #[.pointer (some ⟨g, 0, none⟩), .pointer (some ⟨gr, 0, none⟩), .agg #[.int .i64 kd, .int .i64 a, .int .i64 b, .bool up, .slice Ad dat.length cd]] w fun e w' => ∃ last' cut' C' L', e = .returned (.bool true) ∧ Tw nodes last' cut' C' L' (k + 1) ∧ Own (fun _ => False) W0 w' (SP.net g nodes cut' last' L' :: SP.rnet gr nodes last' L' C' :: R) := by
  obtain ⟨dl, hdl⟩ : ∃ dl, dat.length = dl := ⟨_, rfl⟩
  have HT := Lib.hid t
  have HD := Lib.hid hD
  have HI := Lib.hid hi
  have HL := Lib.hid hdl
  have hd1 := hD.1
  have hd2 := hD.2.2.1
  rw [hdl] at hd1 hd2 ⊢
  obtain ⟨q5, hq5⟩ : ∃ q5, w.heap.size = q5 := ⟨_, rfl⟩
  have HQ := Lib.hid hq5
  have o1 := h.alloc #[.int .i64 kd, .int .i64 a, .int .i64 b, .bool up, .slice Ad dl cd] 29
  rw [hq5] at o1
  have HO0 := Lib.hid (o1.pick (L := [_, _, _]) [1, 2, 0])
  have HCELL := Lib.hid (fun (W : World) (x y : SP) (R' : List SP) (o : Own (fun _ => False) W0 W (x :: y :: SP.blk q5 29 #[.int .i64 kd, .int .i64 a, .int .i64 b, .bool up, .slice Ad dl cd] :: R')) => show W.cell? ⟨q5, 0, none⟩ = some (.int .i64 kd) ∧ W.cell? ⟨q5, 1, none⟩ = some (.int .i64 a) ∧ W.cell? ⟨q5, 2, none⟩ = some (.int .i64 b) ∧ W.cell? ⟨q5, 3, none⟩ = some (.bool up) ∧ W.cell? ⟨q5, 4, none⟩ = some (.slice Ad dl cd) from ⟨(o.pick (L := [_, _, _]) [2]).blk_cell 0, (o.pick (L := [_, _, _]) [2]).blk_cell 1, (o.pick (L := [_, _, _]) [2]).blk_cell 2, (o.pick (L := [_, _, _]) [2]).blk_cell 3, (o.pick (L := [_, _, _]) [2]).blk_cell 4⟩)
  have hk0 : (kd == 0) = true := by simp [hk]
  clear h o1 hD hi hdl hq5 hk t
  go_enter Try.func17, Try.ntmps17
  go_upto_region 1 with (fail)
  simp only [HQ.out]
  obtain ⟨w1, hw1⟩ : ∃ W, w.alloc (.cells #[.int .i64 kd, .int .i64 a, .int .i64 b, .bool up, .slice Ad dl cd] 29) = W := ⟨_, rfl⟩
  have HO := HO0
  rw [hw1] at HO ⊢
  clear hw1 HO0
  obtain ⟨e0, e1, e2, e3, e4⟩ := HCELL.out _ _ _ _ HO.out
  obtain ⟨r, last2, L2, ht, hA, hB⟩ := both_send HT.out hkk a b dat (by rw [HL.out]; exact hd2)
  have HTT := Lib.hid ht
  have HLt := Lib.hid (show Calls Try.prog 32 #[.slice Ad dl cd] w1 fun e w' => ∃ A1 c1, e = .returned (.slice A1 dl c1) ∧ dl + 1 ≤ c1 ∧ c1 ≤ maxLen ∧ Own (fun _ => False) W0 w' (SP.row 5 1 (.slice A1 (dl + 1) c1) (bts (dat ++ [201])) :: SP.net g nodes cut last L :: SP.rnet gr nodes last L C :: SP.blk q5 29 #[.int .i64 kd, .int .i64 a, .int .i64 b, .bool up, .slice Ad dl cd] :: R) from by
    have := lent_own (cb := cd) HO.out (reads_arg HD.out.2.2.2) HD.out.2.2.1
    rw [HL.out] at this
    exact this)
  have HC1 := Lib.hid (fun (W : World) (A1 : Option Addr) (c1 : Nat) (o : Own (fun _ => False) W0 W (SP.net g nodes cut last L :: SP.rnet gr nodes last L C :: SP.blk q5 29 #[.int .i64 kd, .int .i64 a, .int .i64 b, .bool up, .slice Ad dl cd] :: SP.row 5 1 (.slice A1 (dl + 1) c1) (bts (dat ++ [201])) :: R)) => show Calls Try.prog 11 #[.pointer (some ⟨g, 0, none⟩), .int .i64 a, .int .i64 b, .slice A1 dl c1] W fun e w' => e = .returned (.bool r) ∧ Own (fun _ => False) W0 w' (SP.net g nodes cut last2 L2 :: SP.rnet gr nodes last L C :: SP.blk q5 29 #[.int .i64 kd, .int .i64 a, .int .i64 b, .bool up, .slice Ad dl cd] :: SP.row 5 1 (.slice A1 (dl + 1) c1) (bts (dat ++ [201])) :: R) from by
    have := hA _ _ W _ g A1 c1 o (Reads.more (reads_front (d := [201])) [_, _])
    rw [HL.out] at this
    exact this)
  have HC2 := Lib.hid (fun (W : World) (A1 : Option Addr) (c1 : Nat) (o : Own (fun _ => False) W0 W (SP.net g nodes cut last2 L2 :: SP.rnet gr nodes last L C :: SP.blk q5 29 #[.int .i64 kd, .int .i64 a, .int .i64 b, .bool up, .slice Ad dl cd] :: SP.row 5 1 (.slice A1 (dl + 1) c1) (bts (dat ++ [201])) :: R)) => show Calls Try.prog 27 #[.pointer (some ⟨gr, 0, none⟩), .int .i64 a, .int .i64 b, .slice Ad dl cd] W fun e w' => e = .returned (.bool r) ∧ Own (fun _ => False) W0 w' (SP.net g nodes cut last2 L2 :: SP.rnet gr nodes last2 L2 C :: SP.blk q5 29 #[.int .i64 kd, .int .i64 a, .int .i64 b, .bool up, .slice Ad dl cd] :: SP.row 5 1 (.slice A1 (dl + 1) c1) (bts (dat ++ [201])) :: R) from by
    have := hB _ _ W _ gr Ad cd o.swap (reads_arg HD.out.2.2.2)
    rw [HL.out] at this
    exact this.mono fun e w' ⟨h1, h2⟩ => ⟨h1, h2.swap⟩)
  clear ht hA hB
  have HCS := Lib.hid (fun (W : World) (x y : SP) (R' : List SP) (o : Own (fun _ => False) W0 W (x :: y :: SP.blk q5 29 #[.int .i64 kd, .int .i64 a, .int .i64 b, .bool up, .slice Ad dl cd] :: R')) => show W.cell? ⟨q5, 1, none⟩ = some (.int .i64 a) ∧ W.cell? ⟨q5, 2, none⟩ = some (.int .i64 b) ∧ W.cell? ⟨q5, 4, none⟩ = some (.slice Ad dl cd) from by
    obtain ⟨e0, e1, e2, e3, e4⟩ := HCELL.out _ _ _ _ o
    exact ⟨e1, e2, e4⟩)
  go_upto_region 3 with (fail)
  go_wp2_with fail
  refine (HLt.out).mono ?_
  rintro e w2 ⟨A1, c1, rfl, hc1, hc2, o2⟩
  clear e0 e1 e2 e3 e4 HO HLt
  obtain ⟨e1, e2, e4⟩ := HCS.out _ _ _ _ (o2.pick (L := [_, _, _, _]) [1, 2, 3])
  have O2 := Lib.hid (o2.pick (L := [_, _, _, _]) [1, 2, 3, 0])
  clear o2
  go_upto_region 4 with (fail)
  go_region_held3 (fun W => W.cell? ⟨q5, 1, none⟩ = some (.int .i64 a) ∧ W.cell? ⟨q5, 2, none⟩ = some (.int .i64 b) ∧ W.cell? ⟨q5, 4, none⟩ = some (.slice Ad dl cd))
    (first | go_keep | exact ⟨e1, e2, e4⟩ | exact K0.out | exact K1.out)
    (first
      | (refine step_callW 11 _ _ rfl Try.func11 (by kernel_rfl) (by kernel_rfl) #[.pointer (some ⟨g, 0, none⟩), .int .i64 a, .int .i64 b, .slice A1 dl c1] (by rfl) (by rfl) ?_
         refine (HC1.out _ A1 c1 O2.out.drew).mono ?_
         rintro e w0a ⟨rfl, o0⟩
         refine ⟨_, rfl, ?_⟩
         have K0 := Lib.hid (HCS.out _ _ _ _ o0)
         have O0 := Lib.hid o0
         clear o0)
      | (refine step_callW 27 _ _ rfl Try.func27 (by kernel_rfl) (by kernel_rfl) #[.pointer (some ⟨gr, 0, none⟩), .int .i64 a, .int .i64 b, .slice Ad dl cd] (by rfl) (by rfl) ?_
         refine (HC2.out _ A1 c1 O0.out).mono ?_
         rintro e w1a ⟨rfl, o1⟩
         refine ⟨_, rfl, ?_⟩
         have K1 := Lib.hid (HCS.out _ _ _ _ o1)
         have O1 := Lib.hid o1
         clear o1))
  clear e1 e2 e4
  obtain ⟨e1, e2, e4⟩ := K1.out
  have HKp := Lib.hid (show Calls Try.prog 33 #[.slice A1 dl c1, .slice Ad dl cd] w1a fun e w' => e = .returned (.bool true) ∧ Own (fun _ => False) W0 w' (SP.net g nodes cut last2 L2 :: SP.rnet gr nodes last2 L2 C :: SP.blk q5 29 #[.int .i64 kd, .int .i64 a, .int .i64 b, .bool up, .slice Ad dl cd] :: SP.row 5 1 (.slice A1 (dl + 1) c1) (bts (dat ++ [201])) :: R) from by
    have := kept_own (c := c1) (cb := cd) O1.out ((O1.out.pick (L := [_, _, _, _]) [3]).rd) (HD.out.2.2.2.below O1.out.below) HD.out.2.2.1 (by rw [HL.out]; exact hc1) hc2
    rw [HL.out] at this
    exact this)
  clear K0 K1 O0
  go_upto_region 5 with (fail)
  go_wp2_with fail
  refine (HKp.out).mono ?_
  rintro e w6 ⟨rfl, o6⟩
  have O6 := Lib.hid (o6.pick (L := [_, _, _, _]) [3, 0, 1])
  clear o6 HKp e1 e2 e4
  go_wp2
  go_loopw [10] (fun tj wr => ∃ (j : Nat) (ys : List Value), j ≤ dl ∧ tj = .int .i64 j ∧ ys.length = dl + 1 ∧ Own (fun _ => False) W0 wr (SP.row 5 1 (.slice A1 (dl + 1) c1) ys :: SP.net g nodes cut last2 L2 :: SP.rnet gr nodes last2 L2 C :: R)) (fun tj _ => dl - (intOf tj).toNat)
  case atStart => exact ⟨0, _, Nat.zero_le _, rfl, by rw [bts_length, List.length_append, HL.out]; rfl, O6.out⟩
  case round =>
    obtain ⟨j, ys, hj, rfl, hys, hown⟩ := hrel
    clear O6
    by_cases hjm : j < dl
    · have j1 : (j : Int) < (dl : Int) := by omega
      obtain ⟨y, hy⟩ : ∃ y, ys[j]? = some y := ⟨_, List.getElem?_eq_getElem (by omega)⟩
      obtain ⟨gd, od, rfl, k0, f0⟩ := hown.cell hy
      have O7 := Lib.hid (hown.store (j := j) (by omega) (.int .u8 33))
      have HY := Lib.hid hys
      clear hown hy hys
      go_wp2
      go_roundw
      case rel => exact ⟨j + 1, _, by omega, by go_num, by rw [List.length_set]; exact HY.out, O7.out⟩
      case measure => simp [intOf]; omega
    · have j1 : ¬ (j : Int) < (dl : Int) := by omega
      have O7 := Lib.hid (hown.pick (L := [_, _, _]) [1, 2])
      clear hown hys
      go_wp2
      go_ret
      first | exact ⟨rfl, last2, cut, C, L2, HTT.out, O7.out⟩ | exact ⟨last2, cut, C, L2, rfl, HTT.out, O7.out⟩

set_option maxRecDepth 100000 in
set_option maxHeartbeats 16000000 in
theorem do1_own (t : Tw nodes last cut C L k) (hkk : k ≤ 1000000) (kd a b : Int) (up : Bool) (Ad : Option Addr) (cd : Nat) (dat : List UInt8) (hD : dat.length ≤ cd ∧ cd ≤ maxLen ∧ dat.length ≤ 140737488351232 ∧ Rd W0 Ad (bts dat)) (hi : In64 kd ∧ In64 a ∧ In64 b) (hk : kd = 1) (h : Own (fun _ => False) W0 w (SP.net g nodes cut last L :: SP.rnet gr nodes last L C :: R)) :
    Calls Try.prog 17 #[.pointer (some ⟨g, 0, none⟩), .pointer (some ⟨gr, 0, none⟩), .agg #[.int .i64 kd, .int .i64 a, .int .i64 b, .bool up, .slice Ad dat.length cd]] w fun e w' => ∃ last' cut' C' L', e = .returned (.bool true) ∧ Tw nodes last' cut' C' L' (k + 1) ∧ Own (fun _ => False) W0 w' (SP.net g nodes cut' last' L' :: SP.rnet gr nodes last' L' C' :: R) := by
  obtain ⟨dl, hdl⟩ : ∃ dl, dat.length = dl := ⟨_, rfl⟩
  have HT := Lib.hid t
  have HD := Lib.hid hD
  have HI := Lib.hid hi
  have HL := Lib.hid hdl
  have hd1 := hD.1
  have hd2 := hD.2.2.1
  rw [hdl] at hd1 hd2 ⊢
  obtain ⟨q5, hq5⟩ : ∃ q5, w.heap.size = q5 := ⟨_, rfl⟩
  have HQ := Lib.hid hq5
  have o1 := h.alloc #[.int .i64 kd, .int .i64 a, .int .i64 b, .bool up, .slice Ad dl cd] 29
  rw [hq5] at o1
  have HO0 := Lib.hid (o1.pick (L := [_, _, _]) [1, 2, 0])
  have HCELL := Lib.hid (fun (W : World) (x y : SP) (R' : List SP) (o : Own (fun _ => False) W0 W (x :: y :: SP.blk q5 29 #[.int .i64 kd, .int .i64 a, .int .i64 b, .bool up, .slice Ad dl cd] :: R')) => show W.cell? ⟨q5, 0, none⟩ = some (.int .i64 kd) ∧ W.cell? ⟨q5, 1, none⟩ = some (.int .i64 a) ∧ W.cell? ⟨q5, 2, none⟩ = some (.int .i64 b) ∧ W.cell? ⟨q5, 3, none⟩ = some (.bool up) ∧ W.cell? ⟨q5, 4, none⟩ = some (.slice Ad dl cd) from ⟨(o.pick (L := [_, _, _]) [2]).blk_cell 0, (o.pick (L := [_, _, _]) [2]).blk_cell 1, (o.pick (L := [_, _, _]) [2]).blk_cell 2, (o.pick (L := [_, _, _]) [2]).blk_cell 3, (o.pick (L := [_, _, _]) [2]).blk_cell 4⟩)
  have hk0 : (kd == 0) = false := by rw [beq_eq_false_iff_ne, hk]; decide
  have hk1 : (kd == 1) = true := by simp [hk]
  clear h o1 hD hi hdl hq5 hk t
  go_enter Try.func17, Try.ntmps17
  go_upto_region 1 with (fail)
  simp only [HQ.out]
  obtain ⟨w1, hw1⟩ : ∃ W, w.alloc (.cells #[.int .i64 kd, .int .i64 a, .int .i64 b, .bool up, .slice Ad dl cd] 29) = W := ⟨_, rfl⟩
  have HO := HO0
  rw [hw1] at HO ⊢
  clear hw1 HO0
  obtain ⟨e0, e1, e2, e3, e4⟩ := HCELL.out _ _ _ _ HO.out
  obtain ⟨r, m, L2, ht, hmd, hA, hB, hDr⟩ := both_take HT.out a
  obtain ⟨ml, hml⟩ : ∃ ml, m.dat.length = ml := ⟨_, rfl⟩
  have HML := Lib.hid hml
  rw [hml] at hmd
  have HTT := Lib.hid ht
  have HC1 := Lib.hid (show Calls Try.prog 13 #[.pointer (some ⟨g, 0, none⟩), .int .i64 a] w1 fun e w' => ∃ A2 c2, e = .returned (.tuple #[.agg #[.int .i64 m.num, .int .i64 m.frm, .int .i64 m.to, .slice A2 ml c2, .bool m.sp], .bool r]) ∧ Own (fun _ => False) W0 w' (SP.net g nodes cut last L2 :: SP.row 5 1 (.slice A2 ml c2) (bts m.dat) :: SP.rnet gr nodes last L C :: SP.blk q5 29 #[.int .i64 kd, .int .i64 a, .int .i64 b, .bool up, .slice Ad dl cd] :: R) from (hA _ _ w1 _ g HO.out).mono fun e w' ⟨A2, c2, h1, h2⟩ => ⟨A2, c2, by rw [h1, hml]; rfl, by rw [hml] at h2; exact h2⟩)
  have HC2 := Lib.hid (fun (W : World) (q6 : Nat) (Ae : Option Addr) (ce : Nat) (o : Own (fun _ => False) W0 W (SP.blk q6 34 #[.int .i64 m.num, .int .i64 m.frm, .int .i64 m.to, .slice Ae ml ce, .bool m.sp] :: SP.net g nodes cut last L2 :: SP.row 5 1 (.slice Ae ml ce) (bts m.dat) :: SP.rnet gr nodes last L C :: SP.blk q5 29 #[.int .i64 kd, .int .i64 a, .int .i64 b, .bool up, .slice Ad dl cd] :: R)) => show Calls Try.prog 34 #[.pointer (some ⟨gr, 0, none⟩), .int .i64 a] W fun e w' => ∃ A2 c2, e = .returned (.tuple #[.agg #[.int .i64 m.num, .int .i64 m.frm, .int .i64 m.to, .slice A2 ml c2, .bool m.sp], .bool r]) ∧ Own (fun _ => False) W0 w' (SP.row 5 1 (.slice A2 ml c2) (bts m.dat) :: SP.blk q6 34 #[.int .i64 m.num, .int .i64 m.frm, .int .i64 m.to, .slice Ae ml ce, .bool m.sp] :: SP.net g nodes cut last L2 :: SP.row 5 1 (.slice Ae ml ce) (bts m.dat) :: SP.rnet gr nodes last L2 C :: SP.blk q5 29 #[.int .i64 kd, .int .i64 a, .int .i64 b, .bool up, .slice Ad dl cd] :: R) from (hB _ _ W _ gr (o.pick (L := [_, _, _, _]) [3, 0, 1, 2])).mono fun e w' ⟨A2, c2, h1, h2⟩ => ⟨A2, c2, by rw [h1, hml]; rfl, by rw [hml] at h2; exact (h2.pick (L := [_, _, _, _, _]) [1, 2, 3, 4, 0])⟩)
  clear ht hA hB hDr hml
  go_upto_region 12 with (fail)
  go_wp2_with fail
  refine (HC1.out).mono ?_
  rintro e w2 ⟨Ae, ce, rfl, o2⟩
  obtain ⟨q6, hq6⟩ : ∃ q6, w2.heap.size = q6 := ⟨_, rfl⟩
  have HQ6 := Lib.hid hq6
  have o3 := o2.alloc #[.int .i64 m.num, .int .i64 m.frm, .int .i64 m.to, .slice Ae ml ce, .bool m.sp] 34
  rw [hq6] at o3
  have e1x := (HCELL.out _ _ _ _ (o3.pick (L := [_, _, _, _, _]) [1, 3, 4])).2.1
  obtain ⟨w3, hw3⟩ : ∃ x, w2.alloc (.cells #[.int .i64 m.num, .int .i64 m.frm, .int .i64 m.to, .slice Ae ml ce, .bool m.sp] 34) = x := ⟨_, rfl⟩
  have HW3 := Lib.hid hw3
  rw [hw3] at o3 e1x
  have HD2 := Lib.hid (HC2.out w3 q6 Ae ce o3)
  clear o2 o3 HO HC2 HC1 e0 e1 e2 e3 e4 hq6 hw3
  go_upto_region 13 with (fail)
  simp only [HW3.out, HQ6.out]
  go_wp2_with fail
  refine (HD2.out).mono ?_
  rintro e w4 ⟨A2, c2, rfl, o4⟩
  obtain ⟨q7, hq7⟩ : ∃ q7, w4.heap.size = q7 := ⟨_, rfl⟩
  have HQ7 := Lib.hid hq7
  have o5 := o4.alloc #[.int .i64 m.num, .int .i64 m.frm, .int .i64 m.to, .slice A2 ml c2, .bool m.sp] 60
  rw [hq7] at o5
  obtain ⟨w5, hw5⟩ : ∃ x, w4.alloc (.cells #[.int .i64 m.num, .int .i64 m.frm, .int .i64 m.to, .slice A2 ml c2, .bool m.sp] 60) = x := ⟨_, rfl⟩
  have HW5 := Lib.hid hw5
  rw [hw5] at o5
  have x0 := o5.blk_cell 0
  have x1 := o5.blk_cell 1
  have x2 := o5.blk_cell 2
  have x3 := o5.blk_cell 3
  have x4 := o5.blk_cell 4
  have y0 := (o5.pick (L := [_, _, _]) [2]).blk_cell 0
  have y1 := (o5.pick (L := [_, _, _]) [2]).blk_cell 1
  have y2 := (o5.pick (L := [_, _, _]) [2]).blk_cell 2
  have y3 := (o5.pick (L := [_, _, _]) [2]).blk_cell 3
  have y4 := (o5.pick (L := [_, _, _]) [2]).blk_cell 4
  simp only [List.getElem?_toArray, List.getElem?_cons_zero, List.getElem?_cons_succ] at x0 x1 x2 x3 x4 y0 y1 y2 y3 y4
  have HM := Lib.hid (show Calls Try.prog 35 #[.agg #[.int .i64 m.num, .int .i64 m.frm, .int .i64 m.to, .slice Ae ml ce, .bool m.sp], .agg #[.int .i64 m.num, .int .i64 m.frm, .int .i64 m.to, .slice A2 ml c2, .bool m.sp]] w5 fun e w' => e = .returned (.bool true) ∧ Own (fun _ => False) W0 w' (SP.row 5 1 (.slice Ae ml ce) (bts m.dat) :: SP.blk q6 34 #[.int .i64 m.num, .int .i64 m.frm, .int .i64 m.to, .slice Ae ml ce, .bool m.sp] :: SP.net g nodes cut last L2 :: SP.rnet gr nodes last L2 C :: R) from by
    have := mail_own (ca := ce) (cb := c2) (m := m) (o5.pick (L := [_, _, _, _, _, _, _]) [4, 2, 3, 5]) ((o5.pick (L := [_, _, _, _, _]) [4]).rd) ((o5.pick (L := [_, _]) [1]).rd) (by rw [HML.out]; exact hmd)
    unfold mailV at this
    rw [HML.out] at this
    exact this)
  clear o4 o5 hq7 hw5 HD2 e1x
  go_upto_region 14 with (fail)
  simp only [HW5.out, HQ7.out]
  go_wp2_with fail
  refine (HM.out).mono ?_
  rintro e w6 ⟨rfl, o6⟩
  have O6 := Lib.hid o6
  clear o6 HM x0 x1 x2 x3 x4 y0 y1 y2 y3 y4
  go_wp2
  go_loopw [16] (fun tj wr => ∃ (j : Nat) (ys : List Value), j ≤ ml ∧ tj = .int .i64 j ∧ ys.length = ml ∧ Own (fun _ => False) W0 wr (SP.row 5 1 (.slice Ae ml ce) ys :: SP.blk q6 34 #[.int .i64 m.num, .int .i64 m.frm, .int .i64 m.to, .slice Ae ml ce, .bool m.sp] :: SP.net g nodes cut last L2 :: SP.rnet gr nodes last L2 C :: R)) (fun tj _ => ml - (intOf tj).toNat)
  case atStart => exact ⟨0, _, Nat.zero_le _, rfl, by rw [bts_length, HML.out], O6.out⟩
  case round =>
    obtain ⟨j, ys, hj, rfl, hys, hown⟩ := hrel
    clear O6
    have y3 := (hown.pick (L := [_, _]) [1]).blk_cell 3
    simp only [List.getElem?_toArray, List.getElem?_cons_zero, List.getElem?_cons_succ] at y3
    by_cases hjm : j < ml
    · have j1 : (j : Int) < (ml : Int) := by omega
      obtain ⟨y, hy⟩ : ∃ y, ys[j]? = some y := ⟨_, List.getElem?_eq_getElem (by omega)⟩
      obtain ⟨gd, od, rfl, k0, f0⟩ := hown.cell hy
      have O7 := Lib.hid (hown.store (j := j) (by omega) (.int .u8 32))
      have HY := Lib.hid hys
      clear hown hy hys
      go_wp2
      go_roundw
      case rel => exact ⟨j + 1, _, by omega, by go_num, by rw [List.length_set]; exact HY.out, O7.out⟩
      case measure => simp [intOf]; omega
    · have j1 : ¬ (j : Int) < (ml : Int) := by omega
      have O7 := Lib.hid (hown.pick (L := [_, _, _, _]) [2, 3])
      clear hown hys
      go_wp2
      go_ret
      first | exact ⟨rfl, last, cut, C, L2, HTT.out, O7.out⟩ | exact ⟨last, cut, C, L2, rfl, HTT.out, O7.out⟩

set_option maxRecDepth 100000 in
set_option maxHeartbeats 16000000 in
theorem do2_own (t : Tw nodes last cut C L k) (hkk : k ≤ 1000000) (kd a b : Int) (up : Bool) (Ad : Option Addr) (cd : Nat) (dat : List UInt8) (hD : dat.length ≤ cd ∧ cd ≤ maxLen ∧ dat.length ≤ 140737488351232 ∧ Rd W0 Ad (bts dat)) (hi : In64 kd ∧ In64 a ∧ In64 b) (hk : kd = 2) (h : Own (fun _ => False) W0 w (SP.net g nodes cut last L :: SP.rnet gr nodes last L C :: R)) :
    Calls Try.prog 17 #[.pointer (some ⟨g, 0, none⟩), .pointer (some ⟨gr, 0, none⟩), .agg #[.int .i64 kd, .int .i64 a, .int .i64 b, .bool up, .slice Ad dat.length cd]] w fun e w' => ∃ last' cut' C' L', e = .returned (.bool true) ∧ Tw nodes last' cut' C' L' (k + 1) ∧ Own (fun _ => False) W0 w' (SP.net g nodes cut' last' L' :: SP.rnet gr nodes last' L' C' :: R) := by
  obtain ⟨dl, hdl⟩ : ∃ dl, dat.length = dl := ⟨_, rfl⟩
  have HT := Lib.hid t
  have HD := Lib.hid hD
  have HI := Lib.hid hi
  have HL := Lib.hid hdl
  have hd1 := hD.1
  have hd2 := hD.2.2.1
  rw [hdl] at hd1 hd2 ⊢
  obtain ⟨q5, hq5⟩ : ∃ q5, w.heap.size = q5 := ⟨_, rfl⟩
  have HQ := Lib.hid hq5
  have o1 := h.alloc #[.int .i64 kd, .int .i64 a, .int .i64 b, .bool up, .slice Ad dl cd] 29
  rw [hq5] at o1
  have HO0 := Lib.hid (o1.pick (L := [_, _, _]) [1, 2, 0])
  have HCELL := Lib.hid (fun (W : World) (x y : SP) (R' : List SP) (o : Own (fun _ => False) W0 W (x :: y :: SP.blk q5 29 #[.int .i64 kd, .int .i64 a, .int .i64 b, .bool up, .slice Ad dl cd] :: R')) => show W.cell? ⟨q5, 0, none⟩ = some (.int .i64 kd) ∧ W.cell? ⟨q5, 1, none⟩ = some (.int .i64 a) ∧ W.cell? ⟨q5, 2, none⟩ = some (.int .i64 b) ∧ W.cell? ⟨q5, 3, none⟩ = some (.bool up) ∧ W.cell? ⟨q5, 4, none⟩ = some (.slice Ad dl cd) from ⟨(o.pick (L := [_, _, _]) [2]).blk_cell 0, (o.pick (L := [_, _, _]) [2]).blk_cell 1, (o.pick (L := [_, _, _]) [2]).blk_cell 2, (o.pick (L := [_, _, _]) [2]).blk_cell 3, (o.pick (L := [_, _, _]) [2]).blk_cell 4⟩)
  have hk0 : (kd == 0) = false := by rw [beq_eq_false_iff_ne, hk]; decide
  have hk1 : (kd == 1) = false := by rw [beq_eq_false_iff_ne, hk]; decide
  have hk2 : (kd == 2) = true := by simp [hk]
  clear h o1 hD hi hdl hq5 hk t
  go_enter Try.func17, Try.ntmps17
  go_upto_region 1 with (fail)
  simp only [HQ.out]
  obtain ⟨w1, hw1⟩ : ∃ W, w.alloc (.cells #[.int .i64 kd, .int .i64 a, .int .i64 b, .bool up, .slice Ad dl cd] 29) = W := ⟨_, rfl⟩
  have HO := HO0
  rw [hw1] at HO ⊢
  clear hw1 HO0
  obtain ⟨e0, e1, e2, e3, e4⟩ := HCELL.out _ _ _ _ HO.out
  obtain ⟨r, m, L2, ht, hmd, hA, hB, hDr⟩ := both_take HT.out a
  obtain ⟨ml, hml⟩ : ∃ ml, m.dat.length = ml := ⟨_, rfl⟩
  have HML := Lib.hid hml
  rw [hml] at hmd
  have HTT := Lib.hid ht
  have HC2 := Lib.hid (show Calls Try.prog 34 #[.pointer (some ⟨gr, 0, none⟩), .int .i64 a] w1 fun e w' => ∃ A2 c2, e = .returned (.tuple #[.agg #[.int .i64 m.num, .int .i64 m.frm, .int .i64 m.to, .slice A2 ml c2, .bool m.sp], .bool r]) ∧ Own (fun _ => False) W0 w' (SP.net g nodes cut last L :: SP.rnet gr nodes last L2 C :: SP.blk q5 29 #[.int .i64 kd, .int .i64 a, .int .i64 b, .bool up, .slice Ad dl cd] :: R) from (hB _ _ w1 _ gr HO.out.swap).mono fun e w' ⟨A2, c2, h1, h2⟩ => ⟨A2, c2, by rw [h1, hml]; rfl, (h2.pick (L := [_, _, _, _]) [2, 0, 3])⟩)
  have HC1 := Lib.hid (fun (W : World) (o : Own (fun _ => False) W0 W (SP.net g nodes cut last L :: SP.rnet gr nodes last L2 C :: SP.blk q5 29 #[.int .i64 kd, .int .i64 a, .int .i64 b, .bool up, .slice Ad dl cd] :: R)) => show Calls Try.prog 21 #[.pointer (some ⟨g, 0, none⟩), .int .i64 a] W fun e w' => e = .returned (.bool r) ∧ Own (fun _ => False) W0 w' (SP.net g nodes cut last L2 :: SP.rnet gr nodes last L2 C :: SP.blk q5 29 #[.int .i64 kd, .int .i64 a, .int .i64 b, .bool up, .slice Ad dl cd] :: R) from hDr _ _ W _ g o)
  clear ht hA hB hDr hml
  go_upto_region 21 with (fail)
  go_wp2_with fail
  refine (HC2.out).mono ?_
  rintro e w2 ⟨A2, c2, rfl, o2⟩
  have e1x := (HCELL.out _ _ _ _ (o2.alloc #[.int .i64 m.num, .int .i64 m.frm, .int .i64 m.to, .slice A2 ml c2, .bool m.sp] 60).pop).2.1
  have HD1 := Lib.hid (HC1.out _ (o2.alloc #[.int .i64 m.num, .int .i64 m.frm, .int .i64 m.to, .slice A2 ml c2, .bool m.sp] 60).pop)
  clear o2 HO HC2 HC1 e0 e1 e2 e3 e4
  go_wp2_with fail
  refine (HD1.out).mono ?_
  rintro e w3 ⟨rfl, o3⟩
  have O3 := Lib.hid o3
  clear o3 HD1 e1x
  go_wp2
  go_ret
  first | exact ⟨rfl, last, cut, C, L2, HTT.out, O3.out.pick (L := [_, _, _]) [0, 1]⟩ | exact ⟨last, cut, C, L2, rfl, HTT.out, O3.out.pick (L := [_, _, _]) [0, 1]⟩
end
end Go.Proofs.Ytlhinhcbbknhcaa
