/-
  The law's does on two queues and two lists, each, and all.
  Conditions: the queues hold no more than their rooms; the lists say what is in them.
-/
import Derived.Test.YtbncicfbgfmekaaQDo0
import Derived.Test.YtbncicfbgfmekaaQDo4
import Derived.Test.YtbncicfbgfmekaaQEach2
import Derived.Test.YtbncicfbgfmekaaOps
import Derived.Test.YtbncicfbgfmekaaRegionNeed
import Derived.Test.YtbncicfbgfmekaaRegionTwo
import Derived.Deep.RegionHeld3
import Derived.Deep.Cut
namespace Go.Proofs.Ytbncicfbgfmekaa
set_option linter.unusedVariables false
set_option linter.unusedSimpArgs false
open Go.RowKit

section
variable {S : Nat → Prop} {w0 w : World} {R : List SP} {g1 g2 : Nat} {room other : Int} {xs ys : List Int}
set_option maxRecDepth 100000 in
set_option maxHeartbeats 12800000 in
theorem qdoE_own {A B : Option Addr} {ca cb : Nat} (hrm : 1 ≤ room ∧ room ≤ 64) (hot : 1 ≤ other ∧ other ≤ 64) (hx : (xs.length : Int) ≤ room) (hy : (ys.length : Int) ≤ other) (kd nn ln : Int) (hi : In64 kd ∧ In64 nn) (hk : kd ≠ 0 ∧ kd ≠ 1 ∧ kd ≠ 2 ∧ kd ≠ 3 ∧ kd ≠ 4) (h : Own S w0 w (SP.quei g1 room xs :: SP.quei g2 other ys :: SP.row 3 1 (.slice A xs.length ca) (valsi xs) :: SP.row 3 1 (.slice B ys.length cb) (valsi ys) :: R)) :
    Calls Try.prog 33 #[.pointer (some ⟨g1, 0, none⟩), .pointer (some ⟨g2, 0, none⟩), .slice A xs.length ca, .slice B ys.length cb, .int .i64 room, .int .i64 other, .agg #[.int .i64 kd, .int .i64 nn, .int .i64 ln]] w (QPost S w0 R g1 g2 room other) := by
  obtain ⟨n, hn⟩ : ∃ n, xs.length = n := ⟨_, rfl⟩
  obtain ⟨m, hm⟩ : ∃ m, ys.length = m := ⟨_, rfl⟩
  have HL := Lib.hid (And.intro hn hm)
  obtain ⟨hr1, hr2⟩ := hrm
  obtain ⟨ho1, ho2⟩ := hot
  have HI := Lib.hid hi
  rw [hn] at h hx ⊢
  rw [hm] at h hy ⊢
  have hn64 : n ≤ 64 := by omega
  have hm64 : m ≤ 64 := by omega
  obtain ⟨hca, hcm⟩ := (h.pick (L := [_, _, _]) [2]).row_le (by decide) (by rw [valsi_length, hn, Nat.mul_one])
  obtain ⟨hcb, hcm2⟩ := (h.pick (L := [_, _, _, _]) [3]).row_le (by decide) (by rw [valsi_length, hm, Nat.mul_one])
  unfold maxLen at hcm hcm2
  obtain ⟨q, hq⟩ : ∃ q, w.heap.size = q := ⟨_, rfl⟩
  have HQ := Lib.hid hq
  have o1 := h.alloc #[.int .i64 kd, .int .i64 nn, .int .i64 ln] 28
  rw [hq] at o1
  obtain ⟨w1, hw1⟩ : ∃ W, w.alloc (.cells #[.int .i64 kd, .int .i64 nn, .int .i64 ln] 28) = W := ⟨_, rfl⟩
  have HW := Lib.hid hw1
  rw [hw1] at o1
  have HO := Lib.hid (o1.pick (L := [_, _, _, _, _]) [1, 2, 0, 3, 4])
  have HSF := Lib.hid (fun (W : World) (R' : List SP) (o : Own S w0 W (SP.blk q 28 #[.int .i64 kd, .int .i64 nn, .int .i64 ln] :: R')) => show W.cell? ⟨q, 1, none⟩ = some (.int .i64 nn) from o.blk_cell 1)
  have e0 := o1.blk_cell 0
  have e1 := o1.blk_cell 1
  simp only [List.getElem?_toArray, List.getElem?_cons_zero, List.getElem?_cons_succ] at e0 e1
  have hk0 : (kd == 0) = false := by rw [beq_eq_false_iff_ne]; exact hk.1
  have hk1 : (kd == 1) = false := by rw [beq_eq_false_iff_ne]; exact hk.2.1
  have hk2 : (kd == 2) = false := by rw [beq_eq_false_iff_ne]; exact hk.2.2.1
  have hk3 : (kd == 3) = false := by rw [beq_eq_false_iff_ne]; exact hk.2.2.2.1
  have hk4 : (kd == 4) = false := by rw [beq_eq_false_iff_ne]; exact hk.2.2.2.2
  clear h o1 hi hq hw1 hk hn hm
  go_enter Try.func33, Try.ntmps33
  go_upto_region 1 with (fail)
  simp only [HQ.out, HW.out]
  have HE := Lib.hid (show Calls Try.prog 43 #[.pointer (some ⟨g1, 0, none⟩), .slice A n ca, .int .i64 nn] w1 fun e w' => e = .returned (.bool true) ∧ Own S w0 w' (SP.quei g1 room xs :: SP.row 3 1 (.slice A n ca) (valsi xs) :: SP.quei g2 other ys :: SP.blk q 28 #[.int .i64 kd, .int .i64 nn, .int .i64 ln] :: SP.row 3 1 (.slice B m cb) (valsi ys) :: R) from by
    have := qeach_own (ca := ca) (A := A) nn (by rw [HL.out.1]; exact hn64) (show Own S w0 w1 (SP.quei g1 room xs :: SP.row 3 1 (.slice A xs.length ca) (valsi xs) :: SP.quei g2 other ys :: SP.blk q 28 #[.int .i64 kd, .int .i64 nn, .int .i64 ln] :: SP.row 3 1 (.slice B m cb) (valsi ys) :: R) from by
      rw [HL.out.1]
      exact HO.out.pick (L := [_, _, _, _, _]) [0, 3, 1, 2, 4])
    rw [HL.out.1] at this
    exact this)
  clear HO
  go_wp2_with fail
  refine (HE.out).mono ?_
  rintro e w2 ⟨rfl, o2⟩
  have O2 := Lib.hid o2
  clear o2 HE e0 e1
  go_wp2
  go_ret3
  exact qPost_mk xs ys A ca B cb HL.out.1 HL.out.2 rfl rfl hx hy (O2.out.pick (L := [_, _, _, _, _]) [0, 2, 1, 4])
set_option maxRecDepth 100000 in
set_option maxHeartbeats 12800000 in
theorem qdo_own {A B : Option Addr} {ca cb : Nat} (hrm : 1 ≤ room ∧ room ≤ 64) (hot : 1 ≤ other ∧ other ≤ 64) (hx : (xs.length : Int) ≤ room) (hy : (ys.length : Int) ≤ other) (kd nn ln : Int) (hi : In64 kd ∧ In64 nn) (h : Own S w0 w (SP.quei g1 room xs :: SP.quei g2 other ys :: SP.row 3 1 (.slice A xs.length ca) (valsi xs) :: SP.row 3 1 (.slice B ys.length cb) (valsi ys) :: R)) :
    Calls Try.prog 33 #[.pointer (some ⟨g1, 0, none⟩), .pointer (some ⟨g2, 0, none⟩), .slice A xs.length ca, .slice B ys.length cb, .int .i64 room, .int .i64 other, .agg #[.int .i64 kd, .int .i64 nn, .int .i64 ln]] w (QPost S w0 R g1 g2 room other) := by
  by_cases hk0 : kd = 0
  · exact qdo0_own hrm hot hx hy kd nn ln hi hk0 h
  by_cases hk1 : kd = 1
  · exact qdo1_own hrm hot hx hy kd nn ln hi hk1 h
  by_cases hk2 : kd = 2
  · exact qdo2_own hrm hot hx hy kd nn ln hi hk2 h
  by_cases hk3 : kd = 3
  · exact qdo3_own hrm hot hx hy kd nn ln hi hk3 h
  by_cases hk4 : kd = 4
  · exact qdo4_own hrm hot hx hy kd nn ln hi hk4 h
  exact qdoE_own hrm hot hx hy kd nn ln hi ⟨hk0, hk1, hk2, hk3, hk4⟩ h
end
end Go.Proofs.Ytbncicfbgfmekaa
