/-
  does of chapter 14, kind some: the network and the document's answer the same, and stay the same.
  Conditions: the two are beside each other (Tw); the operation lies in memory as it was handed in.
-/
import Derived.Test.YtlhinhcbbknhcaaBoth
import Derived.Test.YtlhinhcbbknhcaaOps
import Derived.Deep.Cut
namespace Go.Proofs.Ytlhinhcbbknhcaa
set_option linter.unusedVariables false
set_option linter.unusedSimpArgs false
open Go.RowKit

section
variable {W0 w : World} {R : List SP} {g gr k : Nat} {nodes last : Int} {cut : List Bool} {C : List (Int × Int)} {L : List M}
set_option maxRecDepth 100000 in
set_option maxHeartbeats 16000000 in
theorem do3_own (t : Tw nodes last cut C L k) (hkk : k ≤ 1000000) (kd a b : Int) (up : Bool) (Ad : Option Addr) (cd : Nat) (dat : List UInt8) (hD : dat.length ≤ cd ∧ cd ≤ maxLen ∧ dat.length ≤ 140737488351232 ∧ Rd W0 Ad (bts dat)) (hi : In64 kd ∧ In64 a ∧ In64 b) (hk : kd = 3) (h : Own (fun _ => False) W0 w (SP.net g nodes cut last L :: SP.rnet gr nodes last L C :: R)) :
    Calls Try.prog 17 #[.pointer (some ⟨g, 0, none⟩), .pointer (some ⟨gr, 0, none⟩), .agg #[.int .i64 kd, .int .i64 a, .int .i64 b, .bool up, .slice Ad dat.length cd]] w fun e w' => ∃ last' cut' C' L', e = .returned (.bool true) ∧ Tw nodes last' cut' C' L' (k + 1) ∧ Own (fun _ => False) W0 w' (SP.net g nodes cut' last' L' :: SP.rnet gr nodes last' L' C' :: R) := by
  obtain ⟨dl, hdl⟩ : ∃ dl, dat.length = dl := ⟨_, rfl⟩
  have HT := Lib.hid t
  have HD := Lib.hid hD
  have HI := Lib.hid hi
  have HL := Lib.hid hdl
  have hd1 := hD.1
  have hd2 := hD.2.2.1
  rw [hdl] at hd1 hd2 ⊢
  obtain ⟨q5, hq5⟩ : ∃ q5, w.heap.size = q5 := ⟨_, rfl⟩
  have HQ := Lib.hid hq5
  have o1 := h.alloc #[.int .i64 kd, .int .i64 a, .int .i64 b, .bool up, .slice Ad dl cd] 29
  rw [hq5] at o1
  have HO0 := Lib.hid (o1.pick (L := [_, _, _]) [1, 2, 0])
  have HCELL := Lib.hid (fun (W : World) (x y : SP) (R' : List SP) (o : Own (fun _ => False) W0 W (x :: y :: SP.blk q5 29 #[.int .i64 kd, .int .i64 a, .int .i64 b, .bool up, .slice Ad dl cd] :: R')) => show W.cell? ⟨q5, 0, none⟩ = some (.int .i64 kd) ∧ W.cell? ⟨q5, 1, none⟩ = some (.int .i64 a) ∧ W.cell? ⟨q5, 2, none⟩ = some (.int .i64 b) ∧ W.cell? ⟨q5, 3, none⟩ = some (.bool up) ∧ W.cell? ⟨q5, 4, none⟩ = some (.slice Ad dl cd) from ⟨(o.pick (L := [_, _, _]) [2]).blk_cell 0, (o.pick (L := [_, _, _]) [2]).blk_cell 1, (o.pick (L := [_, _, _]) [2]).blk_cell 2, (o.pick (L := [_, _, _]) [2]).blk_cell 3, (o.pick (L := [_, _, _]) [2]).blk_cell 4⟩)
  have hk0 : (kd == 0) = false := by rw [beq_eq_false_iff_ne, hk]; decide
  have hk1 : (kd == 1) = false := by rw [beq_eq_false_iff_ne, hk]; decide
  have hk2 : (kd == 2) = false := by rw [beq_eq_false_iff_ne, hk]; decide
  have hk3 : (kd == 3) = true := by simp [hk]
  clear h o1 hD hi hdl hq5 hk t
  go_enter Try.func17, Try.ntmps17
  go_upto_region 1 with (fail)
  simp only [HQ.out]
  obtain ⟨w1, hw1⟩ : ∃ W, w.alloc (.cells #[.int .i64 kd, .int .i64 a, .int .i64 b, .bool up, .slice Ad dl cd] 29) = W := ⟨_, rfl⟩
  have HO := HO0
  rw [hw1] at HO ⊢
  clear hw1 HO0
  obtain ⟨e0, e1, e2, e3, e4⟩ := HCELL.out _ _ _ _ HO.out
  obtain ⟨r, last2, cut2, C2, L2, ht, hA, hB⟩ := both_copy HT.out hkk a
  have HC1 := Lib.hid (fun (W : World) (o : Own (fun _ => False) W0 W (SP.net g nodes cut last L :: SP.rnet gr nodes last L C :: SP.blk q5 29 #[.int .i64 kd, .int .i64 a, .int .i64 b, .bool up, .slice Ad dl cd] :: R)) => show Calls Try.prog 22 #[.pointer (some ⟨g, 0, none⟩), .int .i64 a] W fun e w' => e = .returned (.bool r) ∧ Own (fun _ => False) W0 w' (SP.net g nodes cut2 last2 L2 :: SP.rnet gr nodes last L C :: SP.blk q5 29 #[.int .i64 kd, .int .i64 a, .int .i64 b, .bool up, .slice Ad dl cd] :: R) from hA _ _ W _ g o)
  have HC2 := Lib.hid (fun (W : World) (o : Own (fun _ => False) W0 W (SP.net g nodes cut2 last2 L2 :: SP.rnet gr nodes last L C :: SP.blk q5 29 #[.int .i64 kd, .int .i64 a, .int .i64 b, .bool up, .slice Ad dl cd] :: R)) => show Calls Try.prog 36 #[.pointer (some ⟨gr, 0, none⟩), .int .i64 a] W fun e w' => e = .returned (.bool r) ∧ Own (fun _ => False) W0 w' (SP.net g nodes cut2 last2 L2 :: SP.rnet gr nodes last2 L2 C2 :: SP.blk q5 29 #[.int .i64 kd, .int .i64 a, .int .i64 b, .bool up, .slice Ad dl cd] :: R) from (hB _ _ W _ gr o.swap).mono fun e w' ⟨h1, h2⟩ => ⟨h1, h2.swap⟩)
  have HTT := Lib.hid ht
  clear ht hA hB
  have HCS := Lib.hid (fun (W : World) (x y : SP) (R' : List SP) (o : Own (fun _ => False) W0 W (x :: y :: SP.blk q5 29 #[.int .i64 kd, .int .i64 a, .int .i64 b, .bool up, .slice Ad dl cd] :: R')) => show W.cell? ⟨q5, 1, none⟩ = some (.int .i64 a) from by
    obtain ⟨e0, e1, e2, e3, e4⟩ := HCELL.out _ _ _ _ o
    exact e1)
  go_upto_region 24 with (fail)
  go_region_held3 (fun W => W.cell? ⟨q5, 1, none⟩ = some (.int .i64 a))
    (first | go_keep | exact e1 | exact K0.out | exact K1.out)
    (first
      | (refine step_callW 22 _ _ rfl Try.func22 (by kernel_rfl) (by kernel_rfl) #[.pointer (some ⟨g, 0, none⟩), .int .i64 a] (by rfl) (by rfl) ?_
         refine (HC1.out _ HO.out.drew).mono ?_
         rintro e w0a ⟨rfl, o0⟩
         refine ⟨_, rfl, ?_⟩
         have K0 := Lib.hid (HCS.out _ _ _ _ o0)
         have O0 := Lib.hid o0
         clear o0)
      | (refine step_callW 36 _ _ rfl Try.func36 (by kernel_rfl) (by kernel_rfl) #[.pointer (some ⟨gr, 0, none⟩), .int .i64 a] (by rfl) (by rfl) ?_
         refine (HC2.out _ O0.out).mono ?_
         rintro e w1a ⟨rfl, o1⟩
         refine ⟨_, rfl, ?_⟩
         have K1 := Lib.hid (HCS.out _ _ _ _ o1)
         have O1 := Lib.hid o1
         clear o1))
  clear e0 e1 e2 e3 e4
  go_wp2
  go_ret
  exact ⟨rfl, last2, cut2, C2, L2, HTT.out, O1.out.pick (L := [_, _, _]) [0, 1]⟩

set_option maxRecDepth 100000 in
set_option maxHeartbeats 16000000 in
theorem do4_own (t : Tw nodes last cut C L k) (hkk : k ≤ 1000000) (kd a b : Int) (up : Bool) (Ad : Option Addr) (cd : Nat) (dat : List UInt8) (hD : dat.length ≤ cd ∧ cd ≤ maxLen ∧ dat.length ≤ 140737488351232 ∧ Rd W0 Ad (bts dat)) (hi : In64 kd ∧ In64 a ∧ In64 b) (hk : kd = 4) (h : Own (fun _ => False) W0 w (SP.net g nodes cut last L :: SP.rnet gr nodes last L C :: R)) :
    Calls Try.prog 17 #[.pointer (some ⟨g, 0, none⟩), .pointer (some ⟨gr, 0, none⟩), .agg #[.int .i64 kd, .int .i64 a, .int .i64 b, .bool up, .slice Ad dat.length cd]] w fun e w' => ∃ last' cut' C' L', e = .returned (.bool true) ∧ Tw nodes last' cut' C' L' (k + 1) ∧ Own (fun _ => False) W0 w' (SP.net g nodes cut' last' L' :: SP.rnet gr nodes last' L' C' :: R) := by
  obtain ⟨dl, hdl⟩ : ∃ dl, dat.length = dl := ⟨_, rfl⟩
  have HT := Lib.hid t
  have HD := Lib.hid hD
  have HI := Lib.hid hi
  have HL := Lib.hid hdl
  have hd1 := hD.1
  have hd2 := hD.2.2.1
  rw [hdl] at hd1 hd2 ⊢
  obtain ⟨q5, hq5⟩ : ∃ q5, w.heap.size = q5 := ⟨_, rfl⟩
  have HQ := Lib.hid hq5
  have o1 := h.alloc #[.int .i64 kd, .int .i64 a, .int .i64 b, .bool up, .slice Ad dl cd] 29
  rw [hq5] at o1
  have HO0 := Lib.hid (o1.pick (L := [_, _, _]) [1, 2, 0])
  have HCELL := Lib.hid (fun (W : World) (x y : SP) (R' : List SP) (o : Own (fun _ => False) W0 W (x :: y :: SP.blk q5 29 #[.int .i64 kd, .int .i64 a, .int .i64 b, .bool up, .slice Ad dl cd] :: R')) => show W.cell? ⟨q5, 0, none⟩ = some (.int .i64 kd) ∧ W.cell? ⟨q5, 1, none⟩ = some (.int .i64 a) ∧ W.cell? ⟨q5, 2, none⟩ = some (.int .i64 b) ∧ W.cell? ⟨q5, 3, none⟩ = some (.bool up) ∧ W.cell? ⟨q5, 4, none⟩ = some (.slice Ad dl cd) from ⟨(o.pick (L := [_, _, _]) [2]).blk_cell 0, (o.pick (L := [_, _, _]) [2]).blk_cell 1, (o.pick (L := [_, _, _]) [2]).blk_cell 2, (o.pick (L := [_, _, _]) [2]).blk_cell 3, (o.pick (L := [_, _, _]) [2]).blk_cell 4⟩)
  have hk0 : (kd == 0) = false := by rw [beq_eq_false_iff_ne, hk]; decide
  have hk1 : (kd == 1) = false := by rw [beq_eq_false_iff_ne, hk]; decide
  have hk2 : (kd == 2) = false := by rw [beq_eq_false_iff_ne, hk]; decide
  have hk3 : (kd == 3) = false := by rw [beq_eq_false_iff_ne, hk]; decide
  have hk4 : (kd == 4) = true := by simp [hk]
  clear h o1 hD hi hdl hq5 hk t
  go_enter Try.func17, Try.ntmps17
  go_upto_region 1 with (fail)
  simp only [HQ.out]
  obtain ⟨w1, hw1⟩ : ∃ W, w.alloc (.cells #[.int .i64 kd, .int .i64 a, .int .i64 b, .bool up, .slice Ad dl cd] 29) = W := ⟨_, rfl⟩
  have HO := HO0
  rw [hw1] at HO ⊢
  clear hw1 HO0
  obtain ⟨e0, e1, e2, e3, e4⟩ := HCELL.out _ _ _ _ HO.out
  obtain ⟨r, last2, cut2, C2, L2, ht, hA, hB⟩ := both_spoil HT.out hkk a b HI.out.2.2
  have HC1 := Lib.hid (fun (W : World) (o : Own (fun _ => False) W0 W (SP.net g nodes cut last L :: SP.rnet gr nodes last L C :: SP.blk q5 29 #[.int .i64 kd, .int .i64 a, .int .i64 b, .bool up, .slice Ad dl cd] :: R)) => show Calls Try.prog 23 #[.pointer (some ⟨g, 0, none⟩), .int .i64 a, .int .i64 b] W fun e w' => e = .returned (.bool r) ∧ Own (fun _ => False) W0 w' (SP.net g nodes cut2 last2 L2 :: SP.rnet gr nodes last L C :: SP.blk q5 29 #[.int .i64 kd, .int .i64 a, .int .i64 b, .bool up, .slice Ad dl cd] :: R) from hA _ _ W _ g o)
  have HC2 := Lib.hid (fun (W : World) (o : Own (fun _ => False) W0 W (SP.net g nodes cut2 last2 L2 :: SP.rnet gr nodes last L C :: SP.blk q5 29 #[.int .i64 kd, .int .i64 a, .int .i64 b, .bool up, .slice Ad dl cd] :: R)) => show Calls Try.prog 37 #[.pointer (some ⟨gr, 0, none⟩), .int .i64 a, .int .i64 b] W fun e w' => e = .returned (.bool r) ∧ Own (fun _ => False) W0 w' (SP.net g nodes cut2 last2 L2 :: SP.rnet gr nodes last2 L2 C2 :: SP.blk q5 29 #[.int .i64 kd, .int .i64 a, .int .i64 b, .bool up, .slice Ad dl cd] :: R) from (hB _ _ W _ gr o.swap).mono fun e w' ⟨h1, h2⟩ => ⟨h1, h2.swap⟩)
  have HTT := Lib.hid ht
  clear ht hA hB
  have HCS := Lib.hid (fun (W : World) (x y : SP) (R' : List SP) (o : Own (fun _ => False) W0 W (x :: y :: SP.blk q5 29 #[.int .i64 kd, .int .i64 a, .int .i64 b, .bool up, .slice Ad dl cd] :: R')) => show W.cell? ⟨q5, 1, none⟩ = some (.int .i64 a) ∧ W.cell? ⟨q5, 2, none⟩ = some (.int .i64 b) from by
    obtain ⟨e0, e1, e2, e3, e4⟩ := HCELL.out _ _ _ _ o
    exact ⟨e1, e2⟩)
  go_upto_region 26 with (fail)
  go_region_held3 (fun W => W.cell? ⟨q5, 1, none⟩ = some (.int .i64 a) ∧ W.cell? ⟨q5, 2, none⟩ = some (.int .i64 b))
    (first | go_keep | exact ⟨e1, e2⟩ | exact K0.out | exact K1.out)
    (first
      | (refine step_callW 23 _ _ rfl Try.func23 (by kernel_rfl) (by kernel_rfl) #[.pointer (some ⟨g, 0, none⟩), .int .i64 a, .int .i64 b] (by rfl) (by rfl) ?_
         refine (HC1.out _ HO.out.drew).mono ?_
         rintro e w0a ⟨rfl, o0⟩
         refine ⟨_, rfl, ?_⟩
         have K0 := Lib.hid (HCS.out _ _ _ _ o0)
         have O0 := Lib.hid o0
         clear o0)
      | (refine step_callW 37 _ _ rfl Try.func37 (by kernel_rfl) (by kernel_rfl) #[.pointer (some ⟨gr, 0, none⟩), .int .i64 a, .int .i64 b] (by rfl) (by rfl) ?_
         refine (HC2.out _ O0.out).mono ?_
         rintro e w1a ⟨rfl, o1⟩
         refine ⟨_, rfl, ?_⟩
         have K1 := Lib.hid (HCS.out _ _ _ _ o1)
         have O1 := Lib.hid o1
         clear o1))
  clear e0 e1 e2 e3 e4
  go_wp2
  go_ret
  exact ⟨rfl, last2, cut2, C2, L2, HTT.out, O1.out.pick (L := [_, _, _]) [0, 1]⟩

set_option maxRecDepth 100000 in
set_option maxHeartbeats 16000000 in
theorem do5_own (t : Tw nodes last cut C L k) (hkk : k ≤ 1000000) (kd a b : Int) (up : Bool) (Ad : Option Addr) (cd : Nat) (dat : List UInt8) (hD : dat.length ≤ cd ∧ cd ≤ maxLen ∧ dat.length ≤ 140737488351232 ∧ Rd W0 Ad (bts dat)) (hi : In64 kd ∧ In64 a ∧ In64 b) (hk : kd = 5) (h : Own (fun _ => False) W0 w (SP.net g nodes cut last L :: SP.rnet gr nodes last L C :: R)) :
    Calls Try.prog 17 #[.pointer (some ⟨g, 0, none⟩), .pointer (some ⟨gr, 0, none⟩), .agg #[.int .i64 kd, .int .i64 a, .int .i64 b, .bool up, .slice Ad dat.length cd]] w fun e w' => ∃ last' cut' C' L', e = .returned (.bool true) ∧ Tw nodes last' cut' C' L' (k + 1) ∧ Own (fun _ => False) W0 w' (SP.net g nodes cut' last' L' :: SP.rnet gr nodes last' L' C' :: R) := by
  obtain ⟨dl, hdl⟩ : ∃ dl, dat.length = dl := ⟨_, rfl⟩
  have HT := Lib.hid t
  have HD := Lib.hid hD
  have HI := Lib.hid hi
  have HL := Lib.hid hdl
  have hd1 := hD.1
  have hd2 := hD.2.2.1
  rw [hdl] at hd1 hd2 ⊢
  obtain ⟨q5, hq5⟩ : ∃ q5, w.heap.size = q5 := ⟨_, rfl⟩
  have HQ := Lib.hid hq5
  have o1 := h.alloc #[.int .i64 kd, .int .i64 a, .int .i64 b, .bool up, .slice Ad dl cd] 29
  rw [hq5] at o1
  have HO0 := Lib.hid (o1.pick (L := [_, _, _]) [1, 2, 0])
  have HCELL := Lib.hid (fun (W : World) (x y : SP) (R' : List SP) (o : Own (fun _ => False) W0 W (x :: y :: SP.blk q5 29 #[.int .i64 kd, .int .i64 a, .int .i64 b, .bool up, .slice Ad dl cd] :: R')) => show W.cell? ⟨q5, 0, none⟩ = some (.int .i64 kd) ∧ W.cell? ⟨q5, 1, none⟩ = some (.int .i64 a) ∧ W.cell? ⟨q5, 2, none⟩ = some (.int .i64 b) ∧ W.cell? ⟨q5, 3, none⟩ = some (.bool up) ∧ W.cell? ⟨q5, 4, none⟩ = some (.slice Ad dl cd) from ⟨(o.pick (L := [_, _, _]) [2]).blk_cell 0, (o.pick (L := [_, _, _]) [2]).blk_cell 1, (o.pick (L := [_, _, _]) [2]).blk_cell 2, (o.pick (L := [_, _, _]) [2]).blk_cell 3, (o.pick (L := [_, _, _]) [2]).blk_cell 4⟩)
  have hk0 : (kd == 0) = false := by rw [beq_eq_false_iff_ne, hk]; decide
  have hk1 : (kd == 1) = false := by rw [beq_eq_false_iff_ne, hk]; decide
  have hk2 : (kd == 2) = false := by rw [beq_eq_false_iff_ne, hk]; decide
  have hk3 : (kd == 3) = false := by rw [beq_eq_false_iff_ne, hk]; decide
  have hk4 : (kd == 4) = false := by rw [beq_eq_false_iff_ne, hk]; decide
  have hk5 : (kd == 5) = true := by simp [hk]
  clear h o1 hD hi hdl hq5 hk t
  go_enter Try.func17, Try.ntmps17
  go_upto_region 1 with (fail)
  simp only [HQ.out]
  obtain ⟨w1, hw1⟩ : ∃ W, w.alloc (.cells #[.int .i64 kd, .int .i64 a, .int .i64 b, .bool up, .slice Ad dl cd] 29) = W := ⟨_, rfl⟩
  have HO := HO0
  rw [hw1] at HO ⊢
  clear hw1 HO0
  obtain ⟨e0, e1, e2, e3, e4⟩ := HCELL.out _ _ _ _ HO.out
  obtain ⟨r, last2, cut2, C2, L2, ht, hA, hB⟩ := both_move HT.out hkk a b
  have HC1 := Lib.hid (fun (W : World) (o : Own (fun _ => False) W0 W (SP.net g nodes cut last L :: SP.rnet gr nodes last L C :: SP.blk q5 29 #[.int .i64 kd, .int .i64 a, .int .i64 b, .bool up, .slice Ad dl cd] :: R)) => show Calls Try.prog 24 #[.pointer (some ⟨g, 0, none⟩), .int .i64 a, .int .i64 b] W fun e w' => e = .returned (.bool r) ∧ Own (fun _ => False) W0 w' (SP.net g nodes cut2 last2 L2 :: SP.rnet gr nodes last L C :: SP.blk q5 29 #[.int .i64 kd, .int .i64 a, .int .i64 b, .bool up, .slice Ad dl cd] :: R) from hA _ _ W _ g o)
  have HC2 := Lib.hid (fun (W : World) (o : Own (fun _ => False) W0 W (SP.net g nodes cut2 last2 L2 :: SP.rnet gr nodes last L C :: SP.blk q5 29 #[.int .i64 kd, .int .i64 a, .int .i64 b, .bool up, .slice Ad dl cd] :: R)) => show Calls Try.prog 38 #[.pointer (some ⟨gr, 0, none⟩), .int .i64 a, .int .i64 b] W fun e w' => e = .returned (.bool r) ∧ Own (fun _ => False) W0 w' (SP.net g nodes cut2 last2 L2 :: SP.rnet gr nodes last2 L2 C2 :: SP.blk q5 29 #[.int .i64 kd, .int .i64 a, .int .i64 b, .bool up, .slice Ad dl cd] :: R) from (hB _ _ W _ gr o.swap).mono fun e w' ⟨h1, h2⟩ => ⟨h1, h2.swap⟩)
  have HTT := Lib.hid ht
  clear ht hA hB
  have HCS := Lib.hid (fun (W : World) (x y : SP) (R' : List SP) (o : Own (fun _ => False) W0 W (x :: y :: SP.blk q5 29 #[.int .i64 kd, .int .i64 a, .int .i64 b, .bool up, .slice Ad dl cd] :: R')) => show W.cell? ⟨q5, 1, none⟩ = some (.int .i64 a) ∧ W.cell? ⟨q5, 2, none⟩ = some (.int .i64 b) from by
    obtain ⟨e0, e1, e2, e3, e4⟩ := HCELL.out _ _ _ _ o
    exact ⟨e1, e2⟩)
  go_upto_region 28 with (fail)
  go_region_held3 (fun W => W.cell? ⟨q5, 1, none⟩ = some (.int .i64 a) ∧ W.cell? ⟨q5, 2, none⟩ = some (.int .i64 b))
    (first | go_keep | exact ⟨e1, e2⟩ | exact K0.out | exact K1.out)
    (first
      | (refine step_callW 24 _ _ rfl Try.func24 (by kernel_rfl) (by kernel_rfl) #[.pointer (some ⟨g, 0, none⟩), .int .i64 a, .int .i64 b] (by rfl) (by rfl) ?_
         refine (HC1.out _ HO.out.drew).mono ?_
         rintro e w0a ⟨rfl, o0⟩
         refine ⟨_, rfl, ?_⟩
         have K0 := Lib.hid (HCS.out _ _ _ _ o0)
         have O0 := Lib.hid o0
         clear o0)
      | (refine step_callW 38 _ _ rfl Try.func38 (by kernel_rfl) (by kernel_rfl) #[.pointer (some ⟨gr, 0, none⟩), .int .i64 a, .int .i64 b] (by rfl) (by rfl) ?_
         refine (HC2.out _ O0.out).mono ?_
         rintro e w1a ⟨rfl, o1⟩
         refine ⟨_, rfl, ?_⟩
         have K1 := Lib.hid (HCS.out _ _ _ _ o1)
         have O1 := Lib.hid o1
         clear o1))
  clear e0 e1 e2 e3 e4
  go_wp2
  go_ret
  exact ⟨rfl, last2, cut2, C2, L2, HTT.out, O1.out.pick (L := [_, _, _]) [0, 1]⟩

set_option maxRecDepth 100000 in
set_option maxHeartbeats 16000000 in
theorem do6_own (t : Tw nodes last cut C L k) (hkk : k ≤ 1000000) (kd a b : Int) (up : Bool) (Ad : Option Addr) (cd : Nat) (dat : List UInt8) (hD : dat.length ≤ cd ∧ cd ≤ maxLen ∧ dat.length ≤ 140737488351232 ∧ Rd W0 Ad (bts dat)) (hi : In64 kd ∧ In64 a ∧ In64 b) (hk : kd = 6) (h : Own (fun _ => False) W0 w (SP.net g nodes cut last L :: SP.rnet gr nodes last L C :: R)) :
    Calls Try.prog 17 #[.pointer (some ⟨g, 0, none⟩), .pointer (some ⟨gr, 0, none⟩), .agg #[.int .i64 kd, .int .i64 a, .int .i64 b, .bool up, .slice Ad dat.length cd]] w fun e w' => ∃ last' cut' C' L', e = .returned (.bool true) ∧ Tw nodes last' cut' C' L' (k + 1) ∧ Own (fun _ => False) W0 w' (SP.net g nodes cut' last' L' :: SP.rnet gr nodes last' L' C' :: R) := by
  obtain ⟨dl, hdl⟩ : ∃ dl, dat.length = dl := ⟨_, rfl⟩
  have HT := Lib.hid t
  have HD := Lib.hid hD
  have HI := Lib.hid hi
  have HL := Lib.hid hdl
  have hd1 := hD.1
  have hd2 := hD.2.2.1
  rw [hdl] at hd1 hd2 ⊢
  obtain ⟨q5, hq5⟩ : ∃ q5, w.heap.size = q5 := ⟨_, rfl⟩
  have HQ := Lib.hid hq5
  have o1 := h.alloc #[.int .i64 kd, .int .i64 a, .int .i64 b, .bool up, .slice Ad dl cd] 29
  rw [hq5] at o1
  have HO0 := Lib.hid (o1.pick (L := [_, _, _]) [1, 2, 0])
  have HCELL := Lib.hid (fun (W : World) (x y : SP) (R' : List SP) (o : Own (fun _ => False) W0 W (x :: y :: SP.blk q5 29 #[.int .i64 kd, .int .i64 a, .int .i64 b, .bool up, .slice Ad dl cd] :: R')) => show W.cell? ⟨q5, 0, none⟩ = some (.int .i64 kd) ∧ W.cell? ⟨q5, 1, none⟩ = some (.int .i64 a) ∧ W.cell? ⟨q5, 2, none⟩ = some (.int .i64 b) ∧ W.cell? ⟨q5, 3, none⟩ = some (.bool up) ∧ W.cell? ⟨q5, 4, none⟩ = some (.slice Ad dl cd) from ⟨(o.pick (L := [_, _, _]) [2]).blk_cell 0, (o.pick (L := [_, _, _]) [2]).blk_cell 1, (o.pick (L := [_, _, _]) [2]).blk_cell 2, (o.pick (L := [_, _, _]) [2]).blk_cell 3, (o.pick (L := [_, _, _]) [2]).blk_cell 4⟩)
  have hk0 : (kd == 0) = false := by rw [beq_eq_false_iff_ne, hk]; decide
  have hk1 : (kd == 1) = false := by rw [beq_eq_false_iff_ne, hk]; decide
  have hk2 : (kd == 2) = false := by rw [beq_eq_false_iff_ne, hk]; decide
  have hk3 : (kd == 3) = false := by rw [beq_eq_false_iff_ne, hk]; decide
  have hk4 : (kd == 4) = false := by rw [beq_eq_false_iff_ne, hk]; decide
  have hk5 : (kd == 5) = false := by rw [beq_eq_false_iff_ne, hk]; decide
  have hk6 : (kd == 6) = true := by simp [hk]
  clear h o1 hD hi hdl hq5 hk t
  go_enter Try.func17, Try.ntmps17
  go_upto_region 1 with (fail)
  simp only [HQ.out]
  obtain ⟨w1, hw1⟩ : ∃ W, w.alloc (.cells #[.int .i64 kd, .int .i64 a, .int .i64 b, .bool up, .slice Ad dl cd] 29) = W := ⟨_, rfl⟩
  have HO := HO0
  rw [hw1] at HO ⊢
  clear hw1 HO0
  obtain ⟨e0, e1, e2, e3, e4⟩ := HCELL.out _ _ _ _ HO.out
  obtain ⟨r, last2, cut2, C2, L2, ht, hA, hB⟩ := both_link HT.out hkk a b up
  have HC1 := Lib.hid (fun (W : World) (o : Own (fun _ => False) W0 W (SP.net g nodes cut last L :: SP.rnet gr nodes last L C :: SP.blk q5 29 #[.int .i64 kd, .int .i64 a, .int .i64 b, .bool up, .slice Ad dl cd] :: R)) => show Calls Try.prog 12 #[.pointer (some ⟨g, 0, none⟩), .int .i64 a, .int .i64 b, .bool up] W fun e w' => e = .returned (.bool r) ∧ Own (fun _ => False) W0 w' (SP.net g nodes cut2 last2 L2 :: SP.rnet gr nodes last L C :: SP.blk q5 29 #[.int .i64 kd, .int .i64 a, .int .i64 b, .bool up, .slice Ad dl cd] :: R) from hA _ _ W _ g o)
  have HC2 := Lib.hid (fun (W : World) (o : Own (fun _ => False) W0 W (SP.net g nodes cut2 last2 L2 :: SP.rnet gr nodes last L C :: SP.blk q5 29 #[.int .i64 kd, .int .i64 a, .int .i64 b, .bool up, .slice Ad dl cd] :: R)) => show Calls Try.prog 39 #[.pointer (some ⟨gr, 0, none⟩), .int .i64 a, .int .i64 b, .bool up] W fun e w' => e = .returned (.bool r) ∧ Own (fun _ => False) W0 w' (SP.net g nodes cut2 last2 L2 :: SP.rnet gr nodes last2 L2 C2 :: SP.blk q5 29 #[.int .i64 kd, .int .i64 a, .int .i64 b, .bool up, .slice Ad dl cd] :: R) from (hB _ _ W _ gr o.swap).mono fun e w' ⟨h1, h2⟩ => ⟨h1, h2.swap⟩)
  have HTT := Lib.hid ht
  clear ht hA hB
  have HCS := Lib.hid (fun (W : World) (x y : SP) (R' : List SP) (o : Own (fun _ => False) W0 W (x :: y :: SP.blk q5 29 #[.int .i64 kd, .int .i64 a, .int .i64 b, .bool up, .slice Ad dl cd] :: R')) => show W.cell? ⟨q5, 1, none⟩ = some (.int .i64 a) ∧ W.cell? ⟨q5, 2, none⟩ = some (.int .i64 b) ∧ W.cell? ⟨q5, 3, none⟩ = some (.bool up) from by
    obtain ⟨e0, e1, e2, e3, e4⟩ := HCELL.out _ _ _ _ o
    exact ⟨e1, e2, e3⟩)
  go_upto_region 30 with (fail)
  go_region_held3 (fun W => W.cell? ⟨q5, 1, none⟩ = some (.int .i64 a) ∧ W.cell? ⟨q5, 2, none⟩ = some (.int .i64 b) ∧ W.cell? ⟨q5, 3, none⟩ = some (.bool up))
    (first | go_keep | exact ⟨e1, e2, e3⟩ | exact K0.out | exact K1.out)
    (first
      | (refine step_callW 12 _ _ rfl Try.func12 (by kernel_rfl) (by kernel_rfl) #[.pointer (some ⟨g, 0, none⟩), .int .i64 a, .int .i64 b, .bool up] (by rfl) (by rfl) ?_
         refine (HC1.out _ HO.out.drew).mono ?_
         rintro e w0a ⟨rfl, o0⟩
         refine ⟨_, rfl, ?_⟩
         have K0 := Lib.hid (HCS.out _ _ _ _ o0)
         have O0 := Lib.hid o0
         clear o0)
      | (refine step_callW 39 _ _ rfl Try.func39 (by kernel_rfl) (by kernel_rfl) #[.pointer (some ⟨gr, 0, none⟩), .int .i64 a, .int .i64 b, .bool up] (by rfl) (by rfl) ?_
         refine (HC2.out _ O0.out).mono ?_
         rintro e w1a ⟨rfl, o1⟩
         refine ⟨_, rfl, ?_⟩
         have K1 := Lib.hid (HCS.out _ _ _ _ o1)
         have O1 := Lib.hid o1
         clear o1))
  clear e0 e1 e2 e3 e4
  go_wp2
  go_ret
  exact ⟨rfl, last2, cut2, C2, L2, HTT.out, O1.out.pick (L := [_, _, _]) [0, 1]⟩

set_option maxRecDepth 100000 in
set_option maxHeartbeats 16000000 in
theorem do7_own (t : Tw nodes last cut C L k) (hkk : k ≤ 1000000) (kd a b : Int) (up : Bool) (Ad : Option Addr) (cd : Nat) (dat : List UInt8) (hD : dat.length ≤ cd ∧ cd ≤ maxLen ∧ dat.length ≤ 140737488351232 ∧ Rd W0 Ad (bts dat)) (hi : In64 kd ∧ In64 a ∧ In64 b) (hk : kd = 7) (h : Own (fun _ => False) W0 w (SP.net g nodes cut last L :: SP.rnet gr nodes last L C :: R)) :
    Calls Try.prog 17 #[.pointer (some ⟨g, 0, none⟩), .pointer (some ⟨gr, 0, none⟩), .agg #[.int .i64 kd, .int .i64 a, .int .i64 b, .bool up, .slice Ad dat.length cd]] w fun e w' => ∃ last' cut' C' L', e = .returned (.bool true) ∧ Tw nodes last' cut' C' L' (k + 1) ∧ Own (fun _ => False) W0 w' (SP.net g nodes cut' last' L' :: SP.rnet gr nodes last' L' C' :: R) := by
  obtain ⟨dl, hdl⟩ : ∃ dl, dat.length = dl := ⟨_, rfl⟩
  have HT := Lib.hid t
  have HD := Lib.hid hD
  have HI := Lib.hid hi
  have HL := Lib.hid hdl
  have hd1 := hD.1
  have hd2 := hD.2.2.1
  rw [hdl] at hd1 hd2 ⊢
  obtain ⟨q5, hq5⟩ : ∃ q5, w.heap.size = q5 := ⟨_, rfl⟩
  have HQ := Lib.hid hq5
  have o1 := h.alloc #[.int .i64 kd, .int .i64 a, .int .i64 b, .bool up, .slice Ad dl cd] 29
  rw [hq5] at o1
  have HO0 := Lib.hid (o1.pick (L := [_, _, _]) [1, 2, 0])
  have HCELL := Lib.hid (fun (W : World) (x y : SP) (R' : List SP) (o : Own (fun _ => False) W0 W (x :: y :: SP.blk q5 29 #[.int .i64 kd, .int .i64 a, .int .i64 b, .bool up, .slice Ad dl cd] :: R')) => show W.cell? ⟨q5, 0, none⟩ = some (.int .i64 kd) ∧ W.cell? ⟨q5, 1, none⟩ = some (.int .i64 a) ∧ W.cell? ⟨q5, 2, none⟩ = some (.int .i64 b) ∧ W.cell? ⟨q5, 3, none⟩ = some (.bool up) ∧ W.cell? ⟨q5, 4, none⟩ = some (.slice Ad dl cd) from ⟨(o.pick (L := [_, _, _]) [2]).blk_cell 0, (o.pick (L := [_, _, _]) [2]).blk_cell 1, (o.pick (L := [_, _, _]) [2]).blk_cell 2, (o.pick (L := [_, _, _]) [2]).blk_cell 3, (o.pick (L := [_, _, _]) [2]).blk_cell 4⟩)
  have hk0 : (kd == 0) = false := by rw [beq_eq_false_iff_ne, hk]; decide
  have hk1 : (kd == 1) = false := by rw [beq_eq_false_iff_ne, hk]; decide
  have hk2 : (kd == 2) = false := by rw [beq_eq_false_iff_ne, hk]; decide
  have hk3 : (kd == 3) = false := by rw [beq_eq_false_iff_ne, hk]; decide
  have hk4 : (kd == 4) = false := by rw [beq_eq_false_iff_ne, hk]; decide
  have hk5 : (kd == 5) = false := by rw [beq_eq_false_iff_ne, hk]; decide
  have hk6 : (kd == 6) = false := by rw [beq_eq_false_iff_ne, hk]; decide
  have hk7 : (kd == 7) = true := by simp [hk]
  clear h o1 hD hi hdl hq5 hk t
  go_enter Try.func17, Try.ntmps17
  go_upto_region 1 with (fail)
  simp only [HQ.out]
  obtain ⟨w1, hw1⟩ : ∃ W, w.alloc (.cells #[.int .i64 kd, .int .i64 a, .int .i64 b, .bool up, .slice Ad dl cd] 29) = W := ⟨_, rfl⟩
  have HO := HO0
  rw [hw1] at HO ⊢
  clear hw1 HO0
  obtain ⟨e0, e1, e2, e3, e4⟩ := HCELL.out _ _ _ _ HO.out
  obtain ⟨z, L2, ht, hA, hB⟩ := both_clear HT.out hkk a
  have HC1 := Lib.hid (fun (W : World) (o : Own (fun _ => False) W0 W (SP.net g nodes cut last L :: SP.rnet gr nodes last L C :: SP.blk q5 29 #[.int .i64 kd, .int .i64 a, .int .i64 b, .bool up, .slice Ad dl cd] :: R)) => show Calls Try.prog 25 #[.pointer (some ⟨g, 0, none⟩), .int .i64 a] W fun e w' => e = .returned (.int .i64 z) ∧ Own (fun _ => False) W0 w' (SP.net g nodes cut last L2 :: SP.rnet gr nodes last L C :: SP.blk q5 29 #[.int .i64 kd, .int .i64 a, .int .i64 b, .bool up, .slice Ad dl cd] :: R) from hA _ _ W _ g o)
  have HC2 := Lib.hid (fun (W : World) (o : Own (fun _ => False) W0 W (SP.net g nodes cut last L2 :: SP.rnet gr nodes last L C :: SP.blk q5 29 #[.int .i64 kd, .int .i64 a, .int .i64 b, .bool up, .slice Ad dl cd] :: R)) => show Calls Try.prog 40 #[.pointer (some ⟨gr, 0, none⟩), .int .i64 a] W fun e w' => e = .returned (.int .i64 z) ∧ Own (fun _ => False) W0 w' (SP.net g nodes cut last L2 :: SP.rnet gr nodes last L2 C :: SP.blk q5 29 #[.int .i64 kd, .int .i64 a, .int .i64 b, .bool up, .slice Ad dl cd] :: R) from (hB _ _ W _ gr o.swap).mono fun e w' ⟨h1, h2⟩ => ⟨h1, h2.swap⟩)
  have HTT := Lib.hid ht
  clear ht hA hB
  have HCS := Lib.hid (fun (W : World) (x y : SP) (R' : List SP) (o : Own (fun _ => False) W0 W (x :: y :: SP.blk q5 29 #[.int .i64 kd, .int .i64 a, .int .i64 b, .bool up, .slice Ad dl cd] :: R')) => show W.cell? ⟨q5, 1, none⟩ = some (.int .i64 a) from by
    obtain ⟨e0, e1, e2, e3, e4⟩ := HCELL.out _ _ _ _ o
    exact e1)
  go_upto_region 32 with (fail)
  go_region_held3 (fun W => W.cell? ⟨q5, 1, none⟩ = some (.int .i64 a))
    (first | go_keep | exact e1 | exact K0.out | exact K1.out)
    (first
      | (refine step_callW 25 _ _ rfl Try.func25 (by kernel_rfl) (by kernel_rfl) #[.pointer (some ⟨g, 0, none⟩), .int .i64 a] (by rfl) (by rfl) ?_
         refine (HC1.out _ HO.out.drew).mono ?_
         rintro e w0a ⟨rfl, o0⟩
         refine ⟨_, rfl, ?_⟩
         have K0 := Lib.hid (HCS.out _ _ _ _ o0)
         have O0 := Lib.hid o0
         clear o0)
      | (refine step_callW 40 _ _ rfl Try.func40 (by kernel_rfl) (by kernel_rfl) #[.pointer (some ⟨gr, 0, none⟩), .int .i64 a] (by rfl) (by rfl) ?_
         refine (HC2.out _ O0.out).mono ?_
         rintro e w1a ⟨rfl, o1⟩
         refine ⟨_, rfl, ?_⟩
         have K1 := Lib.hid (HCS.out _ _ _ _ o1)
         have O1 := Lib.hid o1
         clear o1))
  clear e0 e1 e2 e3 e4
  go_wp2
  go_ret
  exact ⟨rfl, last, cut, C, L2, HTT.out, O1.out.pick (L := [_, _, _]) [0, 1]⟩

set_option maxRecDepth 100000 in
set_option maxHeartbeats 16000000 in
theorem doE_own (t : Tw nodes last cut C L k) (hkk : k ≤ 1000000) (kd a b : Int) (up : Bool) (Ad : Option Addr) (cd : Nat) (dat : List UInt8) (hD : dat.length ≤ cd ∧ cd ≤ maxLen ∧ dat.length ≤ 140737488351232 ∧ Rd W0 Ad (bts dat)) (hi : In64 kd ∧ In64 a ∧ In64 b) (hk : kd ≠ 0 ∧ kd ≠ 1 ∧ kd ≠ 2 ∧ kd ≠ 3 ∧ kd ≠ 4 ∧ kd ≠ 5 ∧ kd ≠ 6 ∧ kd ≠ 7) (h : Own (fun _ => False) W0 w (SP.net g nodes cut last L :: SP.rnet gr nodes last L C :: R)) :
    Calls Try.prog 17 #[.pointer (some ⟨g, 0, none⟩), .pointer (some ⟨gr, 0, none⟩), .agg #[.int .i64 kd, .int .i64 a, .int .i64 b, .bool up, .slice Ad dat.length cd]] w fun e w' => ∃ last' cut' C' L', e = .returned (.bool true) ∧ Tw nodes last' cut' C' L' (k + 1) ∧ Own (fun _ => False) W0 w' (SP.net g nodes cut' last' L' :: SP.rnet gr nodes last' L' C' :: R) := by
  obtain ⟨dl, hdl⟩ : ∃ dl, dat.length = dl := ⟨_, rfl⟩
  have HT := Lib.hid t
  have HD := Lib.hid hD
  have HI := Lib.hid hi
  have HL := Lib.hid hdl
  have hd1 := hD.1
  have hd2 := hD.2.2.1
  rw [hdl] at hd1 hd2 ⊢
  obtain ⟨q5, hq5⟩ : ∃ q5, w.heap.size = q5 := ⟨_, rfl⟩
  have HQ := Lib.hid hq5
  have o1 := h.alloc #[.int .i64 kd, .int .i64 a, .int .i64 b, .bool up, .slice Ad dl cd] 29
  rw [hq5] at o1
  have HO0 := Lib.hid (o1.pick (L := [_, _, _]) [1, 2, 0])
  have HCELL := Lib.hid (fun (W : World) (x y : SP) (R' : List SP) (o : Own (fun _ => False) W0 W (x :: y :: SP.blk q5 29 #[.int .i64 kd, .int .i64 a, .int .i64 b, .bool up, .slice Ad dl cd] :: R')) => show W.cell? ⟨q5, 0, none⟩ = some (.int .i64 kd) ∧ W.cell? ⟨q5, 1, none⟩ = some (.int .i64 a) ∧ W.cell? ⟨q5, 2, none⟩ = some (.int .i64 b) ∧ W.cell? ⟨q5, 3, none⟩ = some (.bool up) ∧ W.cell? ⟨q5, 4, none⟩ = some (.slice Ad dl cd) from ⟨(o.pick (L := [_, _, _]) [2]).blk_cell 0, (o.pick (L := [_, _, _]) [2]).blk_cell 1, (o.pick (L := [_, _, _]) [2]).blk_cell 2, (o.pick (L := [_, _, _]) [2]).blk_cell 3, (o.pick (L := [_, _, _]) [2]).blk_cell 4⟩)
  have hk0 : (kd == 0) = false := by rw [beq_eq_false_iff_ne]; exact hk.1
  have hk1 : (kd == 1) = false := by rw [beq_eq_false_iff_ne]; exact hk.2.1
  have hk2 : (kd == 2) = false := by rw [beq_eq_false_iff_ne]; exact hk.2.2.1
  have hk3 : (kd == 3) = false := by rw [beq_eq_false_iff_ne]; exact hk.2.2.2.1
  have hk4 : (kd == 4) = false := by rw [beq_eq_false_iff_ne]; exact hk.2.2.2.2.1
  have hk5 : (kd == 5) = false := by rw [beq_eq_false_iff_ne]; exact hk.2.2.2.2.2.1
  have hk6 : (kd == 6) = false := by rw [beq_eq_false_iff_ne]; exact hk.2.2.2.2.2.2.1
  have hk7 : (kd == 7) = false := by rw [beq_eq_false_iff_ne]; exact hk.2.2.2.2.2.2.2
  clear h o1 hD hi hdl hq5 hk t
  go_enter Try.func17, Try.ntmps17
  go_upto_region 1 with (fail)
  simp only [HQ.out]
  obtain ⟨w1, hw1⟩ : ∃ W, w.alloc (.cells #[.int .i64 kd, .int .i64 a, .int .i64 b, .bool up, .slice Ad dl cd] 29) = W := ⟨_, rfl⟩
  have HO := HO0
  rw [hw1] at HO ⊢
  clear hw1 HO0
  obtain ⟨e0, e1, e2, e3, e4⟩ := HCELL.out _ _ _ _ HO.out
  obtain ⟨r, last2, cut2, C2, L2, ht, hA, hB⟩ := both_linked HT.out hkk a b
  have HC1 := Lib.hid (fun (W : World) (o : Own (fun _ => False) W0 W (SP.net g nodes cut last L :: SP.rnet gr nodes last L C :: SP.blk q5 29 #[.int .i64 kd, .int .i64 a, .int .i64 b, .bool up, .slice Ad dl cd] :: R)) => show Calls Try.prog 10 #[.pointer (some ⟨g, 0, none⟩), .int .i64 a, .int .i64 b] W fun e w' => e = .returned (.bool r) ∧ Own (fun _ => False) W0 w' (SP.net g nodes cut2 last2 L2 :: SP.rnet gr nodes last L C :: SP.blk q5 29 #[.int .i64 kd, .int .i64 a, .int .i64 b, .bool up, .slice Ad dl cd] :: R) from hA _ _ W _ g o)
  have HC2 := Lib.hid (fun (W : World) (o : Own (fun _ => False) W0 W (SP.net g nodes cut2 last2 L2 :: SP.rnet gr nodes last L C :: SP.blk q5 29 #[.int .i64 kd, .int .i64 a, .int .i64 b, .bool up, .slice Ad dl cd] :: R)) => show Calls Try.prog 41 #[.pointer (some ⟨gr, 0, none⟩), .int .i64 a, .int .i64 b] W fun e w' => e = .returned (.bool r) ∧ Own (fun _ => False) W0 w' (SP.net g nodes cut2 last2 L2 :: SP.rnet gr nodes last2 L2 C2 :: SP.blk q5 29 #[.int .i64 kd, .int .i64 a, .int .i64 b, .bool up, .slice Ad dl cd] :: R) from (hB _ _ W _ gr o.swap).mono fun e w' ⟨h1, h2⟩ => ⟨h1, h2.swap⟩)
  have HTT := Lib.hid ht
  clear ht hA hB
  have HCS := Lib.hid (fun (W : World) (x y : SP) (R' : List SP) (o : Own (fun _ => False) W0 W (x :: y :: SP.blk q5 29 #[.int .i64 kd, .int .i64 a, .int .i64 b, .bool up, .slice Ad dl cd] :: R')) => show W.cell? ⟨q5, 1, none⟩ = some (.int .i64 a) ∧ W.cell? ⟨q5, 2, none⟩ = some (.int .i64 b) from by
    obtain ⟨e0, e1, e2, e3, e4⟩ := HCELL.out _ _ _ _ o
    exact ⟨e1, e2⟩)
  go_upto_region 33 with (fail)
  go_region_held3 (fun W => W.cell? ⟨q5, 1, none⟩ = some (.int .i64 a) ∧ W.cell? ⟨q5, 2, none⟩ = some (.int .i64 b))
    (first | go_keep | exact ⟨e1, e2⟩ | exact K0.out | exact K1.out)
    (first
      | (refine step_callW 10 _ _ rfl Try.func10 (by kernel_rfl) (by kernel_rfl) #[.pointer (some ⟨g, 0, none⟩), .int .i64 a, .int .i64 b] (by rfl) (by rfl) ?_
         refine (HC1.out _ HO.out.drew).mono ?_
         rintro e w0a ⟨rfl, o0⟩
         refine ⟨_, rfl, ?_⟩
         have K0 := Lib.hid (HCS.out _ _ _ _ o0)
         have O0 := Lib.hid o0
         clear o0)
      | (refine step_callW 41 _ _ rfl Try.func41 (by kernel_rfl) (by kernel_rfl) #[.pointer (some ⟨gr, 0, none⟩), .int .i64 a, .int .i64 b] (by rfl) (by rfl) ?_
         refine (HC2.out _ O0.out).mono ?_
         rintro e w1a ⟨rfl, o1⟩
         refine ⟨_, rfl, ?_⟩
         have K1 := Lib.hid (HCS.out _ _ _ _ o1)
         have O1 := Lib.hid o1
         clear o1))
  clear e0 e1 e2 e3 e4
  go_wp2
  go_ret
  exact ⟨rfl, last2, cut2, C2, L2, HTT.out, O1.out.pick (L := [_, _, _]) [0, 1]⟩
end
end Go.Proofs.Ytlhinhcbbknhcaa
