/-
  The law's does on two queues and two lists, kinds 0 to 4.
  Conditions: the queues hold no more than their rooms; the lists say what is in them.
-/
import Derived.Test.YtbncicfbgfmekaaQIs
import Derived.Test.YtbncicfbgfmekaaOps
import Derived.Test.YtbncicfbgfmekaaRegionNeed
import Derived.Test.YtbncicfbgfmekaaRegionTwo
import Derived.Deep.RegionHeld3
import Derived.Deep.Cut
namespace Go.Proofs.Ytbncicfbgfmekaa
set_option linter.unusedVariables false
set_option linter.unusedSimpArgs false
open Go.RowKit

theorem Own.emptyRow {S : Nat → Prop} {w0 w : World} {R : List SP} (h : Own S w0 w R) (e : TypeId) : Own S w0 (w.alloc (.cells #[] e)) (SP.row e 1 (.slice (some ⟨w.heap.size, 0, none⟩) 0 0) [] :: R) :=
  h.gain ((Below.refl _ _).alloc (Nat.le_refl _) _) ((SP.row e 1 _ _).mono (row_empty_at (heap_alloc_new w _)) (fun k hk => by subst hk; exact ⟨Nat.le_refl _, by simp⟩))
def QPost (S : Nat → Prop) (w0 : World) (R : List SP) (g1 g2 : Nat) (room other : Int) (e : Ending) (w' : World) : Prop :=
  ∃ (xs ys : List Int) (A : Option Addr) (ca : Nat) (B : Option Addr) (cb : Nat), e = .returned (.tuple #[.slice A xs.length ca, .slice B ys.length cb, .bool true]) ∧ (xs.length : Int) ≤ room ∧ (ys.length : Int) ≤ other ∧ Own S w0 w' (SP.quei g1 room xs :: SP.quei g2 other ys :: SP.row 3 1 (.slice A xs.length ca) (valsi xs) :: SP.row 3 1 (.slice B ys.length cb) (valsi ys) :: R)
section
variable {S : Nat → Prop} {w0 w : World} {R : List SP} {g1 g2 : Nat} {room other : Int} {xs ys : List Int}
theorem qPost_mk {e : Ending} {w' : World} (xs ys : List Int) (A : Option Addr) (ca : Nat) (B : Option Addr) (cb : Nat) {n m : Nat} {b : Bool} (hn : xs.length = n) (hm : ys.length = m) (hb : b = true) (he : e = .returned (.tuple #[.slice A n ca, .slice B m cb, .bool b])) (h1 : (n : Int) ≤ room) (h2 : (m : Int) ≤ other)
    (h : Own S w0 w' (SP.quei g1 room xs :: SP.quei g2 other ys :: SP.row 3 1 (.slice A n ca) (valsi xs) :: SP.row 3 1 (.slice B m cb) (valsi ys) :: R)) : QPost S w0 R g1 g2 room other e w' := by
  subst hn hm hb
  exact ⟨xs, ys, A, ca, B, cb, he, h1, h2, h⟩
set_option maxRecDepth 100000 in
set_option maxHeartbeats 12800000 in
theorem qdo3_own {A B : Option Addr} {ca cb : Nat} (hrm : 1 ≤ room ∧ room ≤ 64) (hot : 1 ≤ other ∧ other ≤ 64) (hx : (xs.length : Int) ≤ room) (hy : (ys.length : Int) ≤ other) (kd nn ln : Int) (hi : In64 kd ∧ In64 nn) (hk : kd = 3) (h : Own S w0 w (SP.quei g1 room xs :: SP.quei g2 other ys :: SP.row 3 1 (.slice A xs.length ca) (valsi xs) :: SP.row 3 1 (.slice B ys.length cb) (valsi ys) :: R)) :
    Calls Try.prog 33 #[.pointer (some ⟨g1, 0, none⟩), .pointer (some ⟨g2, 0, none⟩), .slice A xs.length ca, .slice B ys.length cb, .int .i64 room, .int .i64 other, .agg #[.int .i64 kd, .int .i64 nn, .int .i64 ln]] w (QPost S w0 R g1 g2 room other) := by
  obtain ⟨n, hn⟩ : ∃ n, xs.length = n := ⟨_, rfl⟩
  obtain ⟨m, hm⟩ : ∃ m, ys.length = m := ⟨_, rfl⟩
  have HL := Lib.hid (And.intro hn hm)
  obtain ⟨hr1, hr2⟩ := hrm
  obtain ⟨ho1, ho2⟩ := hot
  have HI := Lib.hid hi
  rw [hn] at h hx ⊢
  rw [hm] at h hy ⊢
  have hn64 : n ≤ 64 := by omega
  have hm64 : m ≤ 64 := by omega
  obtain ⟨hca, hcm⟩ := (h.pick (L := [_, _, _]) [2]).row_le (by decide) (by rw [valsi_length, hn, Nat.mul_one])
  obtain ⟨hcb, hcm2⟩ := (h.pick (L := [_, _, _, _]) [3]).row_le (by decide) (by rw [valsi_length, hm, Nat.mul_one])
  unfold maxLen at hcm hcm2
  obtain ⟨q, hq⟩ : ∃ q, w.heap.size = q := ⟨_, rfl⟩
  have HQ := Lib.hid hq
  have o1 := h.alloc #[.int .i64 kd, .int .i64 nn, .int .i64 ln] 28
  rw [hq] at o1
  obtain ⟨w1, hw1⟩ : ∃ W, w.alloc (.cells #[.int .i64 kd, .int .i64 nn, .int .i64 ln] 28) = W := ⟨_, rfl⟩
  have HW := Lib.hid hw1
  rw [hw1] at o1
  have HO := Lib.hid (o1.pick (L := [_, _, _, _, _]) [1, 2, 0, 3, 4])
  have HSF := Lib.hid (fun (W : World) (R' : List SP) (o : Own S w0 W (SP.blk q 28 #[.int .i64 kd, .int .i64 nn, .int .i64 ln] :: R')) => show W.cell? ⟨q, 1, none⟩ = some (.int .i64 nn) from o.blk_cell 1)
  have e0 := o1.blk_cell 0
  have e1 := o1.blk_cell 1
  simp only [List.getElem?_toArray, List.getElem?_cons_zero, List.getElem?_cons_succ] at e0 e1
  have hk0 : (kd == 0) = false := by rw [beq_eq_false_iff_ne, hk]; decide
  have hk1 : (kd == 1) = false := by rw [beq_eq_false_iff_ne, hk]; decide
  have hk2 : (kd == 2) = false := by rw [beq_eq_false_iff_ne, hk]; decide
  have hk3 : (kd == 3) = true := by simp [hk]
  clear h o1 hi hq hw1 hk hn hm
  go_enter Try.func33, Try.ntmps33
  go_upto_region 1 with (fail)
  simp only [HQ.out, HW.out]
  have HC := Lib.hid (show Calls Try.prog 31 #[.pointer (some ⟨g1, 0, none⟩)] w1 fun e w' => e = .returned (.int .i64 (n : Nat)) ∧ Own S w0 w' (SP.quei g1 room [] :: SP.quei g2 other ys :: SP.blk q 28 #[.int .i64 kd, .int .i64 nn, .int .i64 ln] :: SP.row 3 1 (.slice A n ca) (valsi xs) :: SP.row 3 1 (.slice B m cb) (valsi ys) :: R) from by
    refine (SpecAt.use (qcleari_spec w1 g1 room xs) HO.out).mono ?_
    rintro e w' ⟨A', ⟨he, rfl⟩, o2, -⟩
    rw [HL.out.1] at he
    exact ⟨he, o2⟩)
  clear HO
  go_wp2_with fail
  refine (HC.out).mono ?_
  rintro e w2 ⟨rfl, o2⟩
  have O2 := Lib.hid o2
  clear o2 HC e0 e1
  go_wp2
  go_ret3
  exact qPost_mk [] ys none 0 B cb rfl HL.out.2 (by simp) rfl (by simp; omega) hy (((O2.out.pick (L := [_, _, _, _, _]) [0, 1, 4]).add (SP.row_nil _ _ _ _)).pick (L := [_, _, _, _]) [1, 2, 0, 3])
set_option maxRecDepth 100000 in
set_option maxHeartbeats 12800000 in
theorem qdo2_own {A B : Option Addr} {ca cb : Nat} (hrm : 1 ≤ room ∧ room ≤ 64) (hot : 1 ≤ other ∧ other ≤ 64) (hx : (xs.length : Int) ≤ room) (hy : (ys.length : Int) ≤ other) (kd nn ln : Int) (hi : In64 kd ∧ In64 nn) (hk : kd = 2) (h : Own S w0 w (SP.quei g1 room xs :: SP.quei g2 other ys :: SP.row 3 1 (.slice A xs.length ca) (valsi xs) :: SP.row 3 1 (.slice B ys.length cb) (valsi ys) :: R)) :
    Calls Try.prog 33 #[.pointer (some ⟨g1, 0, none⟩), .pointer (some ⟨g2, 0, none⟩), .slice A xs.length ca, .slice B ys.length cb, .int .i64 room, .int .i64 other, .agg #[.int .i64 kd, .int .i64 nn, .int .i64 ln]] w (QPost S w0 R g1 g2 room other) := by
  obtain ⟨n, hn⟩ : ∃ n, xs.length = n := ⟨_, rfl⟩
  obtain ⟨m, hm⟩ : ∃ m, ys.length = m := ⟨_, rfl⟩
  have HL := Lib.hid (And.intro hn hm)
  obtain ⟨hr1, hr2⟩ := hrm
  obtain ⟨ho1, ho2⟩ := hot
  have HI := Lib.hid hi
  rw [hn] at h hx ⊢
  rw [hm] at h hy ⊢
  have hn64 : n ≤ 64 := by omega
  have hm64 : m ≤ 64 := by omega
  obtain ⟨hca, hcm⟩ := (h.pick (L := [_, _, _]) [2]).row_le (by decide) (by rw [valsi_length, hn, Nat.mul_one])
  obtain ⟨hcb, hcm2⟩ := (h.pick (L := [_, _, _, _]) [3]).row_le (by decide) (by rw [valsi_length, hm, Nat.mul_one])
  unfold maxLen at hcm hcm2
  obtain ⟨q, hq⟩ : ∃ q, w.heap.size = q := ⟨_, rfl⟩
  have HQ := Lib.hid hq
  have o1 := h.alloc #[.int .i64 kd, .int .i64 nn, .int .i64 ln] 28
  rw [hq] at o1
  obtain ⟨w1, hw1⟩ : ∃ W, w.alloc (.cells #[.int .i64 kd, .int .i64 nn, .int .i64 ln] 28) = W := ⟨_, rfl⟩
  have HW := Lib.hid hw1
  rw [hw1] at o1
  have HO := Lib.hid (o1.pick (L := [_, _, _, _, _]) [1, 2, 0, 3, 4])
  have HSF := Lib.hid (fun (W : World) (R' : List SP) (o : Own S w0 W (SP.blk q 28 #[.int .i64 kd, .int .i64 nn, .int .i64 ln] :: R')) => show W.cell? ⟨q, 1, none⟩ = some (.int .i64 nn) from o.blk_cell 1)
  have e0 := o1.blk_cell 0
  have e1 := o1.blk_cell 1
  simp only [List.getElem?_toArray, List.getElem?_cons_zero, List.getElem?_cons_succ] at e0 e1
  have hk0 : (kd == 0) = false := by rw [beq_eq_false_iff_ne, hk]; decide
  have hk1 : (kd == 1) = false := by rw [beq_eq_false_iff_ne, hk]; decide
  have hk2 : (kd == 2) = true := by simp [hk]
  have hk1' : ¬ kd = 1 := by omega
  clear h o1 hi hq hw1 hk hn hm
  go_enter Try.func33, Try.ntmps33
  go_upto_region 1 with (fail)
  simp only [HQ.out, HW.out]
  have HC := Lib.hid (show Calls Try.prog 40 #[.pointer (some ⟨g1, 0, none⟩)] w1 fun e w' => e = .returned (.tuple #[.int .i64 (xs.headD 0), .bool (!xs.isEmpty)]) ∧ Own S w0 w' (SP.quei g1 room xs :: SP.quei g2 other ys :: SP.blk q 28 #[.int .i64 kd, .int .i64 nn, .int .i64 ln] :: SP.row 3 1 (.slice A n ca) (valsi xs) :: SP.row 3 1 (.slice B m cb) (valsi ys) :: R) from by
    refine (SpecAt.use (qpeeki_spec w1 g1 room xs (by rw [HL.out.1]; exact hn64)) HO.out).mono ?_
    rintro e w' ⟨A', ⟨he, rfl⟩, o2, -⟩
    exact ⟨he, o2⟩)
  clear HO
  cases xs with
  | nil =>
    obtain rfl : n = 0 := HL.out.1.symm
    simp only [List.headD_nil, List.isEmpty_nil, Bool.not_true] at HC
    go_wp2_with fail
    refine (HC.out).mono ?_
    rintro e w2 ⟨rfl, o2⟩
    have e0 := (o2.pick (L := [_, _, _]) [2]).blk_cell 0
    simp only [List.getElem?_toArray, List.getElem?_cons_zero, List.getElem?_cons_succ] at e0
    have O2 := Lib.hid o2
    clear o2 HC e1
    go_wp2
    go_ret3
    exact qPost_mk [] ys A ca B cb rfl HL.out.2 (by simp) rfl (by simp; omega) hy (O2.out.pick (L := [_, _, _, _, _]) [0, 1, 3, 4])
  | cons x rest =>
    have hn1 : n = rest.length + 1 := HL.out.1.symm
    simp only [List.headD_cons, List.isEmpty_cons, Bool.not_false] at HC
    obtain ⟨nr, hnr⟩ : ∃ nr, rest.length = nr := ⟨_, rfl⟩
    have HNR := Lib.hid hnr
    rw [hnr] at hn1
    subst hn1
    clear hnr
    go_wp2_with fail
    refine (HC.out).mono ?_
    rintro e w2 ⟨rfl, o2⟩
    have e0 := (o2.pick (L := [_, _, _]) [2]).blk_cell 0
    simp only [List.getElem?_toArray, List.getElem?_cons_zero, List.getElem?_cons_succ] at e0
    obtain ⟨ga, oa, rfl, k0, -⟩ := (o2.pick (L := [_, _, _, _]) [3]).cell (j := 0) (u := .int .i64 x) rfl
    rw [Nat.add_zero] at k0
    have O2 := Lib.hid o2
    clear o2 HC e1
    go_upto_region 16 with (fail)
    go_region_held3 (fun W => W.cell? ⟨ga, oa, none⟩ = some (.int .i64 x)) (first | go_keep | exact k0) (fail)
    go_wp2
    go_ret3
    exact qPost_mk (x :: rest) ys _ ca B cb (by rw [List.length_cons, HNR.out]) HL.out.2 (by simp) rfl hx hy (O2.out.pick (L := [_, _, _, _, _]) [0, 1, 3, 4]).drew
set_option maxRecDepth 100000 in
set_option maxHeartbeats 12800000 in
theorem qdo1_own {A B : Option Addr} {ca cb : Nat} (hrm : 1 ≤ room ∧ room ≤ 64) (hot : 1 ≤ other ∧ other ≤ 64) (hx : (xs.length : Int) ≤ room) (hy : (ys.length : Int) ≤ other) (kd nn ln : Int) (hi : In64 kd ∧ In64 nn) (hk : kd = 1) (h : Own S w0 w (SP.quei g1 room xs :: SP.quei g2 other ys :: SP.row 3 1 (.slice A xs.length ca) (valsi xs) :: SP.row 3 1 (.slice B ys.length cb) (valsi ys) :: R)) :
    Calls Try.prog 33 #[.pointer (some ⟨g1, 0, none⟩), .pointer (some ⟨g2, 0, none⟩), .slice A xs.length ca, .slice B ys.length cb, .int .i64 room, .int .i64 other, .agg #[.int .i64 kd, .int .i64 nn, .int .i64 ln]] w (QPost S w0 R g1 g2 room other) := by
  obtain ⟨n, hn⟩ : ∃ n, xs.length = n := ⟨_, rfl⟩
  obtain ⟨m, hm⟩ : ∃ m, ys.length = m := ⟨_, rfl⟩
  have HL := Lib.hid (And.intro hn hm)
  obtain ⟨hr1, hr2⟩ := hrm
  obtain ⟨ho1, ho2⟩ := hot
  have HI := Lib.hid hi
  rw [hn] at h hx ⊢
  rw [hm] at h hy ⊢
  have hn64 : n ≤ 64 := by omega
  have hm64 : m ≤ 64 := by omega
  obtain ⟨hca, hcm⟩ := (h.pick (L := [_, _, _]) [2]).row_le (by decide) (by rw [valsi_length, hn, Nat.mul_one])
  obtain ⟨hcb, hcm2⟩ := (h.pick (L := [_, _, _, _]) [3]).row_le (by decide) (by rw [valsi_length, hm, Nat.mul_one])
  unfold maxLen at hcm hcm2
  obtain ⟨q, hq⟩ : ∃ q, w.heap.size = q := ⟨_, rfl⟩
  have HQ := Lib.hid hq
  have o1 := h.alloc #[.int .i64 kd, .int .i64 nn, .int .i64 ln] 28
  rw [hq] at o1
  obtain ⟨w1, hw1⟩ : ∃ W, w.alloc (.cells #[.int .i64 kd, .int .i64 nn, .int .i64 ln] 28) = W := ⟨_, rfl⟩
  have HW := Lib.hid hw1
  rw [hw1] at o1
  have HO := Lib.hid (o1.pick (L := [_, _, _, _, _]) [1, 2, 0, 3, 4])
  have HSF := Lib.hid (fun (W : World) (R' : List SP) (o : Own S w0 W (SP.blk q 28 #[.int .i64 kd, .int .i64 nn, .int .i64 ln] :: R')) => show W.cell? ⟨q, 1, none⟩ = some (.int .i64 nn) from o.blk_cell 1)
  have e0 := o1.blk_cell 0
  have e1 := o1.blk_cell 1
  simp only [List.getElem?_toArray, List.getElem?_cons_zero, List.getElem?_cons_succ] at e0 e1
  have hk0 : (kd == 0) = false := by rw [beq_eq_false_iff_ne, hk]; decide
  have hk1 : (kd == 1) = true := by simp [hk]
  clear h o1 hi hq hw1 hk hn hm
  go_enter Try.func33, Try.ntmps33
  go_upto_region 1 with (fail)
  simp only [HQ.out, HW.out]
  have HC := Lib.hid (show Calls Try.prog 40 #[.pointer (some ⟨g1, 0, none⟩)] w1 fun e w' => e = .returned (.tuple #[.int .i64 (xs.headD 0), .bool (!xs.isEmpty)]) ∧ Own S w0 w' (SP.quei g1 room xs :: SP.quei g2 other ys :: SP.blk q 28 #[.int .i64 kd, .int .i64 nn, .int .i64 ln] :: SP.row 3 1 (.slice A n ca) (valsi xs) :: SP.row 3 1 (.slice B m cb) (valsi ys) :: R) from by
    refine (SpecAt.use (qpeeki_spec w1 g1 room xs (by rw [HL.out.1]; exact hn64)) HO.out).mono ?_
    rintro e w' ⟨A', ⟨he, rfl⟩, o2, -⟩
    exact ⟨he, o2⟩)
  clear HO
  cases xs with
  | nil =>
    obtain rfl : n = 0 := HL.out.1.symm
    simp only [List.headD_nil, List.isEmpty_nil, Bool.not_true] at HC
    go_wp2_with fail
    refine (HC.out).mono ?_
    rintro e w2 ⟨rfl, o2⟩
    have e0 := (o2.pick (L := [_, _, _]) [2]).blk_cell 0
    simp only [List.getElem?_toArray, List.getElem?_cons_zero, List.getElem?_cons_succ] at e0
    have O2 := Lib.hid o2
    have HT := Lib.hid (show Calls Try.prog 19 #[.pointer (some ⟨g1, 0, none⟩)] w2 fun e w' => e = .returned (.tuple #[.int .i64 0, .bool false]) ∧ Own S w0 w' (SP.quei g1 room [] :: SP.quei g2 other ys :: SP.blk q 28 #[.int .i64 kd, .int .i64 nn, .int .i64 ln] :: SP.row 3 1 (.slice A 0 ca) (valsi []) :: SP.row 3 1 (.slice B m cb) (valsi ys) :: R) from by
      refine (SpecAt.use (qtakei_spec w2 g1 room [] (by simp)) O2.out).mono ?_
      rintro e w' ⟨A', ⟨he, rfl⟩, o2, -⟩
      exact ⟨he, o2⟩)
    clear o2 HC e1 O2
    go_wp2_with fail
    refine (HT.out).mono ?_
    rintro e w3 ⟨rfl, o3⟩
    have O2 := Lib.hid o3
    clear o3 HT e0
    go_wp2
    go_ret3
    exact qPost_mk [] ys A ca B cb rfl HL.out.2 (by simp) rfl (by simp; omega) hy (O2.out.pick (L := [_, _, _, _, _]) [0, 1, 3, 4])
  | cons x rest =>
    have hn1 : n = rest.length + 1 := HL.out.1.symm
    simp only [List.headD_cons, List.isEmpty_cons, Bool.not_false] at HC
    obtain ⟨nr, hnr⟩ : ∃ nr, rest.length = nr := ⟨_, rfl⟩
    have HNR := Lib.hid hnr
    rw [hnr] at hn1
    subst hn1
    clear hnr
    go_wp2_with fail
    refine (HC.out).mono ?_
    rintro e w2 ⟨rfl, o2⟩
    have e0 := (o2.pick (L := [_, _, _]) [2]).blk_cell 0
    simp only [List.getElem?_toArray, List.getElem?_cons_zero, List.getElem?_cons_succ] at e0
    have HT := Lib.hid (show Calls Try.prog 19 #[.pointer (some ⟨g1, 0, none⟩)] w2 fun e w' => e = .returned (.tuple #[.int .i64 x, .bool true]) ∧ Own S w0 w' (SP.quei g1 room rest :: SP.quei g2 other ys :: SP.blk q 28 #[.int .i64 kd, .int .i64 nn, .int .i64 ln] :: SP.row 3 1 (.slice A (nr + 1) ca) (valsi (x :: rest)) :: SP.row 3 1 (.slice B m cb) (valsi ys) :: R) from by
      refine (SpecAt.use (qtakei_spec w2 g1 room (x :: rest) (by rw [List.length_cons, HNR.out]; exact hn64)) o2).mono ?_
      rintro e w' ⟨A', ⟨he, rfl⟩, o2, -⟩
      exact ⟨he, o2⟩)
    clear o2 HC e1
    go_wp2_with fail
    refine (HT.out).mono ?_
    rintro e w3 ⟨rfl, o3⟩
    have e0 := (o3.pick (L := [_, _, _]) [2]).blk_cell 0
    simp only [List.getElem?_toArray, List.getElem?_cons_zero, List.getElem?_cons_succ] at e0
    obtain ⟨ga, oa, rfl, k0, -⟩ := (o3.pick (L := [_, _, _, _]) [3]).cell (j := 0) (u := .int .i64 x) rfl
    rw [Nat.add_zero] at k0
    have O0 := Lib.hid o3.drew
    clear HT o3
    have HSF := Lib.hid (fun (W : World) (R' : List SP) (o : Own S w0 W (SP.row 3 1 (.slice (some ⟨ga, oa, none⟩) (nr + 1) ca) (valsi (x :: rest)) :: R')) => show W.cell? ⟨ga, oa, none⟩ = some (.int .i64 x) from by
      obtain ⟨_, _, z, k, -⟩ := o.cell (j := 0) (u := .int .i64 x) rfl
      cases z
      rw [Nat.add_zero] at k
      exact k)
    have i1 : (0 : Int) ≤ 1 := by decide
    have i2 : (1 : Int) ≤ (nr : Int) + 1 := by omega
    have i3 : (1 : Int) ≤ ((nr + 1 : Nat) : Int) := by omega
    go_upto_region 15 with (fail)
    refine wp_region_need (fun W => W.cell? ⟨ga, oa, none⟩ = some (.int .i64 x)) (fun j => decide (j < 99)) (by kernel_rfl) ?_
    obtain ⟨W0, hW0⟩ : ∃ W0, w3.drew = W0 := ⟨_, rfl⟩
    rw [hW0] at O0 ⊢
    clear hW0
    have HS := Lib.hid (HSF.out _ _ (O0.out.pick (L := [_, _, _, _]) [3]))
    refine wpAnyN_take (i := 1) (v := ?v1) (by simp only [List.getElem?_toArray, List.getElem?_cons_succ, List.getElem?_cons_zero]; rfl) (by kernel_rfl) (by intro _ _ _ h; exact h) (Or.inl ⟨by rfl, ?y1⟩) HS.out ?r1
    case y1 =>
      intro W hSW
      try dsimp only at hSW
      have s0 := hSW
      go_simp
      try with_reducible rfl
    simp only [Act.put, List.setIfInBounds_toArray, List.set_cons_zero, List.set_cons_succ]
    refine wpAnyN_take (i := 2) (v := ?v2) (by simp only [List.getElem?_toArray, List.getElem?_cons_succ, List.getElem?_cons_zero]; rfl) (by kernel_rfl) (by intro _ _ _ h; exact h) (Or.inl ⟨by rfl, ?y2⟩) HS.out ?r2
    case y2 =>
      intro W hSW
      try dsimp only at hSW
      have s0 := hSW
      go_simp
      try with_reducible rfl
    simp only [Act.put, List.setIfInBounds_toArray, List.set_cons_zero, List.set_cons_succ]
    refine wpAnyN_take (i := 4) (v := ?v4) (by simp only [List.getElem?_toArray, List.getElem?_cons_succ, List.getElem?_cons_zero]; rfl) (by kernel_rfl) (by intro _ _ _ h; exact h) (Or.inl ⟨by rfl, ?y4⟩) HS.out ?r4
    case y4 =>
      intro W hSW
      try dsimp only at hSW
      have s0 := hSW
      go_simp
      try with_reducible rfl
    simp only [Act.put, List.setIfInBounds_toArray, List.set_cons_zero, List.set_cons_succ]
    refine wpAnyN_take (i := 5) (v := ?v5) (by simp only [List.getElem?_toArray, List.getElem?_cons_succ, List.getElem?_cons_zero]; rfl) (by kernel_rfl) (by intro _ _ _ h; exact h) (Or.inl ⟨by rfl, ?y5⟩) HS.out ?r5
    case y5 =>
      intro W hSW
      try dsimp only at hSW
      have s0 := hSW
      go_simp
      try with_reducible rfl
    simp only [Act.put, List.setIfInBounds_toArray, List.set_cons_zero, List.set_cons_succ]
    obtain ⟨A2, hA2⟩ : ∃ A2, (if ca = 1 then some (⟨ga, oa, none⟩ : Addr) else some ⟨ga, oa + 1, none⟩) = A2 := ⟨_, rfl⟩
    have HRD := Lib.hid (fun (W : World) (R' : List SP) (o : Own S w0 W (SP.row 3 1 (.slice (some ⟨ga, oa, none⟩) (nr + 1) ca) (valsi (x :: rest)) :: R')) => show Rd W A2 (valsi rest) from by
      have := (o.cutLit (k := 1) (by omega) hca (by rw [valsi_length, List.length_cons, HNR.out])).rd
      rw [hA2] at this
      exact this)
    simp only [hA2]
    clear hA2 k0 e0
    refine wpAnyN_one (i := 0) (by kernel_rfl) (by simp only [List.getElem?_toArray, List.getElem?_cons_succ, List.getElem?_cons_zero]; rfl) (fun K hK => ?_)
    go_simp
    have kE1 := Lib.hid (O0.out.emptyRow 3)
    refine hK _ _ ⟨fun _ => HSF.out _ _ (kE1.out.pick (L := [_, _, _, _, _, _]) [4]), ?_⟩
    clear hK K O0
    try simp only [Act.put, List.setIfInBounds_toArray, List.set_cons_zero, List.set_cons_succ]
    obtain ⟨kW1, hkW1⟩ : ∃ x, W0.alloc (.cells #[] 3) = x := ⟨_, rfl⟩
    obtain ⟨kqE, hkqE⟩ : ∃ x, W0.heap.size = x := ⟨_, rfl⟩
    rw [hkW1, hkqE] at kE1
    simp only [hkW1, hkqE]
    clear hkW1 hkqE
    refine wpAnyN_one (i := 3) (by kernel_rfl) (by simp only [List.getElem?_toArray, List.getElem?_cons_succ, List.getElem?_cons_zero]; rfl) (fun K hK => ?_)
    have kE2p := Lib.hid (kE1.out.pick (L := [_, _, _, _, _, _]) [0, 1, 2, 3, 4, 5])
    refine step_append_move rfl (.tmp 77) (.tmp 79) 30 rfl 3 (.int .i64 0) 1 8 Try.underlying30 Try.info3 rfl (by decide) (by simp [Act.eval]) (by simp) kE2p.out (Below.refl _ _) (A2) (nr) (ca - 1) (valsi rest) (by simp [Act.eval]) (by rw [valsi_length, HNR.out, Nat.mul_one]) (HRD.out _ _ (kE2p.out.pick (L := [_, _, _, _, _, _]) [4])) (valsi_one) (by unfold maxLen; omega) (by omega) ?_
    rintro kA1A kA1c kW2 kE2o
    rw [Nat.zero_add, List.nil_append] at kE2o
    have kE2 := Lib.hid kE2o
    refine hK _ _ ⟨fun _ => HSF.out _ _ (kE2o.pick (L := [_, _, _, _, _, _]) [4]), ?_⟩
    clear hK K kE1 kE2o kE2p
    try simp only [Act.put, List.setIfInBounds_toArray, List.set_cons_zero, List.set_cons_succ]
    have HSz := Lib.hid (HSF.out _ _ (kE2.out.pick (L := [_, _, _, _, _, _]) [4]))
    refine wpAnyN_take (i := 6) (v := ?vz6) (by simp only [List.getElem?_toArray, List.getElem?_cons_succ, List.getElem?_cons_zero]; rfl) (by kernel_rfl) (by intro _ _ _ h; exact h) (Or.inl ⟨by rfl, ?yz6⟩) HSz.out ?rz6
    case yz6 =>
      intro W hSW
      try dsimp only at hSW
      have s0 := hSW
      go_simp
      try with_reducible rfl
    simp only [Act.put, List.setIfInBounds_toArray, List.set_cons_zero, List.set_cons_succ]
    refine wpAnyN_take (i := 7) (v := ?vz7) (by simp only [List.getElem?_toArray, List.getElem?_cons_succ, List.getElem?_cons_zero]; rfl) (by kernel_rfl) (by intro _ _ _ h; exact h) (Or.inl ⟨by rfl, ?yz7⟩) HSz.out ?rz7
    case yz7 =>
      intro W hSW
      try dsimp only at hSW
      have s0 := hSW
      go_simp
      try with_reducible rfl
    simp only [Act.put, List.setIfInBounds_toArray, List.set_cons_zero, List.set_cons_succ]
    refine wpAnyN_take (i := 8) (v := ?vz8) (by simp only [List.getElem?_toArray, List.getElem?_cons_succ, List.getElem?_cons_zero]; rfl) (by kernel_rfl) (by intro _ _ _ h; exact h) (Or.inl ⟨by rfl, ?yz8⟩) HSz.out ?rz8
    case yz8 =>
      intro W hSW
      try dsimp only at hSW
      have s0 := hSW
      go_simp
      try with_reducible rfl
    simp only [Act.put, List.setIfInBounds_toArray, List.set_cons_zero, List.set_cons_succ]
    refine wpAnyN_take (i := 9) (v := ?vz9) (by simp only [List.getElem?_toArray, List.getElem?_cons_succ, List.getElem?_cons_zero]; rfl) (by kernel_rfl) (by intro _ _ _ h; exact h) (Or.inl ⟨by rfl, ?yz9⟩) HSz.out ?rz9
    case yz9 =>
      intro W hSW
      try dsimp only at hSW
      have s0 := hSW
      go_simp
      try with_reducible rfl
    simp only [Act.put, List.setIfInBounds_toArray, List.set_cons_zero, List.set_cons_succ]
    refine wpAnyN_take (i := 10) (v := ?vz10) (by simp only [List.getElem?_toArray, List.getElem?_cons_succ, List.getElem?_cons_zero]; rfl) (by kernel_rfl) (by intro _ _ _ h; exact h) (Or.inl ⟨by rfl, ?yz10⟩) HSz.out ?rz10
    case yz10 =>
      intro W hSW
      try dsimp only at hSW
      have s0 := hSW
      go_simp
      try with_reducible rfl
    simp only [Act.put, List.setIfInBounds_toArray, List.set_cons_zero, List.set_cons_succ]
    refine wpAnyN_take (i := 11) (v := ?vz11) (by simp only [List.getElem?_toArray, List.getElem?_cons_succ, List.getElem?_cons_zero]; rfl) (by kernel_rfl) (by intro _ _ _ h; exact h) (Or.inl ⟨by rfl, ?yz11⟩) HSz.out ?rz11
    case yz11 =>
      intro W hSW
      try dsimp only at hSW
      have s0 := hSW
      go_simp
      try with_reducible rfl
    simp only [Act.put, List.setIfInBounds_toArray, List.set_cons_zero, List.set_cons_succ]
    refine wpAnyN_take (i := 12) (v := ?vz12) (by simp only [List.getElem?_toArray, List.getElem?_cons_succ, List.getElem?_cons_zero]; rfl) (by kernel_rfl) (by intro _ _ _ h; exact h) (Or.inl ⟨by rfl, ?yz12⟩) HSz.out ?rz12
    case yz12 =>
      intro W hSW
      try dsimp only at hSW
      have s0 := hSW
      go_simp
      try with_reducible rfl
    simp only [Act.put, List.setIfInBounds_toArray, List.set_cons_zero, List.set_cons_succ]
    refine wpAnyN_take (i := 13) (v := ?vz13) (by simp only [List.getElem?_toArray, List.getElem?_cons_succ, List.getElem?_cons_zero]; rfl) (by kernel_rfl) (by intro _ _ _ h; exact h) (Or.inl ⟨by rfl, ?yz13⟩) HSz.out ?rz13
    case yz13 =>
      intro W hSW
      try dsimp only at hSW
      have s0 := hSW
      go_simp
      try with_reducible rfl
    simp only [Act.put, List.setIfInBounds_toArray, List.set_cons_zero, List.set_cons_succ]
    refine wpAnyN_take (i := 14) (v := ?vz14) (by simp only [List.getElem?_toArray, List.getElem?_cons_succ, List.getElem?_cons_zero]; rfl) (by kernel_rfl) (by intro _ _ _ h; exact h) (Or.inl ⟨by rfl, ?yz14⟩) HSz.out ?rz14
    case yz14 =>
      intro W hSW
      try dsimp only at hSW
      have s0 := hSW
      go_simp
      try with_reducible rfl
    simp only [Act.put, List.setIfInBounds_toArray, List.set_cons_zero, List.set_cons_succ]
    refine wpAnyN_take (i := 15) (v := ?vz15) (by simp only [List.getElem?_toArray, List.getElem?_cons_succ, List.getElem?_cons_zero]; rfl) (by kernel_rfl) (by intro _ _ _ h; exact h) (Or.inl ⟨by rfl, ?yz15⟩) HSz.out ?rz15
    case yz15 =>
      intro W hSW
      try dsimp only at hSW
      have s0 := hSW
      go_simp
      try with_reducible rfl
    simp only [Act.put, List.setIfInBounds_toArray, List.set_cons_zero, List.set_cons_succ]
    refine wpAnyN_done (by kernel_rfl) ?_ _
    go_wp2
    go_ret3
    exact qPost_mk rest ys _ _ B cb HNR.out HL.out.2 (by simp) rfl (by omega) hy (kE2.out.pick (L := [_, _, _, _, _, _]) [1, 2, 0, 5])
end
end Go.Proofs.Ytbncicfbgfmekaa
