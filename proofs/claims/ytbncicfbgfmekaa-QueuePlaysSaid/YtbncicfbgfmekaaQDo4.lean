/-
  The law's does on two queues and two lists, kind 4.
  Conditions: the queues hold no more than their rooms; the lists say what is in them.
-/
import Derived.Test.YtbncicfbgfmekaaQDo
import Derived.Test.YtbncicfbgfmekaaOps
import Derived.Test.YtbncicfbgfmekaaRegionNeed
import Derived.Test.YtbncicfbgfmekaaRegionTwo
import Derived.Deep.RegionHeld3
import Derived.Deep.Cut
namespace Go.Proofs.Ytbncicfbgfmekaa
set_option linter.unusedVariables false
set_option linter.unusedSimpArgs false
open Go.RowKit

section
variable {S : Nat → Prop} {w0 w : World} {R : List SP} {g1 g2 : Nat} {room other : Int} {xs ys : List Int}
set_option maxRecDepth 100000 in
set_option maxHeartbeats 12800000 in
theorem qdo4_own {A B : Option Addr} {ca cb : Nat} (hrm : 1 ≤ room ∧ room ≤ 64) (hot : 1 ≤ other ∧ other ≤ 64) (hx : (xs.length : Int) ≤ room) (hy : (ys.length : Int) ≤ other) (kd nn ln : Int) (hi : In64 kd ∧ In64 nn) (hk : kd = 4) (h : Own S w0 w (SP.quei g1 room xs :: SP.quei g2 other ys :: SP.row 3 1 (.slice A xs.length ca) (valsi xs) :: SP.row 3 1 (.slice B ys.length cb) (valsi ys) :: R)) :
    Calls Try.prog 33 #[.pointer (some ⟨g1, 0, none⟩), .pointer (some ⟨g2, 0, none⟩), .slice A xs.length ca, .slice B ys.length cb, .int .i64 room, .int .i64 other, .agg #[.int .i64 kd, .int .i64 nn, .int .i64 ln]] w (QPost S w0 R g1 g2 room other) := by
  obtain ⟨n, hn⟩ : ∃ n, xs.length = n := ⟨_, rfl⟩
  obtain ⟨m, hm⟩ : ∃ m, ys.length = m := ⟨_, rfl⟩
  have HL := Lib.hid (And.intro hn hm)
  obtain ⟨hr1, hr2⟩ := hrm
  obtain ⟨ho1, ho2⟩ := hot
  have HI := Lib.hid hi
  rw [hn] at h hx ⊢
  rw [hm] at h hy ⊢
  have hn64 : n ≤ 64 := by omega
  have hm64 : m ≤ 64 := by omega
  obtain ⟨hca, hcm⟩ := (h.pick (L := [_, _, _]) [2]).row_le (by decide) (by rw [valsi_length, hn, Nat.mul_one])
  obtain ⟨hcb, hcm2⟩ := (h.pick (L := [_, _, _, _]) [3]).row_le (by decide) (by rw [valsi_length, hm, Nat.mul_one])
  unfold maxLen at hcm hcm2
  obtain ⟨q, hq⟩ : ∃ q, w.heap.size = q := ⟨_, rfl⟩
  have HQ := Lib.hid hq
  have o1 := h.alloc #[.int .i64 kd, .int .i64 nn, .int .i64 ln] 28
  rw [hq] at o1
  obtain ⟨w1, hw1⟩ : ∃ W, w.alloc (.cells #[.int .i64 kd, .int .i64 nn, .int .i64 ln] 28) = W := ⟨_, rfl⟩
  have HW := Lib.hid hw1
  rw [hw1] at o1
  have HO := Lib.hid (o1.pick (L := [_, _, _, _, _]) [1, 2, 0, 3, 4])
  have HSF := Lib.hid (fun (W : World) (R' : List SP) (o : Own S w0 W (SP.blk q 28 #[.int .i64 kd, .int .i64 nn, .int .i64 ln] :: R')) => show W.cell? ⟨q, 1, none⟩ = some (.int .i64 nn) from o.blk_cell 1)
  have e0 := o1.blk_cell 0
  have e1 := o1.blk_cell 1
  simp only [List.getElem?_toArray, List.getElem?_cons_zero, List.getElem?_cons_succ] at e0 e1
  have hk0 : (kd == 0) = false := by rw [beq_eq_false_iff_ne, hk]; decide
  have hk1 : (kd == 1) = false := by rw [beq_eq_false_iff_ne, hk]; decide
  have hk2 : (kd == 2) = false := by rw [beq_eq_false_iff_ne, hk]; decide
  have hk3 : (kd == 3) = false := by rw [beq_eq_false_iff_ne, hk]; decide
  have hk4 : (kd == 4) = true := by simp [hk]
  clear h o1 hi hq hw1 hk hn hm
  go_enter Try.func33, Try.ntmps33
  go_upto_region 1 with (fail)
  simp only [HQ.out, HW.out]
  obtain ⟨mv, hmv⟩ : ∃ mv, moveN n (other - (m : Int)) nn = mv := ⟨_, rfl⟩
  have HM := Lib.hid (show Calls Try.prog 21 #[.pointer (some ⟨g1, 0, none⟩), .pointer (some ⟨g2, 0, none⟩), .int .i64 nn] w1 fun e w' => e = .returned (.int .i64 (mv : Nat)) ∧ Own S w0 w' (SP.quei g1 room (xs.drop mv) :: SP.quei g2 other (ys ++ xs.take mv) :: SP.blk q 28 #[.int .i64 kd, .int .i64 nn, .int .i64 ln] :: SP.row 3 1 (.slice A n ca) (valsi xs) :: SP.row 3 1 (.slice B m cb) (valsi ys) :: R) from by
    refine (SpecAt.use (move_spec w1 g1 g2 room other nn xs ys (by omega) hr2 (by omega) ho2 (by rw [HL.out.1]; exact hx) (by rw [HL.out.2]; exact hy)) (Own.unflat (L := [_, _]) HO.out)).mono ?_
    rintro e w' ⟨A', ⟨he, rfl⟩, o2, -⟩
    rw [HL.out.1, HL.out.2, hmv] at he o2
    exact ⟨he, Own.flat (L := [_, _]) o2⟩)
  obtain ⟨mx, hmx⟩ : ∃ mx : Int, (if nn < 0 then 0 else nn) = mx := ⟨_, rfl⟩
  obtain ⟨mi, hmi⟩ : ∃ mi : Int, (if mx < other - (m : Int) then mx else other - (m : Int)) = mi := ⟨_, rfl⟩
  have HMIN := Lib.hid (show (if mi < (n : Int) then mi else (n : Int)) = (mv : Int) from by
    rw [← hmi, ← hmx, ← hmv]
    unfold moveN
    repeat' split
    all_goals omega)
  have HMX := Lib.hid (And.intro hmx hmi)
  have hm1 : mv ≤ n := by rw [← hmv]; unfold moveN; omega
  have hm2 : (mv : Int) + (m : Int) ≤ other := by rw [← hmv]; unfold moveN; omega
  have HMV := Lib.hid hmv
  have v1 : IntKind.i64.wrap (other - (m : Int)) = other - (m : Int) := IntWalk.i64_in _ (by omega)
  clear HO hmv hmx hmi
  go_upto_region 21 with (fail)
  simp only [HMX.out.1]
  simp only [HMX.out.2]
  simp only [HMIN.out]
  clear HMIN HMX e0
  go_wp2_with fail
  refine (HM.out).mono ?_
  rintro e w2 ⟨rfl, o2⟩
  have O0 := Lib.hid o2.drew
  clear o2 HM e1 v1
  have i1 : (mv : Int) ≤ (n : Int) := by omega
  have i2 : (n : Int) ≤ (ca : Int) := by omega
  have i3 : (mv : Int) ≤ (ca : Int) := by omega
  have i4 : mv ≤ ca := by omega
  have i5 : (0 : Int) ≤ (mv : Int) := by omega
  go_upto_region 22 with (fail)
  refine wp_region_need (fun W => W.cell? ⟨q, 1, none⟩ = some (.int .i64 nn)) (fun j => decide (j < 99)) (by kernel_rfl) ?_
  obtain ⟨W0, hW0⟩ : ∃ W0, w2.drew = W0 := ⟨_, rfl⟩
  rw [hW0] at O0 ⊢
  clear hW0
  have HS := Lib.hid (HSF.out _ _ (O0.out.pick (L := [_, _, _]) [2]))
  refine wpAnyN_take (i := 1) (v := ?v1) (by simp only [List.getElem?_toArray, List.getElem?_cons_succ, List.getElem?_cons_zero]; rfl) (by kernel_rfl) (by intro _ _ _ h; exact h) (Or.inl ⟨by rfl, ?y1⟩) HS.out ?r1
  case y1 =>
    intro W hSW
    try dsimp only at hSW
    have s0 := hSW
    go_simp
    try with_reducible rfl
  simp only [Act.put, List.setIfInBounds_toArray, List.set_cons_zero, List.set_cons_succ]
  refine wpAnyN_take (i := 2) (v := ?v2) (by simp only [List.getElem?_toArray, List.getElem?_cons_succ, List.getElem?_cons_zero]; rfl) (by kernel_rfl) (by intro _ _ _ h; exact h) (Or.inl ⟨by rfl, ?y2⟩) HS.out ?r2
  case y2 =>
    intro W hSW
    try dsimp only at hSW
    have s0 := hSW
    go_simp
    try with_reducible rfl
  simp only [Act.put, List.setIfInBounds_toArray, List.set_cons_zero, List.set_cons_succ]
  refine wpAnyN_take (i := 3) (v := ?v3) (by simp only [List.getElem?_toArray, List.getElem?_cons_succ, List.getElem?_cons_zero]; rfl) (by kernel_rfl) (by intro _ _ _ h; exact h) (Or.inl ⟨by rfl, ?y3⟩) HS.out ?r3
  case y3 =>
    intro W hSW
    try dsimp only at hSW
    have s0 := hSW
    go_simp
    try with_reducible rfl
  simp only [Act.put, List.setIfInBounds_toArray, List.set_cons_zero, List.set_cons_succ]
  refine wpAnyN_take (i := 6) (v := ?v6) (by simp only [List.getElem?_toArray, List.getElem?_cons_succ, List.getElem?_cons_zero]; rfl) (by kernel_rfl) (by intro _ _ _ h; exact h) (Or.inl ⟨by rfl, ?y6⟩) HS.out ?r6
  case y6 =>
    intro W hSW
    try dsimp only at hSW
    have s0 := hSW
    go_simp
    try with_reducible rfl
  simp only [Act.put, List.setIfInBounds_toArray, List.set_cons_zero, List.set_cons_succ]
  refine wpAnyN_take (i := 8) (v := ?v8) (by simp only [List.getElem?_toArray, List.getElem?_cons_succ, List.getElem?_cons_zero]; rfl) (by kernel_rfl) (by intro _ _ _ h; exact h) (Or.inl ⟨by rfl, ?y8⟩) HS.out ?r8
  case y8 =>
    intro W hSW
    try dsimp only at hSW
    have s0 := hSW
    go_simp
    try with_reducible rfl
  simp only [Act.put, List.setIfInBounds_toArray, List.set_cons_zero, List.set_cons_succ]
  refine wpAnyN_take (i := 9) (v := ?v9) (by simp only [List.getElem?_toArray, List.getElem?_cons_succ, List.getElem?_cons_zero]; rfl) (by kernel_rfl) (by intro _ _ _ h; exact h) (Or.inl ⟨by rfl, ?y9⟩) HS.out ?r9
  case y9 =>
    intro W hSW
    try dsimp only at hSW
    have s0 := hSW
    go_simp
    try with_reducible rfl
  simp only [Act.put, List.setIfInBounds_toArray, List.set_cons_zero, List.set_cons_succ]
  refine wpAnyN_take (i := 10) (v := ?v10) (by simp only [List.getElem?_toArray, List.getElem?_cons_succ, List.getElem?_cons_zero]; rfl) (by kernel_rfl) (by intro _ _ _ h; exact h) (Or.inl ⟨by rfl, ?y10⟩) HS.out ?r10
  case y10 =>
    intro W hSW
    try dsimp only at hSW
    have s0 := hSW
    go_simp
    try with_reducible rfl
  simp only [Act.put, List.setIfInBounds_toArray, List.set_cons_zero, List.set_cons_succ]
  refine wpAnyN_take (i := 12) (v := ?v12) (by simp only [List.getElem?_toArray, List.getElem?_cons_succ, List.getElem?_cons_zero]; rfl) (by kernel_rfl) (by intro _ _ _ h; exact h) (Or.inl ⟨by rfl, ?y12⟩) HS.out ?r12
  case y12 =>
    intro W hSW
    try dsimp only at hSW
    have s0 := hSW
    go_simp
    try with_reducible rfl
  simp only [Act.put, List.setIfInBounds_toArray, List.set_cons_zero, List.set_cons_succ]
  obtain ⟨A2, hA2⟩ : ∃ A2, (if ca = mv then A else Option.map (fun x => x.add mv) A) = A2 := ⟨_, rfl⟩
  have HRD := Lib.hid (fun (W : World) (R' : List SP) (o : Own S w0 W (SP.row 3 1 (.slice A n ca) (valsi xs) :: R')) => show Rd W A2 (valsi (xs.drop mv)) from by
    have := o.rd.cut mv (n - mv) ca 1 (fun h => by rw [valsi_length, HL.out.1] at h; omega)
    rw [Nat.mul_one, List.take_of_length_le (by rw [List.length_drop, valsi_length, HL.out.1]; omega), hA2, ← valsi_drop] at this
    exact this)
  have HRT := Lib.hid (fun (W : World) (R' : List SP) (o : Own S w0 W (SP.row 3 1 (.slice A n ca) (valsi xs) :: R')) => show Rd W A (valsi (xs.take mv)) from by
    have := o.rd
    rw [← List.take_append_drop mv xs, valsi_append] at this
    exact fun j u hu => this j u (by rw [List.getElem?_append_left (List.getElem?_eq_some_iff.1 hu).1]; exact hu))
  simp only [hA2]
  clear hA2
  refine wpAnyN_two (i := 0) (j := 5) (by kernel_rfl) (by simp only [List.getElem?_toArray, List.getElem?_cons_succ, List.getElem?_cons_zero]; rfl) (by simp only [List.getElem?_toArray, List.getElem?_cons_succ, List.getElem?_cons_zero]; rfl) (fun K hK => ?rc1) (fun K hK => ?rd1)
  case rc1 =>
    go_simp
    have rE2 := Lib.hid (O0.out.emptyRow 3)
    refine hK _ _ ⟨fun _ => HSF.out _ _ (rE2.out.pick (L := [_, _, _, _, _, _]) [3]), ?_⟩
    clear hK K O0
    try simp only [Act.put, List.setIfInBounds_toArray, List.set_cons_zero, List.set_cons_succ]
    obtain ⟨rW2, hrW2⟩ : ∃ x, W0.alloc (.cells #[] 3) = x := ⟨_, rfl⟩
    obtain ⟨rqE1, hrqE1⟩ : ∃ x, W0.heap.size = x := ⟨_, rfl⟩
    rw [hrW2, hrqE1] at rE2
    simp only [hrW2, hrqE1]
    clear hrW2 hrqE1
    refine wpAnyN_two (i := 4) (j := 5) (by kernel_rfl) (by simp only [List.getElem?_toArray, List.getElem?_cons_succ, List.getElem?_cons_zero]; rfl) (by simp only [List.getElem?_toArray, List.getElem?_cons_succ, List.getElem?_cons_zero]; rfl) (fun K hK => ?rc3) (fun K hK => ?rd3)
    case rc3 =>
      have rE4p := Lib.hid (rE2.out.pick (L := [_, _, _, _, _, _]) [0, 1, 2, 3, 4, 5])
      refine step_append_move rfl (.tmp 128) (.tmp 131) 30 rfl 3 (.int .i64 0) 1 8 Try.underlying30 Try.info3 rfl (by decide) (by simp [Act.eval]) (by simp) rE4p.out (Below.refl _ _) (A2) (n - mv) (ca - mv) (valsi (xs.drop mv)) (by simp [Act.eval]) (by rw [valsi_length, List.length_drop, HL.out.1, Nat.mul_one]) (HRD.out _ _ (rE4p.out.pick (L := [_, _, _, _, _, _]) [4])) (valsi_one) (by unfold maxLen; omega) (by omega) ?_
      rintro rA1A rA1c rW4 rE4o
      rw [Nat.zero_add, List.nil_append] at rE4o
      have rE4 := Lib.hid rE4o
      refine hK _ _ ⟨fun _ => HSF.out _ _ (rE4o.pick (L := [_, _, _, _, _, _]) [3]), ?_⟩
      clear hK K rE2 rE4o rE4p
      try simp only [Act.put, List.setIfInBounds_toArray, List.set_cons_zero, List.set_cons_succ]
      refine wpAnyN_one (i := 5) (by kernel_rfl) (by simp only [List.getElem?_toArray, List.getElem?_cons_succ, List.getElem?_cons_zero]; rfl) (fun K hK => ?_)
      go_simp
      have rE5 := Lib.hid (rE4.out.emptyRow 3)
      refine hK _ _ ⟨fun _ => HSF.out _ _ (rE5.out.pick (L := [_, _, _, _, _, _, _]) [4]), ?_⟩
      clear hK K rE4
      try simp only [Act.put, List.setIfInBounds_toArray, List.set_cons_zero, List.set_cons_succ]
      obtain ⟨rW5, hrW5⟩ : ∃ x, rW4.alloc (.cells #[] 3) = x := ⟨_, rfl⟩
      obtain ⟨rqE2, hrqE2⟩ : ∃ x, rW4.heap.size = x := ⟨_, rfl⟩
      rw [hrW5, hrqE2] at rE5
      simp only [hrW5, hrqE2]
      clear hrW5 hrqE2
      refine wpAnyN_one (i := 7) (by kernel_rfl) (by simp only [List.getElem?_toArray, List.getElem?_cons_succ, List.getElem?_cons_zero]; rfl) (fun K hK => ?_)
      have rE6p := Lib.hid (rE5.out.pick (L := [_, _, _, _, _, _, _]) [0, 1, 2, 3, 4, 5, 6])
      refine step_append_move rfl (.tmp 133) (.tmp 134) 30 rfl 3 (.int .i64 0) 1 8 Try.underlying30 Try.info3 rfl (by decide) (by simp [Act.eval]) (by simp) rE6p.out (Below.refl _ _) (B) (m) (cb) (valsi ys) (by simp [Act.eval]) (by rw [valsi_length, HL.out.2, Nat.mul_one]) ((rE6p.out.pick (L := [_, _, _, _, _, _, _]) [6]).rd) (valsi_one) (by unfold maxLen; omega) (by omega) ?_
      rintro rA2A rA2c rW6 rE6o
      rw [Nat.zero_add, List.nil_append] at rE6o
      have rE6 := Lib.hid rE6o
      refine hK _ _ ⟨fun _ => HSF.out _ _ (rE6o.pick (L := [_, _, _, _, _, _, _]) [4]), ?_⟩
      clear hK K rE5 rE6o rE6p
      try simp only [Act.put, List.setIfInBounds_toArray, List.set_cons_zero, List.set_cons_succ]
      refine wpAnyN_one (i := 11) (by kernel_rfl) (by simp only [List.getElem?_toArray, List.getElem?_cons_succ, List.getElem?_cons_zero]; rfl) (fun K hK => ?_)
      have rE7p := Lib.hid (rE6.out.pick (L := [_, _, _, _, _, _, _]) [0, 1, 2, 3, 4, 5, 6])
      refine step_append_move rfl (.tmp 135) (.tmp 138) 30 rfl 3 (.int .i64 0) 1 8 Try.underlying30 Try.info3 rfl (by decide) (by simp [Act.eval]) (by simp [valsi_length, HL.out.2]) rE7p.out (Below.refl _ _) (A) (mv) (ca) (valsi (xs.take mv)) (by simp [Act.eval]) (by rw [valsi_length, List.length_take, HL.out.1]; omega) (HRT.out _ _ (rE7p.out.pick (L := [_, _, _, _, _, _, _]) [5])) (valsi_one) (by unfold maxLen; omega) (by omega) ?_
      rintro rA3A rA3c rW7 rE7o
      skip
      have rE7 := Lib.hid rE7o
      refine hK _ _ ⟨fun _ => HSF.out _ _ (rE7o.pick (L := [_, _, _, _, _, _, _]) [4]), ?_⟩
      clear hK K rE6 rE7o rE7p
      try simp only [Act.put, List.setIfInBounds_toArray, List.set_cons_zero, List.set_cons_succ]
      have HSz := Lib.hid (HSF.out _ _ (rE7.out.pick (L := [_, _, _, _, _, _, _]) [4]))
      refine wpAnyN_take (i := 13) (v := ?vzrE713) (by simp only [List.getElem?_toArray, List.getElem?_cons_succ, List.getElem?_cons_zero]; rfl) (by kernel_rfl) (by intro _ _ _ h; exact h) (Or.inl ⟨by rfl, ?yzrE713⟩) HSz.out ?rzrE713
      case yzrE713 =>
        intro W hSW
        try dsimp only at hSW
        have s0 := hSW
        go_simp
        try with_reducible rfl
      simp only [Act.put, List.setIfInBounds_toArray, List.set_cons_zero, List.set_cons_succ]
      refine wpAnyN_take (i := 14) (v := ?vzrE714) (by simp only [List.getElem?_toArray, List.getElem?_cons_succ, List.getElem?_cons_zero]; rfl) (by kernel_rfl) (by intro _ _ _ h; exact h) (Or.inl ⟨by rfl, ?yzrE714⟩) HSz.out ?rzrE714
      case yzrE714 =>
        intro W hSW
        try dsimp only at hSW
        have s0 := hSW
        go_simp
        try with_reducible rfl
      simp only [Act.put, List.setIfInBounds_toArray, List.set_cons_zero, List.set_cons_succ]
      refine wpAnyN_take (i := 15) (v := ?vzrE715) (by simp only [List.getElem?_toArray, List.getElem?_cons_succ, List.getElem?_cons_zero]; rfl) (by kernel_rfl) (by intro _ _ _ h; exact h) (Or.inl ⟨by rfl, ?yzrE715⟩) HSz.out ?rzrE715
      case yzrE715 =>
        intro W hSW
        try dsimp only at hSW
        have s0 := hSW
        go_simp
        try with_reducible rfl
      simp only [Act.put, List.setIfInBounds_toArray, List.set_cons_zero, List.set_cons_succ]
      refine wpAnyN_done (by kernel_rfl) ?_ _
      go_wp2
      go_ret3
      exact qPost_mk (xs.drop mv) (ys ++ xs.take mv) _ _ _ _ (by rw [List.length_drop, HL.out.1]) (by rw [List.length_append, List.length_take, HL.out.1, HL.out.2]; omega) rfl rfl (by omega) (by omega) (by rw [valsi_append]; exact rE7.out.pick (L := [_, _, _, _, _, _, _]) [2, 3, 1, 0])
    case rd3 =>
      go_simp
      have rE8 := Lib.hid (rE2.out.emptyRow 3)
      refine hK _ _ ⟨fun _ => HSF.out _ _ (rE8.out.pick (L := [_, _, _, _, _, _, _]) [4]), ?_⟩
      clear hK K rE2
      try simp only [Act.put, List.setIfInBounds_toArray, List.set_cons_zero, List.set_cons_succ]
      obtain ⟨rW8, hrW8⟩ : ∃ x, rW2.alloc (.cells #[] 3) = x := ⟨_, rfl⟩
      obtain ⟨rqE2, hrqE2⟩ : ∃ x, rW2.heap.size = x := ⟨_, rfl⟩
      rw [hrW8, hrqE2] at rE8
      simp only [hrW8, hrqE2]
      clear hrW8 hrqE2
      refine wpAnyN_one (i := 4) (by kernel_rfl) (by simp only [List.getElem?_toArray, List.getElem?_cons_succ, List.getElem?_cons_zero]; rfl) (fun K hK => ?_)
      have rE9p := Lib.hid (rE8.out.pick (L := [_, _, _, _, _, _, _]) [1, 0, 2, 3, 4, 5, 6])
      refine step_append_move rfl (.tmp 128) (.tmp 131) 30 rfl 3 (.int .i64 0) 1 8 Try.underlying30 Try.info3 rfl (by decide) (by simp [Act.eval]) (by simp) rE9p.out (Below.refl _ _) (A2) (n - mv) (ca - mv) (valsi (xs.drop mv)) (by simp [Act.eval]) (by rw [valsi_length, List.length_drop, HL.out.1, Nat.mul_one]) (HRD.out _ _ (rE9p.out.pick (L := [_, _, _, _, _, _, _]) [5])) (valsi_one) (by unfold maxLen; omega) (by omega) ?_
      rintro rA1A rA1c rW9 rE9o
      rw [Nat.zero_add, List.nil_append] at rE9o
      have rE9 := Lib.hid rE9o
      refine hK _ _ ⟨fun _ => HSF.out _ _ (rE9o.pick (L := [_, _, _, _, _, _, _]) [4]), ?_⟩
      clear hK K rE8 rE9o rE9p
      try simp only [Act.put, List.setIfInBounds_toArray, List.set_cons_zero, List.set_cons_succ]
      refine wpAnyN_one (i := 7) (by kernel_rfl) (by simp only [List.getElem?_toArray, List.getElem?_cons_succ, List.getElem?_cons_zero]; rfl) (fun K hK => ?_)
      have rE10p := Lib.hid (rE9.out.pick (L := [_, _, _, _, _, _, _]) [1, 0, 2, 3, 4, 5, 6])
      refine step_append_move rfl (.tmp 133) (.tmp 134) 30 rfl 3 (.int .i64 0) 1 8 Try.underlying30 Try.info3 rfl (by decide) (by simp [Act.eval]) (by simp) rE10p.out (Below.refl _ _) (B) (m) (cb) (valsi ys) (by simp [Act.eval]) (by rw [valsi_length, HL.out.2, Nat.mul_one]) ((rE10p.out.pick (L := [_, _, _, _, _, _, _]) [6]).rd) (valsi_one) (by unfold maxLen; omega) (by omega) ?_
      rintro rA2A rA2c rW10 rE10o
      rw [Nat.zero_add, List.nil_append] at rE10o
      have rE10 := Lib.hid rE10o
      refine hK _ _ ⟨fun _ => HSF.out _ _ (rE10o.pick (L := [_, _, _, _, _, _, _]) [4]), ?_⟩
      clear hK K rE9 rE10o rE10p
      try simp only [Act.put, List.setIfInBounds_toArray, List.set_cons_zero, List.set_cons_succ]
      refine wpAnyN_one (i := 11) (by kernel_rfl) (by simp only [List.getElem?_toArray, List.getElem?_cons_succ, List.getElem?_cons_zero]; rfl) (fun K hK => ?_)
      have rE11p := Lib.hid (rE10.out.pick (L := [_, _, _, _, _, _, _]) [0, 1, 2, 3, 4, 5, 6])
      refine step_append_move rfl (.tmp 135) (.tmp 138) 30 rfl 3 (.int .i64 0) 1 8 Try.underlying30 Try.info3 rfl (by decide) (by simp [Act.eval]) (by simp [valsi_length, HL.out.2]) rE11p.out (Below.refl _ _) (A) (mv) (ca) (valsi (xs.take mv)) (by simp [Act.eval]) (by rw [valsi_length, List.length_take, HL.out.1]; omega) (HRT.out _ _ (rE11p.out.pick (L := [_, _, _, _, _, _, _]) [5])) (valsi_one) (by unfold maxLen; omega) (by omega) ?_
      rintro rA3A rA3c rW11 rE11o
      skip
      have rE11 := Lib.hid rE11o
      refine hK _ _ ⟨fun _ => HSF.out _ _ (rE11o.pick (L := [_, _, _, _, _, _, _]) [4]), ?_⟩
      clear hK K rE10 rE11o rE11p
      try simp only [Act.put, List.setIfInBounds_toArray, List.set_cons_zero, List.set_cons_succ]
      have HSz := Lib.hid (HSF.out _ _ (rE11.out.pick (L := [_, _, _, _, _, _, _]) [4]))
      refine wpAnyN_take (i := 13) (v := ?vzrE1113) (by simp only [List.getElem?_toArray, List.getElem?_cons_succ, List.getElem?_cons_zero]; rfl) (by kernel_rfl) (by intro _ _ _ h; exact h) (Or.inl ⟨by rfl, ?yzrE1113⟩) HSz.out ?rzrE1113
      case yzrE1113 =>
        intro W hSW
        try dsimp only at hSW
        have s0 := hSW
        go_simp
        try with_reducible rfl
      simp only [Act.put, List.setIfInBounds_toArray, List.set_cons_zero, List.set_cons_succ]
      refine wpAnyN_take (i := 14) (v := ?vzrE1114) (by simp only [List.getElem?_toArray, List.getElem?_cons_succ, List.getElem?_cons_zero]; rfl) (by kernel_rfl) (by intro _ _ _ h; exact h) (Or.inl ⟨by rfl, ?yzrE1114⟩) HSz.out ?rzrE1114
      case yzrE1114 =>
        intro W hSW
        try dsimp only at hSW
        have s0 := hSW
        go_simp
        try with_reducible rfl
      simp only [Act.put, List.setIfInBounds_toArray, List.set_cons_zero, List.set_cons_succ]
      refine wpAnyN_take (i := 15) (v := ?vzrE1115) (by simp only [List.getElem?_toArray, List.getElem?_cons_succ, List.getElem?_cons_zero]; rfl) (by kernel_rfl) (by intro _ _ _ h; exact h) (Or.inl ⟨by rfl, ?yzrE1115⟩) HSz.out ?rzrE1115
      case yzrE1115 =>
        intro W hSW
        try dsimp only at hSW
        have s0 := hSW
        go_simp
        try with_reducible rfl
      simp only [Act.put, List.setIfInBounds_toArray, List.set_cons_zero, List.set_cons_succ]
      refine wpAnyN_done (by kernel_rfl) ?_ _
      go_wp2
      go_ret3
      exact qPost_mk (xs.drop mv) (ys ++ xs.take mv) _ _ _ _ (by rw [List.length_drop, HL.out.1]) (by rw [List.length_append, List.length_take, HL.out.1, HL.out.2]; omega) rfl rfl (by omega) (by omega) (by rw [valsi_append]; exact rE11.out.pick (L := [_, _, _, _, _, _, _]) [2, 3, 1, 0])
  case rd1 =>
    go_simp
    have rE12 := Lib.hid (O0.out.emptyRow 3)
    refine hK _ _ ⟨fun _ => HSF.out _ _ (rE12.out.pick (L := [_, _, _, _, _, _]) [3]), ?_⟩
    clear hK K O0
    try simp only [Act.put, List.setIfInBounds_toArray, List.set_cons_zero, List.set_cons_succ]
    obtain ⟨rW12, hrW12⟩ : ∃ x, W0.alloc (.cells #[] 3) = x := ⟨_, rfl⟩
    obtain ⟨rqE2, hrqE2⟩ : ∃ x, W0.heap.size = x := ⟨_, rfl⟩
    rw [hrW12, hrqE2] at rE12
    simp only [hrW12, hrqE2]
    clear hrW12 hrqE2
    refine wpAnyN_one (i := 0) (by kernel_rfl) (by simp only [List.getElem?_toArray, List.getElem?_cons_succ, List.getElem?_cons_zero]; rfl) (fun K hK => ?_)
    go_simp
    have rE13 := Lib.hid (rE12.out.emptyRow 3)
    refine hK _ _ ⟨fun _ => HSF.out _ _ (rE13.out.pick (L := [_, _, _, _, _, _, _]) [4]), ?_⟩
    clear hK K rE12
    try simp only [Act.put, List.setIfInBounds_toArray, List.set_cons_zero, List.set_cons_succ]
    obtain ⟨rW13, hrW13⟩ : ∃ x, rW12.alloc (.cells #[] 3) = x := ⟨_, rfl⟩
    obtain ⟨rqE1, hrqE1⟩ : ∃ x, rW12.heap.size = x := ⟨_, rfl⟩
    rw [hrW13, hrqE1] at rE13
    simp only [hrW13, hrqE1]
    clear hrW13 hrqE1
    refine wpAnyN_one (i := 4) (by kernel_rfl) (by simp only [List.getElem?_toArray, List.getElem?_cons_succ, List.getElem?_cons_zero]; rfl) (fun K hK => ?_)
    have rE14p := Lib.hid (rE13.out.pick (L := [_, _, _, _, _, _, _]) [0, 1, 2, 3, 4, 5, 6])
    refine step_append_move rfl (.tmp 128) (.tmp 131) 30 rfl 3 (.int .i64 0) 1 8 Try.underlying30 Try.info3 rfl (by decide) (by simp [Act.eval]) (by simp) rE14p.out (Below.refl _ _) (A2) (n - mv) (ca - mv) (valsi (xs.drop mv)) (by simp [Act.eval]) (by rw [valsi_length, List.length_drop, HL.out.1, Nat.mul_one]) (HRD.out _ _ (rE14p.out.pick (L := [_, _, _, _, _, _, _]) [5])) (valsi_one) (by unfold maxLen; omega) (by omega) ?_
    rintro rA1A rA1c rW14 rE14o
    rw [Nat.zero_add, List.nil_append] at rE14o
    have rE14 := Lib.hid rE14o
    refine hK _ _ ⟨fun _ => HSF.out _ _ (rE14o.pick (L := [_, _, _, _, _, _, _]) [4]), ?_⟩
    clear hK K rE13 rE14o rE14p
    try simp only [Act.put, List.setIfInBounds_toArray, List.set_cons_zero, List.set_cons_succ]
    refine wpAnyN_one (i := 7) (by kernel_rfl) (by simp only [List.getElem?_toArray, List.getElem?_cons_succ, List.getElem?_cons_zero]; rfl) (fun K hK => ?_)
    have rE15p := Lib.hid (rE14.out.pick (L := [_, _, _, _, _, _, _]) [1, 0, 2, 3, 4, 5, 6])
    refine step_append_move rfl (.tmp 133) (.tmp 134) 30 rfl 3 (.int .i64 0) 1 8 Try.underlying30 Try.info3 rfl (by decide) (by simp [Act.eval]) (by simp) rE15p.out (Below.refl _ _) (B) (m) (cb) (valsi ys) (by simp [Act.eval]) (by rw [valsi_length, HL.out.2, Nat.mul_one]) ((rE15p.out.pick (L := [_, _, _, _, _, _, _]) [6]).rd) (valsi_one) (by unfold maxLen; omega) (by omega) ?_
    rintro rA2A rA2c rW15 rE15o
    rw [Nat.zero_add, List.nil_append] at rE15o
    have rE15 := Lib.hid rE15o
    refine hK _ _ ⟨fun _ => HSF.out _ _ (rE15o.pick (L := [_, _, _, _, _, _, _]) [4]), ?_⟩
    clear hK K rE14 rE15o rE15p
    try simp only [Act.put, List.setIfInBounds_toArray, List.set_cons_zero, List.set_cons_succ]
    refine wpAnyN_one (i := 11) (by kernel_rfl) (by simp only [List.getElem?_toArray, List.getElem?_cons_succ, List.getElem?_cons_zero]; rfl) (fun K hK => ?_)
    have rE16p := Lib.hid (rE15.out.pick (L := [_, _, _, _, _, _, _]) [0, 1, 2, 3, 4, 5, 6])
    refine step_append_move rfl (.tmp 135) (.tmp 138) 30 rfl 3 (.int .i64 0) 1 8 Try.underlying30 Try.info3 rfl (by decide) (by simp [Act.eval]) (by simp [valsi_length, HL.out.2]) rE16p.out (Below.refl _ _) (A) (mv) (ca) (valsi (xs.take mv)) (by simp [Act.eval]) (by rw [valsi_length, List.length_take, HL.out.1]; omega) (HRT.out _ _ (rE16p.out.pick (L := [_, _, _, _, _, _, _]) [5])) (valsi_one) (by unfold maxLen; omega) (by omega) ?_
    rintro rA3A rA3c rW16 rE16o
    skip
    have rE16 := Lib.hid rE16o
    refine hK _ _ ⟨fun _ => HSF.out _ _ (rE16o.pick (L := [_, _, _, _, _, _, _]) [4]), ?_⟩
    clear hK K rE15 rE16o rE16p
    try simp only [Act.put, List.setIfInBounds_toArray, List.set_cons_zero, List.set_cons_succ]
    have HSz := Lib.hid (HSF.out _ _ (rE16.out.pick (L := [_, _, _, _, _, _, _]) [4]))
    refine wpAnyN_take (i := 13) (v := ?vzrE1613) (by simp only [List.getElem?_toArray, List.getElem?_cons_succ, List.getElem?_cons_zero]; rfl) (by kernel_rfl) (by intro _ _ _ h; exact h) (Or.inl ⟨by rfl, ?yzrE1613⟩) HSz.out ?rzrE1613
    case yzrE1613 =>
      intro W hSW
      try dsimp only at hSW
      have s0 := hSW
      go_simp
      try with_reducible rfl
    simp only [Act.put, List.setIfInBounds_toArray, List.set_cons_zero, List.set_cons_succ]
    refine wpAnyN_take (i := 14) (v := ?vzrE1614) (by simp only [List.getElem?_toArray, List.getElem?_cons_succ, List.getElem?_cons_zero]; rfl) (by kernel_rfl) (by intro _ _ _ h; exact h) (Or.inl ⟨by rfl, ?yzrE1614⟩) HSz.out ?rzrE1614
    case yzrE1614 =>
      intro W hSW
      try dsimp only at hSW
      have s0 := hSW
      go_simp
      try with_reducible rfl
    simp only [Act.put, List.setIfInBounds_toArray, List.set_cons_zero, List.set_cons_succ]
    refine wpAnyN_take (i := 15) (v := ?vzrE1615) (by simp only [List.getElem?_toArray, List.getElem?_cons_succ, List.getElem?_cons_zero]; rfl) (by kernel_rfl) (by intro _ _ _ h; exact h) (Or.inl ⟨by rfl, ?yzrE1615⟩) HSz.out ?rzrE1615
    case yzrE1615 =>
      intro W hSW
      try dsimp only at hSW
      have s0 := hSW
      go_simp
      try with_reducible rfl
    simp only [Act.put, List.setIfInBounds_toArray, List.set_cons_zero, List.set_cons_succ]
    refine wpAnyN_done (by kernel_rfl) ?_ _
    go_wp2
    go_ret3
    exact qPost_mk (xs.drop mv) (ys ++ xs.take mv) _ _ _ _ (by rw [List.length_drop, HL.out.1]) (by rw [List.length_append, List.length_take, HL.out.1, HL.out.2]; omega) rfl rfl (by omega) (by omega) (by rw [valsi_append]; exact rE16.out.pick (L := [_, _, _, _, _, _, _]) [2, 3, 1, 0])
end
end Go.Proofs.Ytbncicfbgfmekaa
