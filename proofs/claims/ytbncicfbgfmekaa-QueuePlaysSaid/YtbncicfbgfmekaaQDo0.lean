/-
  The law's does on two queues and two lists, kind 0.
  Conditions: the queues hold no more than their rooms; the lists say what is in them.
-/
import Derived.Test.YtbncicfbgfmekaaQDo
import Derived.Test.YtbncicfbgfmekaaOps
import Derived.Test.YtbncicfbgfmekaaRegionNeed
import Derived.Test.YtbncicfbgfmekaaRegionTwo
import Derived.Deep.RegionHeld3
import Derived.Deep.Cut
namespace Go.Proofs.Ytbncicfbgfmekaa
set_option linter.unusedVariables false
set_option linter.unusedSimpArgs false
open Go.RowKit

section
variable {S : Nat → Prop} {w0 w : World} {R : List SP} {g1 g2 : Nat} {room other : Int} {xs ys : List Int}
set_option maxRecDepth 100000 in
set_option maxHeartbeats 12800000 in
theorem qdo0_own {A B : Option Addr} {ca cb : Nat} (hrm : 1 ≤ room ∧ room ≤ 64) (hot : 1 ≤ other ∧ other ≤ 64) (hx : (xs.length : Int) ≤ room) (hy : (ys.length : Int) ≤ other) (kd nn ln : Int) (hi : In64 kd ∧ In64 nn) (hk : kd = 0) (h : Own S w0 w (SP.quei g1 room xs :: SP.quei g2 other ys :: SP.row 3 1 (.slice A xs.length ca) (valsi xs) :: SP.row 3 1 (.slice B ys.length cb) (valsi ys) :: R)) :
    Calls Try.prog 33 #[.pointer (some ⟨g1, 0, none⟩), .pointer (some ⟨g2, 0, none⟩), .slice A xs.length ca, .slice B ys.length cb, .int .i64 room, .int .i64 other, .agg #[.int .i64 kd, .int .i64 nn, .int .i64 ln]] w (QPost S w0 R g1 g2 room other) := by
  obtain ⟨n, hn⟩ : ∃ n, xs.length = n := ⟨_, rfl⟩
  obtain ⟨m, hm⟩ : ∃ m, ys.length = m := ⟨_, rfl⟩
  have HL := Lib.hid (And.intro hn hm)
  obtain ⟨hr1, hr2⟩ := hrm
  obtain ⟨ho1, ho2⟩ := hot
  have HI := Lib.hid hi
  rw [hn] at h hx ⊢
  rw [hm] at h hy ⊢
  have hn64 : n ≤ 64 := by omega
  have hm64 : m ≤ 64 := by omega
  obtain ⟨hca, hcm⟩ := (h.pick (L := [_, _, _]) [2]).row_le (by decide) (by rw [valsi_length, hn, Nat.mul_one])
  obtain ⟨hcb, hcm2⟩ := (h.pick (L := [_, _, _, _]) [3]).row_le (by decide) (by rw [valsi_length, hm, Nat.mul_one])
  unfold maxLen at hcm hcm2
  obtain ⟨q, hq⟩ : ∃ q, w.heap.size = q := ⟨_, rfl⟩
  have HQ := Lib.hid hq
  have o1 := h.alloc #[.int .i64 kd, .int .i64 nn, .int .i64 ln] 28
  rw [hq] at o1
  obtain ⟨w1, hw1⟩ : ∃ W, w.alloc (.cells #[.int .i64 kd, .int .i64 nn, .int .i64 ln] 28) = W := ⟨_, rfl⟩
  have HW := Lib.hid hw1
  rw [hw1] at o1
  have HO := Lib.hid (o1.pick (L := [_, _, _, _, _]) [1, 2, 0, 3, 4])
  have HSF := Lib.hid (fun (W : World) (R' : List SP) (o : Own S w0 W (SP.blk q 28 #[.int .i64 kd, .int .i64 nn, .int .i64 ln] :: R')) => show W.cell? ⟨q, 1, none⟩ = some (.int .i64 nn) from o.blk_cell 1)
  have e0 := o1.blk_cell 0
  have e1 := o1.blk_cell 1
  simp only [List.getElem?_toArray, List.getElem?_cons_zero, List.getElem?_cons_succ] at e0 e1
  have hk0 : (kd == 0) = true := by simp [hk]
  clear h o1 hi hq hw1 hk hn hm
  go_enter Try.func33, Try.ntmps33
  go_upto_region 1 with (fail)
  simp only [HQ.out, HW.out]
  have HP := Lib.hid (fun (zs : List Int) (b : Bool) (hb : decide ((n : Int) < room) = b) (hz : (if (n : Int) < room then xs ++ [nn] else xs) = zs) => show Calls Try.prog 18 #[.pointer (some ⟨g1, 0, none⟩), .int .i64 nn] w1 fun e w' => e = .returned (.bool b) ∧ Own S w0 w' (SP.quei g1 room zs :: SP.quei g2 other ys :: SP.blk q 28 #[.int .i64 kd, .int .i64 nn, .int .i64 ln] :: SP.row 3 1 (.slice A n ca) (valsi xs) :: SP.row 3 1 (.slice B m cb) (valsi ys) :: R) from by
    refine (SpecAt.use (qputi_spec w1 g1 room xs nn (by omega) hr2 (by rw [HL.out.1]; exact hx)) HO.out).mono ?_
    rintro e w' ⟨A', ⟨he, rfl⟩, o2, -⟩
    rw [HL.out.1] at he o2
    rw [hb] at he
    rw [hz] at o2
    exact ⟨he, o2⟩)
  by_cases hlt : (n : Int) < room
  · have HP1 := Lib.hid (HP.out (xs ++ [nn]) true (decide_eq_true hlt) (if_pos hlt))
    clear HO HP
    go_wp2_with fail
    refine (HP1.out).mono ?_
    rintro e w2 ⟨rfl, o2⟩
    have O0 := Lib.hid o2.drew
    clear o2 HP1 e0 e1
    go_upto_region 5 with (fail)
    refine wp_region_need (fun W => W.cell? ⟨q, 1, none⟩ = some (.int .i64 nn)) (fun j => decide (j < 99)) (by kernel_rfl) ?_
    obtain ⟨W0, hW0⟩ : ∃ W0, w2.drew = W0 := ⟨_, rfl⟩
    rw [hW0] at O0 ⊢
    clear hW0
    have HS := Lib.hid (HSF.out _ _ (O0.out.pick (L := [_, _, _]) [2]))
    refine wpAnyN_take (i := 1) (v := ?v1) (by simp only [List.getElem?_toArray, List.getElem?_cons_succ, List.getElem?_cons_zero]; rfl) (by kernel_rfl) (by intro _ _ _ h; exact h) (Or.inl ⟨by rfl, ?y1⟩) HS.out ?r1
    case y1 =>
      intro W hSW
      try dsimp only at hSW
      have s0 := hSW
      go_simp
      try with_reducible rfl
    simp only [Act.put, List.setIfInBounds_toArray, List.set_cons_zero, List.set_cons_succ]
    refine wpAnyN_take (i := 3) (v := ?v3) (by simp only [List.getElem?_toArray, List.getElem?_cons_succ, List.getElem?_cons_zero]; rfl) (by kernel_rfl) (by intro _ _ _ h; exact h) (Or.inl ⟨by rfl, ?y3⟩) HS.out ?r3
    case y3 =>
      intro W hSW
      try dsimp only at hSW
      have s0 := hSW
      go_simp
      try with_reducible rfl
    simp only [Act.put, List.setIfInBounds_toArray, List.set_cons_zero, List.set_cons_succ]
    refine wpAnyN_take (i := 4) (v := ?v4) (by simp only [List.getElem?_toArray, List.getElem?_cons_succ, List.getElem?_cons_zero]; rfl) (by kernel_rfl) (by intro _ _ _ h; exact h) (Or.inl ⟨by rfl, ?y4⟩) HS.out ?r4
    case y4 =>
      intro W hSW
      try dsimp only at hSW
      have s0 := hSW
      go_simp
      try with_reducible rfl
    simp only [Act.put, List.setIfInBounds_toArray, List.set_cons_zero, List.set_cons_succ]
    refine wpAnyN_take (i := 7) (v := ?v7) (by simp only [List.getElem?_toArray, List.getElem?_cons_succ, List.getElem?_cons_zero]; rfl) (by kernel_rfl) (by intro _ _ _ h; exact h) (Or.inl ⟨by rfl, ?y7⟩) HS.out ?r7
    case y7 =>
      intro W hSW
      try dsimp only at hSW
      have s0 := hSW
      go_simp
      try with_reducible rfl
    simp only [Act.put, List.setIfInBounds_toArray, List.set_cons_zero, List.set_cons_succ]
    refine wpAnyN_take (i := 8) (v := ?v8) (by simp only [List.getElem?_toArray, List.getElem?_cons_succ, List.getElem?_cons_zero]; rfl) (by kernel_rfl) (by intro _ _ _ h; exact h) (Or.inl ⟨by rfl, ?y8⟩) HS.out ?r8
    case y8 =>
      intro W hSW
      try dsimp only at hSW
      have s0 := hSW
      go_simp
      try with_reducible rfl
    simp only [Act.put, List.setIfInBounds_toArray, List.set_cons_zero, List.set_cons_succ]
    refine wpAnyN_two (i := 0) (j := 5) (by kernel_rfl) (by simp only [List.getElem?_toArray, List.getElem?_cons_succ, List.getElem?_cons_zero]; rfl) (by simp only [List.getElem?_toArray, List.getElem?_cons_succ, List.getElem?_cons_zero]; rfl) (fun K hK => ?pc1) (fun K hK => ?pd1)
    case pc1 =>
      go_simp
      have pE2 := Lib.hid (O0.out.emptyRow 3)
      refine hK _ _ ⟨fun _ => HSF.out _ _ (pE2.out.pick (L := [_, _, _, _, _, _]) [3]), ?_⟩
      clear hK K O0
      try simp only [Act.put, List.setIfInBounds_toArray, List.set_cons_zero, List.set_cons_succ]
      obtain ⟨pW2, hpW2⟩ : ∃ x, W0.alloc (.cells #[] 3) = x := ⟨_, rfl⟩
      obtain ⟨pqE, hpqE⟩ : ∃ x, W0.heap.size = x := ⟨_, rfl⟩
      rw [hpW2, hpqE] at pE2
      simp only [hpW2, hpqE]
      clear hpW2 hpqE
      refine wpAnyN_two (i := 2) (j := 5) (by kernel_rfl) (by simp only [List.getElem?_toArray, List.getElem?_cons_succ, List.getElem?_cons_zero]; rfl) (by simp only [List.getElem?_toArray, List.getElem?_cons_succ, List.getElem?_cons_zero]; rfl) (fun K hK => ?pc3) (fun K hK => ?pd3)
      case pc3 =>
        have pE4p := Lib.hid (pE2.out.pick (L := [_, _, _, _, _, _]) [0, 1, 2, 3, 4, 5])
        refine step_append_move rfl (.tmp 34) (.tmp 35) 30 rfl 3 (.int .i64 0) 1 8 Try.underlying30 Try.info3 rfl (by decide) (by simp [Act.eval]) (by simp) pE4p.out (Below.refl _ _) (A) (n) (ca) (valsi xs) (by simp [Act.eval]) (by rw [valsi_length, HL.out.1, Nat.mul_one]) ((pE4p.out.pick (L := [_, _, _, _, _, _]) [4]).rd) (valsi_one) (by unfold maxLen; omega) (by omega) ?_
        rintro pA1A pA1c pW4 pE4o
        rw [Nat.zero_add, List.nil_append] at pE4o
        have pE4 := Lib.hid pE4o
        refine hK _ _ ⟨fun _ => HSF.out _ _ (pE4o.pick (L := [_, _, _, _, _, _]) [3]), ?_⟩
        clear hK K pE2 pE4o pE4p
        try simp only [Act.put, List.setIfInBounds_toArray, List.set_cons_zero, List.set_cons_succ]
        refine wpAnyN_one (i := 5) (by kernel_rfl) (by simp only [List.getElem?_toArray, List.getElem?_cons_succ, List.getElem?_cons_zero]; rfl) (fun K hK => ?_)
        go_simp
        have pE5 := Lib.hid (pE4.out.alloc #[.int .i64 nn] 3)
        refine hK _ _ ⟨fun _ => HSF.out _ _ (pE5.out.pick (L := [_, _, _, _, _, _, _]) [4]), ?_⟩
        clear hK K pE4
        try simp only [Act.put, List.setIfInBounds_toArray, List.set_cons_zero, List.set_cons_succ]
        obtain ⟨pW5, hpW5⟩ : ∃ x, pW4.alloc (.cells #[.int .i64 nn] 3) = x := ⟨_, rfl⟩
        obtain ⟨pqB, hpqB⟩ : ∃ x, pW4.heap.size = x := ⟨_, rfl⟩
        rw [hpW5, hpqB] at pE5
        simp only [hpW5, hpqB]
        clear hpW5 hpqB
        refine wpAnyN_one (i := 6) (by kernel_rfl) (by simp only [List.getElem?_toArray, List.getElem?_cons_succ, List.getElem?_cons_zero]; rfl) (fun K hK => ?_)
        have pE6p := Lib.hid (pE5.out.pick (L := [_, _, _, _, _, _, _]) [1, 0, 2, 3, 4, 5, 6])
        refine step_append_move rfl (.tmp 36) (.tmp 39) 30 rfl 3 (.int .i64 0) 1 8 Try.underlying30 Try.info3 rfl (by decide) (by simp [Act.eval]) (by simp [valsi_length, HL.out.1]) pE6p.out (Below.refl _ _) (_) (1) (1) ([.int .i64 nn]) (by simp [Act.eval]) (by rfl) (rd_at _ _ _ ((pE6p.out.pick (L := [_, _, _, _, _, _, _]) [1]).blk_cell 0)) (valsi_one (xs := [nn])) (by unfold maxLen; omega) (by omega) ?_
        rintro pA2A pA2c pW6 pE6o
        skip
        have pE6 := Lib.hid pE6o
        refine hK _ _ ⟨fun _ => HSF.out _ _ (pE6o.pick (L := [_, _, _, _, _, _, _]) [4]), ?_⟩
        clear hK K pE5 pE6o pE6p
        try simp only [Act.put, List.setIfInBounds_toArray, List.set_cons_zero, List.set_cons_succ]
        have HSz := Lib.hid (HSF.out _ _ (pE6.out.pick (L := [_, _, _, _, _, _, _]) [4]))
        refine wpAnyN_take (i := 9) (v := ?vzpE69) (by simp only [List.getElem?_toArray, List.getElem?_cons_succ, List.getElem?_cons_zero]; rfl) (by kernel_rfl) (by intro _ _ _ h; exact h) (Or.inl ⟨by rfl, ?yzpE69⟩) HSz.out ?rzpE69
        case yzpE69 =>
          intro W hSW
          try dsimp only at hSW
          have s0 := hSW
          go_simp
          try with_reducible rfl
        simp only [Act.put, List.setIfInBounds_toArray, List.set_cons_zero, List.set_cons_succ]
        refine wpAnyN_take (i := 10) (v := ?vzpE610) (by simp only [List.getElem?_toArray, List.getElem?_cons_succ, List.getElem?_cons_zero]; rfl) (by kernel_rfl) (by intro _ _ _ h; exact h) (Or.inl ⟨by rfl, ?yzpE610⟩) HSz.out ?rzpE610
        case yzpE610 =>
          intro W hSW
          try dsimp only at hSW
          have s0 := hSW
          go_simp
          try with_reducible rfl
        simp only [Act.put, List.setIfInBounds_toArray, List.set_cons_zero, List.set_cons_succ]
        refine wpAnyN_take (i := 11) (v := ?vzpE611) (by simp only [List.getElem?_toArray, List.getElem?_cons_succ, List.getElem?_cons_zero]; rfl) (by kernel_rfl) (by intro _ _ _ h; exact h) (Or.inl ⟨by rfl, ?yzpE611⟩) HSz.out ?rzpE611
        case yzpE611 =>
          intro W hSW
          try dsimp only at hSW
          have s0 := hSW
          go_simp
          try with_reducible rfl
        simp only [Act.put, List.setIfInBounds_toArray, List.set_cons_zero, List.set_cons_succ]
        refine wpAnyN_done (by kernel_rfl) ?_ _
        go_wp2
        go_ret3
        exact qPost_mk (xs ++ [nn]) ys _ _ B cb (by rw [List.length_append, HL.out.1]; rfl) HL.out.2 rfl rfl (by omega) hy (by rw [valsi_append]; exact pE6.out.pick (L := [_, _, _, _, _, _, _]) [2, 3, 0, 6])
      case pd3 =>
        go_simp
        have pE7 := Lib.hid (pE2.out.alloc #[.int .i64 nn] 3)
        refine hK _ _ ⟨fun _ => HSF.out _ _ (pE7.out.pick (L := [_, _, _, _, _, _, _]) [4]), ?_⟩
        clear hK K pE2
        try simp only [Act.put, List.setIfInBounds_toArray, List.set_cons_zero, List.set_cons_succ]
        obtain ⟨pW7, hpW7⟩ : ∃ x, pW2.alloc (.cells #[.int .i64 nn] 3) = x := ⟨_, rfl⟩
        obtain ⟨pqB, hpqB⟩ : ∃ x, pW2.heap.size = x := ⟨_, rfl⟩
        rw [hpW7, hpqB] at pE7
        simp only [hpW7, hpqB]
        clear hpW7 hpqB
        refine wpAnyN_one (i := 2) (by kernel_rfl) (by simp only [List.getElem?_toArray, List.getElem?_cons_succ, List.getElem?_cons_zero]; rfl) (fun K hK => ?_)
        have pE8p := Lib.hid (pE7.out.pick (L := [_, _, _, _, _, _, _]) [1, 0, 2, 3, 4, 5, 6])
        refine step_append_move rfl (.tmp 34) (.tmp 35) 30 rfl 3 (.int .i64 0) 1 8 Try.underlying30 Try.info3 rfl (by decide) (by simp [Act.eval]) (by simp) pE8p.out (Below.refl _ _) (A) (n) (ca) (valsi xs) (by simp [Act.eval]) (by rw [valsi_length, HL.out.1, Nat.mul_one]) ((pE8p.out.pick (L := [_, _, _, _, _, _, _]) [5]).rd) (valsi_one) (by unfold maxLen; omega) (by omega) ?_
        rintro pA1A pA1c pW8 pE8o
        rw [Nat.zero_add, List.nil_append] at pE8o
        have pE8 := Lib.hid pE8o
        refine hK _ _ ⟨fun _ => HSF.out _ _ (pE8o.pick (L := [_, _, _, _, _, _, _]) [4]), ?_⟩
        clear hK K pE7 pE8o pE8p
        try simp only [Act.put, List.setIfInBounds_toArray, List.set_cons_zero, List.set_cons_succ]
        refine wpAnyN_one (i := 6) (by kernel_rfl) (by simp only [List.getElem?_toArray, List.getElem?_cons_succ, List.getElem?_cons_zero]; rfl) (fun K hK => ?_)
        have pE9p := Lib.hid (pE8.out.pick (L := [_, _, _, _, _, _, _]) [0, 1, 2, 3, 4, 5, 6])
        refine step_append_move rfl (.tmp 36) (.tmp 39) 30 rfl 3 (.int .i64 0) 1 8 Try.underlying30 Try.info3 rfl (by decide) (by simp [Act.eval]) (by simp [valsi_length, HL.out.1]) pE9p.out (Below.refl _ _) (_) (1) (1) ([.int .i64 nn]) (by simp [Act.eval]) (by rfl) (rd_at _ _ _ ((pE9p.out.pick (L := [_, _, _, _, _, _, _]) [1]).blk_cell 0)) (valsi_one (xs := [nn])) (by unfold maxLen; omega) (by omega) ?_
        rintro pA2A pA2c pW9 pE9o
        skip
        have pE9 := Lib.hid pE9o
        refine hK _ _ ⟨fun _ => HSF.out _ _ (pE9o.pick (L := [_, _, _, _, _, _, _]) [4]), ?_⟩
        clear hK K pE8 pE9o pE9p
        try simp only [Act.put, List.setIfInBounds_toArray, List.set_cons_zero, List.set_cons_succ]
        have HSz := Lib.hid (HSF.out _ _ (pE9.out.pick (L := [_, _, _, _, _, _, _]) [4]))
        refine wpAnyN_take (i := 9) (v := ?vzpE99) (by simp only [List.getElem?_toArray, List.getElem?_cons_succ, List.getElem?_cons_zero]; rfl) (by kernel_rfl) (by intro _ _ _ h; exact h) (Or.inl ⟨by rfl, ?yzpE99⟩) HSz.out ?rzpE99
        case yzpE99 =>
          intro W hSW
          try dsimp only at hSW
          have s0 := hSW
          go_simp
          try with_reducible rfl
        simp only [Act.put, List.setIfInBounds_toArray, List.set_cons_zero, List.set_cons_succ]
        refine wpAnyN_take (i := 10) (v := ?vzpE910) (by simp only [List.getElem?_toArray, List.getElem?_cons_succ, List.getElem?_cons_zero]; rfl) (by kernel_rfl) (by intro _ _ _ h; exact h) (Or.inl ⟨by rfl, ?yzpE910⟩) HSz.out ?rzpE910
        case yzpE910 =>
          intro W hSW
          try dsimp only at hSW
          have s0 := hSW
          go_simp
          try with_reducible rfl
        simp only [Act.put, List.setIfInBounds_toArray, List.set_cons_zero, List.set_cons_succ]
        refine wpAnyN_take (i := 11) (v := ?vzpE911) (by simp only [List.getElem?_toArray, List.getElem?_cons_succ, List.getElem?_cons_zero]; rfl) (by kernel_rfl) (by intro _ _ _ h; exact h) (Or.inl ⟨by rfl, ?yzpE911⟩) HSz.out ?rzpE911
        case yzpE911 =>
          intro W hSW
          try dsimp only at hSW
          have s0 := hSW
          go_simp
          try with_reducible rfl
        simp only [Act.put, List.setIfInBounds_toArray, List.set_cons_zero, List.set_cons_succ]
        refine wpAnyN_done (by kernel_rfl) ?_ _
        go_wp2
        go_ret3
        exact qPost_mk (xs ++ [nn]) ys _ _ B cb (by rw [List.length_append, HL.out.1]; rfl) HL.out.2 rfl rfl (by omega) hy (by rw [valsi_append]; exact pE9.out.pick (L := [_, _, _, _, _, _, _]) [2, 3, 0, 6])
    case pd1 =>
      go_simp
      have pE10 := Lib.hid (O0.out.alloc #[.int .i64 nn] 3)
      refine hK _ _ ⟨fun _ => HSF.out _ _ (pE10.out.pick (L := [_, _, _, _, _, _]) [3]), ?_⟩
      clear hK K O0
      try simp only [Act.put, List.setIfInBounds_toArray, List.set_cons_zero, List.set_cons_succ]
      obtain ⟨pW10, hpW10⟩ : ∃ x, W0.alloc (.cells #[.int .i64 nn] 3) = x := ⟨_, rfl⟩
      obtain ⟨pqB, hpqB⟩ : ∃ x, W0.heap.size = x := ⟨_, rfl⟩
      rw [hpW10, hpqB] at pE10
      simp only [hpW10, hpqB]
      clear hpW10 hpqB
      refine wpAnyN_one (i := 0) (by kernel_rfl) (by simp only [List.getElem?_toArray, List.getElem?_cons_succ, List.getElem?_cons_zero]; rfl) (fun K hK => ?_)
      go_simp
      have pE11 := Lib.hid (pE10.out.emptyRow 3)
      refine hK _ _ ⟨fun _ => HSF.out _ _ (pE11.out.pick (L := [_, _, _, _, _, _, _]) [4]), ?_⟩
      clear hK K pE10
      try simp only [Act.put, List.setIfInBounds_toArray, List.set_cons_zero, List.set_cons_succ]
      obtain ⟨pW11, hpW11⟩ : ∃ x, pW10.alloc (.cells #[] 3) = x := ⟨_, rfl⟩
      obtain ⟨pqE, hpqE⟩ : ∃ x, pW10.heap.size = x := ⟨_, rfl⟩
      rw [hpW11, hpqE] at pE11
      simp only [hpW11, hpqE]
      clear hpW11 hpqE
      refine wpAnyN_one (i := 2) (by kernel_rfl) (by simp only [List.getElem?_toArray, List.getElem?_cons_succ, List.getElem?_cons_zero]; rfl) (fun K hK => ?_)
      have pE12p := Lib.hid (pE11.out.pick (L := [_, _, _, _, _, _, _]) [0, 1, 2, 3, 4, 5, 6])
      refine step_append_move rfl (.tmp 34) (.tmp 35) 30 rfl 3 (.int .i64 0) 1 8 Try.underlying30 Try.info3 rfl (by decide) (by simp [Act.eval]) (by simp) pE12p.out (Below.refl _ _) (A) (n) (ca) (valsi xs) (by simp [Act.eval]) (by rw [valsi_length, HL.out.1, Nat.mul_one]) ((pE12p.out.pick (L := [_, _, _, _, _, _, _]) [5]).rd) (valsi_one) (by unfold maxLen; omega) (by omega) ?_
      rintro pA1A pA1c pW12 pE12o
      rw [Nat.zero_add, List.nil_append] at pE12o
      have pE12 := Lib.hid pE12o
      refine hK _ _ ⟨fun _ => HSF.out _ _ (pE12o.pick (L := [_, _, _, _, _, _, _]) [4]), ?_⟩
      clear hK K pE11 pE12o pE12p
      try simp only [Act.put, List.setIfInBounds_toArray, List.set_cons_zero, List.set_cons_succ]
      refine wpAnyN_one (i := 6) (by kernel_rfl) (by simp only [List.getElem?_toArray, List.getElem?_cons_succ, List.getElem?_cons_zero]; rfl) (fun K hK => ?_)
      have pE13p := Lib.hid (pE12.out.pick (L := [_, _, _, _, _, _, _]) [0, 1, 2, 3, 4, 5, 6])
      refine step_append_move rfl (.tmp 36) (.tmp 39) 30 rfl 3 (.int .i64 0) 1 8 Try.underlying30 Try.info3 rfl (by decide) (by simp [Act.eval]) (by simp [valsi_length, HL.out.1]) pE13p.out (Below.refl _ _) (_) (1) (1) ([.int .i64 nn]) (by simp [Act.eval]) (by rfl) (rd_at _ _ _ ((pE13p.out.pick (L := [_, _, _, _, _, _, _]) [1]).blk_cell 0)) (valsi_one (xs := [nn])) (by unfold maxLen; omega) (by omega) ?_
      rintro pA2A pA2c pW13 pE13o
      skip
      have pE13 := Lib.hid pE13o
      refine hK _ _ ⟨fun _ => HSF.out _ _ (pE13o.pick (L := [_, _, _, _, _, _, _]) [4]), ?_⟩
      clear hK K pE12 pE13o pE13p
      try simp only [Act.put, List.setIfInBounds_toArray, List.set_cons_zero, List.set_cons_succ]
      have HSz := Lib.hid (HSF.out _ _ (pE13.out.pick (L := [_, _, _, _, _, _, _]) [4]))
      refine wpAnyN_take (i := 9) (v := ?vzpE139) (by simp only [List.getElem?_toArray, List.getElem?_cons_succ, List.getElem?_cons_zero]; rfl) (by kernel_rfl) (by intro _ _ _ h; exact h) (Or.inl ⟨by rfl, ?yzpE139⟩) HSz.out ?rzpE139
      case yzpE139 =>
        intro W hSW
        try dsimp only at hSW
        have s0 := hSW
        go_simp
        try with_reducible rfl
      simp only [Act.put, List.setIfInBounds_toArray, List.set_cons_zero, List.set_cons_succ]
      refine wpAnyN_take (i := 10) (v := ?vzpE1310) (by simp only [List.getElem?_toArray, List.getElem?_cons_succ, List.getElem?_cons_zero]; rfl) (by kernel_rfl) (by intro _ _ _ h; exact h) (Or.inl ⟨by rfl, ?yzpE1310⟩) HSz.out ?rzpE1310
      case yzpE1310 =>
        intro W hSW
        try dsimp only at hSW
        have s0 := hSW
        go_simp
        try with_reducible rfl
      simp only [Act.put, List.setIfInBounds_toArray, List.set_cons_zero, List.set_cons_succ]
      refine wpAnyN_take (i := 11) (v := ?vzpE1311) (by simp only [List.getElem?_toArray, List.getElem?_cons_succ, List.getElem?_cons_zero]; rfl) (by kernel_rfl) (by intro _ _ _ h; exact h) (Or.inl ⟨by rfl, ?yzpE1311⟩) HSz.out ?rzpE1311
      case yzpE1311 =>
        intro W hSW
        try dsimp only at hSW
        have s0 := hSW
        go_simp
        try with_reducible rfl
      simp only [Act.put, List.setIfInBounds_toArray, List.set_cons_zero, List.set_cons_succ]
      refine wpAnyN_done (by kernel_rfl) ?_ _
      go_wp2
      go_ret3
      exact qPost_mk (xs ++ [nn]) ys _ _ B cb (by rw [List.length_append, HL.out.1]; rfl) HL.out.2 rfl rfl (by omega) hy (by rw [valsi_append]; exact pE13.out.pick (L := [_, _, _, _, _, _, _]) [2, 3, 0, 6])
  · have HP1 := Lib.hid (HP.out xs false (decide_eq_false hlt) (if_neg hlt))
    clear HO HP
    go_wp2_with fail
    refine (HP1.out).mono ?_
    rintro e w2 ⟨rfl, o2⟩
    have O2 := Lib.hid o2
    clear o2 HP1 e0 e1
    go_wp2
    go_ret3
    exact qPost_mk xs ys A ca B cb HL.out.1 HL.out.2 rfl rfl hx hy (O2.out.pick (L := [_, _, _, _, _]) [0, 1, 3, 4])
end
end Go.Proofs.Ytbncicfbgfmekaa
