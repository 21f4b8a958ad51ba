/-
  The document's network: Take.
  Conditions: none beyond each theorem's own.
-/
import Derived.Test.YtlhinhcbbknhcaaRCp
import Derived.Test.YtlhinhcbbknhcaaSpoil
import Derived.Laws.ResultCell
import Derived.Test.YtlhinhcbbknhcaaRegionNeed
namespace Go.Proofs.Ytlhinhcbbknhcaa
set_option linter.unusedVariables false
set_option linter.unusedSimpArgs false
open Go.RowKit

theorem row_emptyN_at {W : World} {q : Nat} {e : TypeId} {size : Nat} (hb : W.heap[q]? = some (.cells #[] e (0, 0))) : (SP.row e size (.slice (some ⟨q, 0, none⟩) 0 0) []).At W (fun k => k = q) := row_empty_at hb
theorem Own.emptyN {S : Nat → Prop} {w0 w : World} {L : List SP} (h : Own S w0 w L) (e : TypeId) (size : Nat) : Own S w0 (w.alloc (.cells #[] e)) (SP.row e size (.slice (some ⟨w.heap.size, 0, none⟩) 0 0) [] :: L) :=
  h.gain ((Below.refl _ _).alloc (Nat.le_refl _) _) ((SP.row e size _ _).mono (row_empty_at (heap_alloc_new w _)) (fun k hk => by subst hk; simp))
section
variable {S : Nat → Prop} {w0 w : World} {R : List SP} {g : Nat} {nodes many : Int} {L : List M} {C : List (Int × Int)}

set_option maxHeartbeats 1600000 in
theorem rtake_no (h : Own S w0 w (SP.rnet g nodes many L C :: R)) (i : Int) (hi : ¬ (0 ≤ i ∧ i < (L.length : Int))) :
    Calls Try.prog 34 #[.pointer (some ⟨g, 0, none⟩), .int .i64 i] w fun e w' => e = .returned (.tuple #[mailZero, .bool false]) ∧ Own S w0 w' (SP.rnet g nodes many L C :: R) := by
  have o1 := h.alloc #[.int .i64 0, .int .i64 0, .int .i64 0, .slice none 0 0, .bool false] 60
  obtain ⟨q, hq⟩ : ∃ q, w.heap.size = q := ⟨_, rfl⟩
  have HQ := Lib.hid hq
  rw [hq] at o1
  have HT := Lib.hid (rthere_own o1.pop i)
  rw [show thereB i L.length = false from decide_eq_false hi] at HT
  have O1 := Lib.hid o1
  clear h hi hq o1
  go_enter Try.func34, Try.ntmps34
  go_wp2_with fail
  refine (HT.out).mono ?_
  rintro e w1 ⟨rfl, hw⟩
  rw [hw] at O1
  have z0 := O1.out.blk_cell 0
  have z1 := O1.out.blk_cell 1
  have z2 := O1.out.blk_cell 2
  have z3 := O1.out.blk_cell 3
  have z4 := O1.out.blk_cell 4
  have f0 := O1.out.blk_free 0
  have f1 := O1.out.blk_free 1
  have f2 := O1.out.blk_free 2
  have f3 := O1.out.blk_free 3
  have f4 := O1.out.blk_free 4
  simp only [List.getElem?_toArray, List.getElem?_cons_zero, List.getElem?_cons_succ] at z0 z1 z2 z3 z4
  have O2 := Lib.hid (((((O1.out.blk_set 0 (.int .i64 0)).blk_set 1 (.int .i64 0)).blk_set 2 (.int .i64 0)).blk_set 3 (.slice none 0 0)).blk_set 4 (.bool false))
  simp only [HQ.out]
  clear hw HT
  go_wp2
  have y0 := O2.out.blk_cell 0
  have y1 := O2.out.blk_cell 1
  have y2 := O2.out.blk_cell 2
  have y3 := O2.out.blk_cell 3
  have y4 := O2.out.blk_cell 4
  simp only [List.getElem?_toArray, List.setIfInBounds_toArray, List.set_cons_zero, List.set_cons_succ, List.getElem?_cons_zero, List.getElem?_cons_succ] at y0 y1 y2 y3 y4
  refine bodyPost_ret (v := .tuple #[mailZero, .bool false]) ?_ rfl ⟨rfl, O2.out.pop⟩
  rw [results_cell_tmp rfl]
  unfold mailZero
  go_simp


set_option maxRecDepth 100000 in
set_option maxHeartbeats 6400000 in
theorem rtake_yes (hL : L.length ≤ 1000000) (h : Own S w0 w (SP.rnet g nodes many L C :: R)) (i : Nat) (m : M) (hm : L[i]? = some m) :
    Calls Try.prog 34 #[.pointer (some ⟨g, 0, none⟩), .int .i64 i] w fun e w' => ∃ Ad cd, e = .returned (.tuple #[mailV m (.slice Ad m.dat.length cd), .bool true]) ∧ Own S w0 w' (SP.rnet g nodes many (L.eraseIdx i) C :: SP.row 5 1 (.slice Ad m.dat.length cd) (bts m.dat) :: R) := by
  have o1 := h.alloc #[.int .i64 0, .int .i64 0, .int .i64 0, .slice none 0 0, .bool false] 60
  have hi : i < L.length := (List.getElem?_eq_some_iff.1 hm).1
  obtain ⟨q, hq⟩ : ∃ q, w.heap.size = q := ⟨_, rfl⟩
  have HQ := Lib.hid hq
  rw [hq] at o1
  have HT := Lib.hid (rthere_own o1.pop (i : Int))
  rw [show thereB (i : Int) L.length = true from decide_eq_true (by omega)] at HT
  have O1 := Lib.hid o1
  clear h hq o1
  go_enter Try.func34, Try.ntmps34
  go_wp2_with fail
  refine (HT.out).mono ?_
  rintro e w1 ⟨rfl, hw⟩
  rw [hw] at O1
  simp only [HQ.out]
  clear hw HT
  obtain ⟨ga, off, c, B1, k, Ad, cd, ds, hds, hd, hc1, hc2, c1, -, k0, k1, k2, k3, k4, hc3, hc4, h2⟩ := rnet_mail O1.out.swap hm
  obtain ⟨n, hn⟩ : ∃ n, L.length = n := ⟨_, rfl⟩
  obtain ⟨dl, hdl⟩ : ∃ dl, m.dat.length = dl := ⟨_, rfl⟩
  have HN := Lib.hid (And.intro hn hdl)
  have h1x := Lib.hid (show ∀ u ∈ mrow L ds, u.oneCell' = true from fun u hu => mrow_one u hu ((h2.pick (L := [_, _, _]) [2]).mdata_one hds))
  have hrl := Lib.hid (show (mrow L ds).length = n * 5 by rw [mrow_length hds, hn])
  have HM := Lib.hid (And.intro hds (And.intro hm hd))
  have HZ := Lib.hid (And.intro hn hdl)
  rw [hn] at h2 c1 hi hL hc1
  rw [hdl] at k3
  have o3 := h2.alloc #[.int .i64 m.num, .int .i64 m.frm, .int .i64 m.to, .slice Ad dl cd, .bool m.sp] 60
  obtain ⟨p, hp⟩ : ∃ p, w1.heap.size = p := ⟨_, rfl⟩
  have HP := Lib.hid hp
  rw [hp] at o3
  obtain ⟨W0, hW0⟩ : ∃ W0, (w1.alloc (.cells #[.int .i64 m.num, .int .i64 m.frm, .int .i64 m.to, .slice Ad dl cd, .bool m.sp] 60)).drew = W0 := ⟨_, rfl⟩
  have HW0 := Lib.hid hW0
  have O0 := Lib.hid (show Own S w0 W0 _ from hW0 ▸ (o3.pick (L := [_, _, _, _, _, _]) [1, 2, 3, 4, 5, 0]).drew)
  have hi' : (i : Int) < (n : Int) := by omega
  have i0 : (0 : Int) ≤ (i : Int) := by omega
  have hw1 : IntKind.i64.wrap ((i : Int) + 1) = (i : Int) + 1 := IntWalk.i64_in _ (by omega)
  have hw2 : ((i : Int) + 1).toNat = i + 1 := by omega
  have i2 : (i : Int) + 1 ≤ (n : Int) := by omega
  have i3 : (0 : Int) ≤ (i : Int) + 1 := by omega
  have i4 : (n : Int) ≤ (c : Int) := by omega
  have i5 : (i : Int) ≤ (n : Int) := by omega
  have i6 : (i : Int) ≤ (c : Int) := by omega
  have i7 : i ≤ n := by omega
  have i8 : i ≤ c := by omega
  have i9 : i + 1 ≤ n := by omega
  have c0 : ¬ c = 0 := by omega
  unfold maxLen at hc2
  clear O1 hn hm hd hds o3 hdl hp h2 hW0
  go_upto_region 4 with (fail)
  simp only [HP.out]
  have HSF := Lib.hid (fun (W : World) (R' : List SP) (o : Own S w0 W (SP.blk g 49 (rnetA nodes (.slice (some ⟨ga, off, none⟩) n c) many (.slice B1 C.length k)) :: R')) => show W.cell? ⟨g, 1, none⟩ = some (.slice (some ⟨ga, off, none⟩) n c) from o.blk_cell 1)
  refine wp_region_need (fun W => W.cell? ⟨g, 1, none⟩ = some (.slice (some ⟨ga, off, none⟩) n c)) (fun j => decide (j < 17)) (by kernel_rfl) ?_
  rw [HW0.out]
  have HS := Lib.hid (HSF.out _ _ O0.out)
  refine wpAnyN_take (i := 0) (v := ?v0) (by simp only [List.getElem?_toArray, List.getElem?_cons_succ, List.getElem?_cons_zero]; rfl) (by kernel_rfl) (by intro _ _ _ h; exact h) (Or.inl ⟨by rfl, ?y0⟩) HS.out ?r0
  case y0 =>
    intro W hSW
    try dsimp only at hSW
    have s0 := hSW
    go_simp
    try with_reducible rfl
  simp only [Act.put, List.setIfInBounds_toArray, List.set_cons_zero, List.set_cons_succ]
  refine wpAnyN_take (i := 2) (v := ?v2) (by simp only [List.getElem?_toArray, List.getElem?_cons_succ, List.getElem?_cons_zero]; rfl) (by kernel_rfl) (by intro _ _ _ h; exact h) (Or.inl ⟨by rfl, ?y2⟩) HS.out ?r2
  case y2 =>
    intro W hSW
    try dsimp only at hSW
    have s0 := hSW
    go_simp
    try with_reducible rfl
  simp only [Act.put, List.setIfInBounds_toArray, List.set_cons_zero, List.set_cons_succ]
  refine wpAnyN_take (i := 3) (v := ?v3) (by simp only [List.getElem?_toArray, List.getElem?_cons_succ, List.getElem?_cons_zero]; rfl) (by kernel_rfl) (by intro _ _ _ h; exact h) (Or.inl ⟨by rfl, ?y3⟩) HS.out ?r3
  case y3 =>
    intro W hSW
    try dsimp only at hSW
    have s0 := hSW
    go_simp
    try with_reducible rfl
  simp only [Act.put, List.setIfInBounds_toArray, List.set_cons_zero, List.set_cons_succ]
  refine wpAnyN_take (i := 4) (v := ?v4) (by simp only [List.getElem?_toArray, List.getElem?_cons_succ, List.getElem?_cons_zero]; rfl) (by kernel_rfl) (by intro _ _ _ h; exact h) (Or.inl ⟨by rfl, ?y4⟩) HS.out ?r4
  case y4 =>
    intro W hSW
    try dsimp only at hSW
    have s0 := hSW
    go_simp
    try with_reducible rfl
  simp only [Act.put, List.setIfInBounds_toArray, List.set_cons_zero, List.set_cons_succ]
  refine wpAnyN_take (i := 5) (v := ?v5) (by simp only [List.getElem?_toArray, List.getElem?_cons_succ, List.getElem?_cons_zero]; rfl) (by kernel_rfl) (by intro _ _ _ h; exact h) (Or.inl ⟨by rfl, ?y5⟩) HS.out ?r5
  case y5 =>
    intro W hSW
    try dsimp only at hSW
    have s0 := hSW
    go_simp
    try with_reducible rfl
  simp only [Act.put, List.setIfInBounds_toArray, List.set_cons_zero, List.set_cons_succ]
  refine wpAnyN_take (i := 6) (v := ?v6) (by simp only [List.getElem?_toArray, List.getElem?_cons_succ, List.getElem?_cons_zero]; rfl) (by kernel_rfl) (by intro _ _ _ h; exact h) (Or.inl ⟨by rfl, ?y6⟩) HS.out ?r6
  case y6 =>
    intro W hSW
    try dsimp only at hSW
    have s0 := hSW
    go_simp
    try with_reducible rfl
  simp only [Act.put, List.setIfInBounds_toArray, List.set_cons_zero, List.set_cons_succ]
  refine wpAnyN_take (i := 7) (v := ?v7) (by simp only [List.getElem?_toArray, List.getElem?_cons_succ, List.getElem?_cons_zero]; rfl) (by kernel_rfl) (by intro _ _ _ h; exact h) (Or.inl ⟨by rfl, ?y7⟩) HS.out ?r7
  case y7 =>
    intro W hSW
    try dsimp only at hSW
    have s0 := hSW
    go_simp
    try with_reducible rfl
  simp only [Act.put, List.setIfInBounds_toArray, List.set_cons_zero, List.set_cons_succ]
  refine wpAnyN_take (i := 9) (v := ?v9) (by simp only [List.getElem?_toArray, List.getElem?_cons_succ, List.getElem?_cons_zero]; rfl) (by kernel_rfl) (by intro _ _ _ h; exact h) (Or.inl ⟨by rfl, ?y9⟩) HS.out ?r9
  case y9 =>
    intro W hSW
    try dsimp only at hSW
    have s0 := hSW
    go_simp
    try with_reducible rfl
  simp only [Act.put, List.setIfInBounds_toArray, List.set_cons_zero, List.set_cons_succ]
  refine wpAnyN_take (i := 10) (v := ?v10) (by simp only [List.getElem?_toArray, List.getElem?_cons_succ, List.getElem?_cons_zero]; rfl) (by kernel_rfl) (by intro _ _ _ h; exact h) (Or.inl ⟨by rfl, ?y10⟩) HS.out ?r10
  case y10 =>
    intro W hSW
    try dsimp only at hSW
    have s0 := hSW
    go_simp
    try with_reducible rfl
  simp only [Act.put, List.setIfInBounds_toArray, List.set_cons_zero, List.set_cons_succ]
  refine wpAnyN_take (i := 11) (v := ?v11) (by simp only [List.getElem?_toArray, List.getElem?_cons_succ, List.getElem?_cons_zero]; rfl) (by kernel_rfl) (by intro _ _ _ h; exact h) (Or.inl ⟨by rfl, ?y11⟩) HS.out ?r11
  case y11 =>
    intro W hSW
    try dsimp only at hSW
    have s0 := hSW
    go_simp
    try with_reducible rfl
  simp only [Act.put, List.setIfInBounds_toArray, List.set_cons_zero, List.set_cons_succ]
  refine wpAnyN_take (i := 12) (v := ?v12) (by simp only [List.getElem?_toArray, List.getElem?_cons_succ, List.getElem?_cons_zero]; rfl) (by kernel_rfl) (by intro _ _ _ h; exact h) (Or.inl ⟨by rfl, ?y12⟩) HS.out ?r12
  case y12 =>
    intro W hSW
    try dsimp only at hSW
    have s0 := hSW
    go_simp
    try with_reducible rfl
  simp only [Act.put, List.setIfInBounds_toArray, List.set_cons_zero, List.set_cons_succ]
  refine wpAnyN_take (i := 13) (v := ?v13) (by simp only [List.getElem?_toArray, List.getElem?_cons_succ, List.getElem?_cons_zero]; rfl) (by kernel_rfl) (by intro _ _ _ h; exact h) (Or.inl ⟨by rfl, ?y13⟩) HS.out ?r13
  case y13 =>
    intro W hSW
    try dsimp only at hSW
    have s0 := hSW
    go_simp
    try with_reducible rfl
  simp only [Act.put, List.setIfInBounds_toArray, List.set_cons_zero, List.set_cons_succ]
  refine wpAnyN_take (i := 14) (v := ?v14) (by simp only [List.getElem?_toArray, List.getElem?_cons_succ, List.getElem?_cons_zero]; rfl) (by kernel_rfl) (by intro _ _ _ h; exact h) (Or.inl ⟨by rfl, ?y14⟩) HS.out ?r14
  case y14 =>
    intro W hSW
    try dsimp only at hSW
    have s0 := hSW
    go_simp
    try with_reducible rfl
  simp only [Act.put, List.setIfInBounds_toArray, List.set_cons_zero, List.set_cons_succ]
  refine wpAnyN_take (i := 15) (v := ?v15) (by simp only [List.getElem?_toArray, List.getElem?_cons_succ, List.getElem?_cons_zero]; rfl) (by kernel_rfl) (by intro _ _ _ h; exact h) (Or.inl ⟨by rfl, ?y15⟩) HS.out ?r15
  case y15 =>
    intro W hSW
    try dsimp only at hSW
    have s0 := hSW
    go_simp
    try with_reducible rfl
  simp only [Act.put, List.setIfInBounds_toArray, List.set_cons_zero, List.set_cons_succ]
  obtain ⟨A2, hA2⟩ : ∃ A2, (if c = i + 1 then some (⟨ga, off, none⟩ : Addr) else some ⟨ga, off + (i + 1) * 5, none⟩) = A2 := ⟨_, rfl⟩
  have HA2 := Lib.hid hA2
  simp only [hA2]
  clear hA2 k0 k1 k2 k3 k4 c1
  refine wpAnyN_one (i := 1) (by kernel_rfl) (by simp only [List.getElem?_toArray, List.getElem?_cons_succ, List.getElem?_cons_zero]; rfl) (fun K hK => ?_)
  go_simp
  have O1 := Lib.hid (O0.out.emptyN 60 5)
  refine hK _ _ ⟨fun _ => HSF.out _ _ (O1.out.pick (L := [_, _]) [1]), ?_⟩
  clear hK K O0 HS
  try simp only [Act.put, List.setIfInBounds_toArray, List.set_cons_zero, List.set_cons_succ]
  obtain ⟨w4, hw4⟩ : ∃ x, W0.alloc (.cells #[] 60) = x := ⟨_, rfl⟩
  obtain ⟨qe, hqe⟩ : ∃ x, W0.heap.size = x := ⟨_, rfl⟩
  rw [hw4, hqe] at O1
  simp only [hw4, hqe]
  clear hw4 hqe
  refine wpAnyN_one (i := 8) (by kernel_rfl) (by simp only [List.getElem?_toArray, List.getElem?_cons_succ, List.getElem?_cons_zero]; rfl) (fun K hK => ?_)
  refine step_append_move rfl (.tmp 20) (.tmp 26) 46 rfl 60 mailZero 5 56 Try.underlying46 Try.info60 mailZero_size (by decide) (by simp [Act.eval]) rfl O1.out (Below.refl _ _) (some ⟨ga, off, none⟩) i c ((mrow L ds).take (i * 5)) (by simp [Act.eval]) (by rw [List.length_take, hrl.out]; omega) ?rd1 (fun u hu => h1x.out u (List.mem_of_mem_take hu)) (by unfold maxLen; omega) (by omega) ?_
  case rd1 =>
    have := (O1.out.pick (L := [_, _, _]) [2]).rd
    rw [← List.take_append_drop (i * 5) (mrow L ds)] at this
    exact this.front
  rintro A3 c3 w5 o5
  have O5 := Lib.hid o5
  refine hK _ _ ⟨fun _ => HSF.out _ _ (o5.pick (L := [_, _]) [1]), ?_⟩
  clear hK K O1 o5
  try simp only [Act.put, List.setIfInBounds_toArray, List.set_cons_zero, List.set_cons_succ]
  refine wpAnyN_one (i := 16) (by kernel_rfl) (by simp only [List.getElem?_toArray, List.getElem?_cons_succ, List.getElem?_cons_zero]; rfl) (fun K hK => ?_)
  refine step_append_move rfl (.tmp 27) (.tmp 34) 46 rfl 60 mailZero 5 56 Try.underlying46 Try.info60 mailZero_size (by decide) (by simp [Act.eval]) (by rw [List.nil_append, List.length_take, hrl.out]; omega) O5.out (Below.refl _ _) A2 (n - (i + 1)) (c - (i + 1)) ((mrow L ds).drop ((i + 1) * 5)) (by simp [Act.eval]) (by rw [List.length_drop, hrl.out]; omega) ?rd2 (fun u hu => h1x.out u (List.mem_of_mem_drop hu)) (by unfold maxLen; omega) (by omega) ?_
  case rd2 =>
    have := ((O5.out.pick (L := [_, _, _]) [2]).cutRow (k := i + 1) (by omega) (by omega) hrl.out).rd
    rw [HA2.out] at this
    exact this
  rintro A6 c6 w6 o6
  rw [Nat.zero_add, List.nil_append] at o6
  refine hK _ _ ⟨fun _ => HSF.out _ _ (o6.pick (L := [_, _]) [1]), ?_⟩
  have f1 := (o6.pick (L := [_, _]) [1]).blk_free 1
  have b1 := (o6.pick (L := [_, _]) [1]).blk_cell 1
  have o7 := (o6.pick (L := [_, _, _, _, _, _, _]) [1, 0, 3, 4, 5, 6]).blk_set 1 (.slice A6 (i + (n - (i + 1))) c6)
  have O7 := Lib.hid o7
  clear hK K O5 o6 o7
  try simp only [Act.put, List.setIfInBounds_toArray, List.set_cons_zero, List.set_cons_succ]
  refine wpAnyN_one (i := 17) (by kernel_rfl) (by simp only [List.getElem?_toArray, List.getElem?_cons_succ, List.getElem?_cons_zero]; rfl) (fun K hK => ?_)
  go_simp
  refine hK _ _ ⟨fun h => (by cases h), ?_⟩
  clear hK K
  try simp only [Act.put, List.setIfInBounds_toArray, List.set_cons_zero, List.set_cons_succ]
  refine wpAnyN_one (i := 18) (by kernel_rfl) (by simp only [List.getElem?_toArray, List.getElem?_cons_succ, List.getElem?_cons_zero]; rfl) (fun K hK => ?_)
  go_simp
  refine hK _ _ ⟨fun h => (by cases h), ?_⟩
  clear hK K
  try simp only [Act.put, List.setIfInBounds_toArray, List.set_cons_zero, List.set_cons_succ]
  refine wpAnyN_one (i := 19) (by kernel_rfl) (by simp only [List.getElem?_toArray, List.getElem?_cons_succ, List.getElem?_cons_zero]; rfl) (fun K hK => ?_)
  go_simp
  refine hK _ _ ⟨fun h => (by cases h), ?_⟩
  clear hK K
  try simp only [Act.put, List.setIfInBounds_toArray, List.set_cons_zero, List.set_cons_succ]
  refine wpAnyN_done (by kernel_rfl) ?_ _
  obtain ⟨w7, hw7⟩ : ∃ x, w6.setCell ⟨g, 1, none⟩ (.slice A6 (i + (n - (i + 1))) c6) = x := ⟨_, rfl⟩
  rw [hw7] at O7
  try simp only [hw7]
  have fq := fun j => (O7.out.pick (L := [_, _, _, _, _, _]) [4]).blk_free j
  have cq := fun j => (O7.out.pick (L := [_, _, _, _, _, _]) [4]).blk_cell j
  have z0 := cq 0
  have z1 := cq 1
  have z2 := cq 2
  have z3 := cq 3
  have z4 := cq 4
  have f0 := fq 0
  have f1 := fq 1
  have f2 := fq 2
  have f3 := fq 3
  have f4 := fq 4
  have cp := fun j => (O7.out.pick (L := [_, _, _, _, _, _]) [5]).blk_cell j
  have x0 := cp 0
  have x1 := cp 1
  have x2 := cp 2
  have x3 := cp 3
  have x4 := cp 4
  simp only [List.getElem?_toArray, List.getElem?_cons_zero, List.getElem?_cons_succ] at z0 z1 z2 z3 z4 x0 x1 x2 x3 x4
  clear cp cq fq hw7 b1
  have O8 := Lib.hid ((((((O7.out.pick (L := [_, _, _, _, _, _]) [4, 0, 1, 2, 3]).blk_set 0 (.int .i64 m.num)).blk_set 1 (.int .i64 m.frm)).blk_set 2 (.int .i64 m.to)).blk_set 3 (.slice Ad dl cd)).blk_set 4 (.bool m.sp))
  go_wp2
  have y0 := O8.out.blk_cell 0
  have y1 := O8.out.blk_cell 1
  have y2 := O8.out.blk_cell 2
  have y3 := O8.out.blk_cell 3
  have y4 := O8.out.blk_cell 4
  simp only [List.getElem?_toArray, List.setIfInBounds_toArray, List.set_cons_zero, List.set_cons_succ, List.getElem?_cons_zero, List.getElem?_cons_succ] at y0 y1 y2 y3 y4
  refine bodyPost_ret (v := .tuple #[mailV m (.slice Ad dl cd), .bool true]) ?_ rfl ⟨Ad, cd, by rw [HN.out.2], ?_⟩
  · rw [results_cell_tmp rfl]
    unfold mailV
    go_simp
  rw [HN.out.2]
  obtain ⟨H22, H23, H24⟩ := HM.out
  have hil : i < L.length := (List.getElem?_eq_some_iff.1 H23).1
  have o9 := O8.out.pick (L := [_, _, _, _, _]) [1, 2, 3, 4]
  have hlen : (L.eraseIdx i).length = i + (n - (i + 1)) := by rw [List.length_eraseIdx, if_pos hil, HN.out.1]; omega
  have hde : (ds.eraseIdx i).length = (L.eraseIdx i).length := by rw [List.length_eraseIdx, if_pos (by rw [H22]; exact hil), List.length_eraseIdx, if_pos hil, H22]
  rw [← hlen, ← mrow_erase H22] at o9
  have o10 := (((o9.pick (L := [_, _, _, _]) [2, 0, 1, 3]).focus i (mdata_get H23 H24)).pick (L := [_, _, _, _, _]) [3, 1, 2, 4, 0])
  rw [← mdata_erase H22, HN.out.2] at o10
  refine Own.rnet_shut (v := .slice A6 (L.eraseIdx i).length c6) (u := .slice B1 C.length k) ?_
  exact Own.swap (Own.mails_shut hde (o10.pick (L := [_, _, _, _, _]) [0, 1, 2, 3, 4]))

end
end Go.Proofs.Ytlhinhcbbknhcaa
