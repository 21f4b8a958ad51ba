/-
  Take: the mail at a place, taken out of the row.
  Conditions: none beyond each theorem's own.
-/
import Derived.Test.YtlhinhcbbknhcaaSend
import Derived.Test.YtlhinhcbbknhcaaDel
import Derived.Laws.ResultCell
import Derived.Deep.Cut
import Derived.WalkSpells
namespace Go.Proofs.Ytlhinhcbbknhcaa
set_option linter.unusedVariables false
set_option linter.unusedSimpArgs false
open Go.RowKit

section
variable {S : Nat → Prop} {w0 w : World} {R : List SP} {g : Nat} {nodes last : Int} {cut : List Bool} {L : List M}

theorem mrow_erase {ds : List Value} (h : ds.length = L.length) (i : Nat) : mrow (L.eraseIdx i) (ds.eraseIdx i) = (mrow L ds).take (i * 5) ++ (mrow L ds).drop ((i + 1) * 5) := by
  rw [List.eraseIdx_eq_take_drop_succ, List.eraseIdx_eq_take_drop_succ, mrow_append (by rw [List.length_take, List.length_take, h]), mrow_take, mrow_drop]
theorem mdata_erase {ds : List Value} (h : ds.length = L.length) (i : Nat) : mdata (L.eraseIdx i) (ds.eraseIdx i) = (mdata L ds).eraseIdx i := by
  rw [List.eraseIdx_eq_take_drop_succ, List.eraseIdx_eq_take_drop_succ, mdata_append (by rw [List.length_take, List.length_take, h]), List.eraseIdx_eq_take_drop_succ]
  unfold mdata
  rw [List.take_zipWith, List.drop_zipWith]

def mailV (m : M) (d : Value) : Value := .agg #[.int .i64 m.num, .int .i64 m.frm, .int .i64 m.to, d, .bool m.sp]

set_option maxHeartbeats 1600000 in
theorem take_no (h : Own S w0 w (SP.net g nodes cut last L :: R)) (i : Int) (hi : ¬ (0 ≤ i ∧ i < (L.length : Int))) :
    Calls Try.prog 13 #[.pointer (some ⟨g, 0, none⟩), .int .i64 i] w fun e w' => e = .returned (.tuple #[mailZero, .bool false]) ∧ Own S w0 w' (SP.net g nodes cut last L :: R) := by
  have o1 := h.alloc #[.int .i64 0, .int .i64 0, .int .i64 0, .slice none 0 0, .bool false] 34
  obtain ⟨q, hq⟩ : ∃ q, w.heap.size = q := ⟨_, rfl⟩
  have HQ := Lib.hid hq
  rw [hq] at o1
  have HT := Lib.hid (there_own o1.pop i)
  rw [show thereB i L.length = false from decide_eq_false hi] at HT
  have O1 := Lib.hid o1
  clear h hi hq o1
  go_enter Try.func13, Try.ntmps13
  go_wp2_with fail
  refine (HT.out).mono ?_
  rintro e w1 ⟨rfl, hw⟩
  rw [hw] at O1
  have z0 := O1.out.blk_cell 0
  have z1 := O1.out.blk_cell 1
  have z2 := O1.out.blk_cell 2
  have z3 := O1.out.blk_cell 3
  have z4 := O1.out.blk_cell 4
  have f0 := O1.out.blk_free 0
  have f1 := O1.out.blk_free 1
  have f2 := O1.out.blk_free 2
  have f3 := O1.out.blk_free 3
  have f4 := O1.out.blk_free 4
  simp only [List.getElem?_toArray, List.getElem?_cons_zero, List.getElem?_cons_succ] at z0 z1 z2 z3 z4
  have O2 := Lib.hid (((((O1.out.blk_set 0 (.int .i64 0)).blk_set 1 (.int .i64 0)).blk_set 2 (.int .i64 0)).blk_set 3 (.slice none 0 0)).blk_set 4 (.bool false))
  simp only [HQ.out]
  clear hw HT
  go_wp2
  have y0 := O2.out.blk_cell 0
  have y1 := O2.out.blk_cell 1
  have y2 := O2.out.blk_cell 2
  have y3 := O2.out.blk_cell 3
  have y4 := O2.out.blk_cell 4
  simp only [List.getElem?_toArray, List.setIfInBounds_toArray, List.set_cons_zero, List.set_cons_succ, List.getElem?_cons_zero, List.getElem?_cons_succ] at y0 y1 y2 y3 y4
  refine bodyPost_ret (v := .tuple #[mailZero, .bool false]) ?_ rfl ⟨rfl, O2.out.pop⟩
  rw [results_cell_tmp rfl]
  unfold mailZero
  go_simp

set_option maxHeartbeats 1600000 in
theorem take_open (hL : L.length ≤ 1000000) (h : Own S w0 w (SP.net g nodes cut last L :: R)) (i : Nat) (m : M) (hm : L[i]? = some m) :
    Calls Try.prog 13 #[.pointer (some ⟨g, 0, none⟩), .int .i64 i] w fun e w' => ∃ Ad cd A3 c3 ds', L.length ≤ c3 ∧ ds'.length = (L.eraseIdx i).length ∧ cut.length = 64 ∧ e = .returned (.tuple #[mailV m (.slice Ad m.dat.length cd), .bool true]) ∧ Own S w0 w' (SP.row 34 5 (.slice A3 (L.eraseIdx i).length c3) (mrow (L.eraseIdx i) ds') :: SP.stars (mdata (L.eraseIdx i) ds') :: SP.blk g 57 (netList nodes cut (.slice A3 (L.eraseIdx i).length c3) last).toArray :: SP.row 5 1 (.slice Ad m.dat.length cd) (bts m.dat) :: R) := by
  have o1 := h.alloc #[.int .i64 0, .int .i64 0, .int .i64 0, .slice none 0 0, .bool false] 34
  have hi : i < L.length := (List.getElem?_eq_some_iff.1 hm).1
  obtain ⟨q, hq⟩ : ∃ q, w.heap.size = q := ⟨_, rfl⟩
  have HQ := Lib.hid hq
  rw [hq] at o1
  have HT := Lib.hid (there_own o1.pop (i : Int))
  rw [show thereB i L.length = true from decide_eq_true (by omega)] at HT
  have O1 := Lib.hid o1
  clear h hq o1
  go_enter Try.func13, Try.ntmps13
  go_wp2_with fail
  refine (HT.out).mono ?_
  rintro e w1 ⟨rfl, hw⟩
  rw [hw] at O1
  simp only [HQ.out]
  clear hw HT
  obtain ⟨v, hcut, h1⟩ := (O1.out.swap).net_open
  obtain ⟨A, c, ds, rfl, hds, -, -, h2⟩ := h1.swap.mails_open
  obtain ⟨n, hn⟩ : ∃ n, L.length = n := ⟨_, rfl⟩
  have HN := Lib.hid hn
  obtain ⟨d, hd⟩ : ∃ d, ds[i]? = some d := ⟨_, List.getElem?_eq_getElem (by omega)⟩
  obtain ⟨Ad, cd, rfl, -, -⟩ := SP.row_shape (n := m.dat.length) (by decide) ((h2.swap).focus i (mdata_get hm hd)).head (by rw [bts_length, Nat.mul_one])
  have h1x : ∀ u ∈ mrow L ds, u.oneCell' = true := fun u hu => mrow_one u hu (h2.swap.mdata_one hds)
  obtain ⟨ga, off, rfl, k0, -⟩ := h2.cell (mrow_get (j := 0) hm hd (by omega))
  obtain ⟨_, _, e1, k1, -⟩ := h2.cell (mrow_get (j := 1) hm hd (by omega)); cases e1
  obtain ⟨_, _, e1, k2, -⟩ := h2.cell (mrow_get (j := 2) hm hd (by omega)); cases e1
  obtain ⟨_, _, e1, k3, -⟩ := h2.cell (mrow_get (j := 3) hm hd (by omega)); cases e1
  obtain ⟨_, _, e1, k4, -⟩ := h2.cell (mrow_get (j := 4) hm hd (by omega)); cases e1
  simp only [mcells, List.getElem?_cons_zero, List.getElem?_cons_succ, ← Nat.add_assoc, Nat.add_zero] at k0 k1 k2 k3 k4
  rw [hn] at h2 hi
  have o3 := h2.alloc #[.int .i64 m.num, .int .i64 m.frm, .int .i64 m.to, .slice Ad m.dat.length cd, .bool m.sp] 34
  obtain ⟨p, hp⟩ : ∃ p, w1.heap.size = p := ⟨_, rfl⟩
  have HP := Lib.hid hp
  have hln := mrow_length (L := L) (ds := ds) hds
  rw [hn] at hln
  have HD := Lib.hid (delete_own (o3.swap) hln h1x (by omega) i (i + 1) (by omega) (by omega))
  have c65 := ((h2.pick (L := [_, _, _]) [2, 0, 1]).blk_cell 65).trans (netList_row hcut)
  have hlt := ((h2.pick (L := [_, _, _]) [2, 0, 1])).blk_lt
  have hlr := h2.row_lt
  have hlq := ((h2.pick (L := [_, _, _, _]) [3, 0, 1, 2])).blk_lt
  have hi' : (i : Int) < (n : Int) := by omega
  have hw1 : IntKind.i64.wrap ((i : Int) + 1) = ((i + 1 : Nat) : Int) := by rw [IntWalk.i64_in _ (by omega)]; omega
  have H2 := Lib.hid (And.intro hcut (And.intro hds (And.intro hm hd)))
  obtain ⟨dl, hdl⟩ : ∃ dl, m.dat.length = dl := ⟨_, rfl⟩
  have HDL := Lib.hid hdl
  rw [hdl] at HD k3
  clear h1 h2 O1 hn hm hd hds o3 h1x hln hdl hp
  go_wp2_with fail
  refine (HD.out).mono ?_
  rintro e w3 ⟨A3, c3, hroom, rfl, o3⟩
  have HRM := Lib.hid hroom
  clear hroom
  rw [HP.out] at o3
  simp only [HP.out]
  have c65b := ((o3.pick (L := [_, _, _, _]) [3]).blk_cell 65).trans (netList_row H2.out.1)
  have f65 := (o3.pick (L := [_, _, _, _]) [3]).blk_free 65
  have o4 := (o3.pick (L := [_, _, _, _, _]) [3, 0, 1, 2, 4]).blk_set 65 (.slice A3 (i + (n - (i + 1))) c3)
  rw [netList_set_row H2.out.1] at o4
  obtain ⟨w4, hw4⟩ : ∃ w4, w3.setCell ⟨g, 65, none⟩ (.slice A3 (i + (n - (i + 1))) c3) = w4 := ⟨_, rfl⟩
  rw [hw4] at o4
  have fq := fun j => (o4.pick (L := [_, _, _, _, _]) [4]).blk_free j
  have cq := fun j => (o4.pick (L := [_, _, _, _, _]) [4]).blk_cell j
  have z0 := cq 0
  have z1 := cq 1
  have z2 := cq 2
  have z3 := cq 3
  have z4 := cq 4
  have f0 := fq 0
  have f1 := fq 1
  have f2 := fq 2
  have f3 := fq 3
  have f4 := fq 4
  have cp := fun j => (o4.pick (L := [_, _, _, _, _]) [2]).blk_cell j
  have x0 := cp 0
  have x1 := cp 1
  have x2 := cp 2
  have x3 := cp 3
  have x4 := cp 4
  simp only [List.getElem?_toArray, List.getElem?_cons_zero, List.getElem?_cons_succ] at z0 z1 z2 z3 z4 x0 x1 x2 x3 x4
  clear cp cq fq
  have O5 := Lib.hid ((((((o4.pick (L := [_, _, _, _, _]) [4, 0, 1, 3]).blk_set 0 (.int .i64 m.num)).blk_set 1 (.int .i64 m.frm)).blk_set 2 (.int .i64 m.to)).blk_set 3 (.slice Ad dl cd)).blk_set 4 (.bool m.sp))
  have HW := Lib.hid hw4
  clear o3 o4 c65 k0 k1 k2 k3 k4 hw4 HD
  go_upto_region 5 with (fail)
  simp only [HW.out]
  clear HW c65b f65
  go_wp2
  have y0 := O5.out.blk_cell 0
  have y1 := O5.out.blk_cell 1
  have y2 := O5.out.blk_cell 2
  have y3 := O5.out.blk_cell 3
  have y4 := O5.out.blk_cell 4
  simp only [List.getElem?_toArray, List.setIfInBounds_toArray, List.set_cons_zero, List.set_cons_succ, List.getElem?_cons_zero, List.getElem?_cons_succ] at y0 y1 y2 y3 y4
  refine bodyPost_ret (v := .tuple #[mailV m (.slice Ad dl cd), .bool true]) ?_ rfl ⟨Ad, cd, A3, c3, ds.eraseIdx i, by rw [HN.out]; exact HRM.out, ?_, H2.out.1, by rw [HDL.out], ?_⟩
  · rw [results_cell_tmp rfl]
    unfold mailV
    go_simp
  · obtain ⟨H21, H22, H23, H24⟩ := H2.out
    have hil : i < L.length := (List.getElem?_eq_some_iff.1 H23).1
    rw [List.length_eraseIdx, if_pos (by rw [H22]; exact hil), List.length_eraseIdx, if_pos hil, H22]
  rw [HDL.out]
  have o6 := O5.out.pick (L := [_, _, _, _]) [1, 2, 3]
  obtain ⟨H21, H22, H23, H24⟩ := H2.out
  have hil : i < L.length := (List.getElem?_eq_some_iff.1 H23).1
  have hlen : (L.eraseIdx i).length = i + (n - (i + 1)) := by rw [List.length_eraseIdx, if_pos hil, HN.out]; clear hw1; rw [HN.out] at hil; omega
  have hde : (ds.eraseIdx i).length = (L.eraseIdx i).length := by rw [List.length_eraseIdx, if_pos (by rw [H22]; exact hil), List.length_eraseIdx, if_pos hil, H22]
  rw [← hlen, ← mrow_erase H22] at o6
  have o7 := (((o6.pick (L := [_, _, _]) [2, 0, 1]).focus i (mdata_get H23 H24)).pick (L := [_, _, _, _]) [3, 1, 2, 0])
  rw [← mdata_erase H22, HDL.out] at o7
  exact o7

theorem take_yes (hL : L.length ≤ 1000000) (h : Own S w0 w (SP.net g nodes cut last L :: R)) (i : Nat) (m : M) (hm : L[i]? = some m) :
    Calls Try.prog 13 #[.pointer (some ⟨g, 0, none⟩), .int .i64 i] w fun e w' => ∃ Ad cd, e = .returned (.tuple #[mailV m (.slice Ad m.dat.length cd), .bool true]) ∧ Own S w0 w' (SP.net g nodes cut last (L.eraseIdx i) :: SP.row 5 1 (.slice Ad m.dat.length cd) (bts m.dat) :: R) := by
  refine (take_open hL h i m hm).mono ?_
  rintro e w' ⟨Ad, cd, A3, c3, ds', -, hd, hcut, he, o⟩
  exact ⟨Ad, cd, he, Own.net_shut hcut (v := .slice A3 (L.eraseIdx i).length c3) (Own.mails_shut hd o).swap⟩
end
end Go.Proofs.Ytlhinhcbbknhcaa
