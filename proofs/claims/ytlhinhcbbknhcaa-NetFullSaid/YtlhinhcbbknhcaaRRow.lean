/-
  The law's Mail and Row: the two networks' mails compared.
  Conditions: none beyond each theorem's own.
-/
import Derived.Test.YtlhinhcbbknhcaaRCp
namespace Go.Proofs.Ytlhinhcbbknhcaa
set_option linter.unusedVariables false
set_option linter.unusedSimpArgs false
open Go.RowKit

section
variable {S : Nat → Prop} {w0 w : World} {R : List SP} {L : List M}

set_option maxHeartbeats 1600000 in
theorem mail_own {X : List SP} {A B : Option Addr} {ca cb : Nat} {m : M} (h : Own S w0 w X) (hA : Rd w A (bts m.dat)) (hB : Rd w B (bts m.dat)) (hl : m.dat.length ≤ 140737488351232) :
    Calls Try.prog 35 #[mailV m (.slice A m.dat.length ca), mailV m (.slice B m.dat.length cb)] w fun e w' => e = .returned (.bool true) ∧ Own S w0 w' X := by
  obtain ⟨dl, hdl⟩ : ∃ dl, m.dat.length = dl := ⟨_, rfl⟩
  have HDL := Lib.hid hdl
  have o1 := (h.alloc #[.int .i64 m.num, .int .i64 m.frm, .int .i64 m.to, .slice A dl ca, .bool m.sp] 34).alloc #[.int .i64 m.num, .int .i64 m.frm, .int .i64 m.to, .slice B dl cb, .bool m.sp] 60
  have hA1 := (hA.below (((Below.refl _ w).alloc (Nat.le_refl _) (.cells #[.int .i64 m.num, .int .i64 m.frm, .int .i64 m.to, .slice A dl ca, .bool m.sp] 34))))
  have hA2 := (hA.below (((Below.refl _ w).alloc (Nat.le_refl _) (.cells #[.int .i64 m.num, .int .i64 m.frm, .int .i64 m.to, .slice A dl ca, .bool m.sp] 34)).alloc (by simp) (.cells #[.int .i64 m.num, .int .i64 m.frm, .int .i64 m.to, .slice B dl cb, .bool m.sp] 60)))
  have hB2 := (hB.below (((Below.refl _ w).alloc (Nat.le_refl _) (.cells #[.int .i64 m.num, .int .i64 m.frm, .int .i64 m.to, .slice A dl ca, .bool m.sp] 34)).alloc (by simp) (.cells #[.int .i64 m.num, .int .i64 m.frm, .int .i64 m.to, .slice B dl cb, .bool m.sp] 60)))
  obtain ⟨q1, hq1⟩ : ∃ q1, w.heap.size = q1 := ⟨_, rfl⟩
  obtain ⟨q2, hq2⟩ : ∃ q2, q1 + 1 = q2 := ⟨_, rfl⟩
  have HQ := Lib.hid (And.intro hq1 hq2)
  simp only [World.size_alloc, hq1, hq2] at o1
  have HS := Lib.hid (same_own (ca := ca) (cb := cb) o1 hA2 hB2 hl)
  rw [hdl] at HS ⊢
  unfold mailV
  clear h hA hB hA1 hA2 hB2 o1 hdl hl hq1 hq2
  go_enter Try.func35, Try.ntmps35
  go_wp2_with fail
  refine (HS.out).mono ?_
  rintro e w3 ⟨rfl, o3⟩
  simp only [World.size_alloc, HQ.out.1, HQ.out.2]
  have a0 := (o3.pick (L := [_, _]) [1]).blk_cell 0
  have a1 := (o3.pick (L := [_, _]) [1]).blk_cell 1
  have a2 := (o3.pick (L := [_, _]) [1]).blk_cell 2
  have a4 := (o3.pick (L := [_, _]) [1]).blk_cell 4
  have c0 := o3.blk_cell 0
  have c1 := o3.blk_cell 1
  have c2 := o3.blk_cell 2
  have c4 := o3.blk_cell 4
  simp only [List.getElem?_toArray, List.getElem?_cons_zero, List.getElem?_cons_succ] at a0 a1 a2 a4 c0 c1 c2 c4
  have O3 := Lib.hid (o3.pick (L := [_, _]) [])
  clear o3 HS
  have hsp : (m.sp == m.sp) = true := by simp
  go_wp2
  go_ret
  exact ⟨rfl, O3.out⟩
theorem cells5 {t : TypeId} {W : World} {R : List SP} {ga oa c n i : Nat} {m : M} {d : Value} {ds : List Value} (o : Own S w0 W (SP.row t 5 (.slice (some ⟨ga, oa, none⟩) n c) (mrow L ds) :: R)) (hm : L[i]? = some m) (hd : ds[i]? = some d) :
    W.cell? ⟨ga, oa + i * 5, none⟩ = some (.int .i64 m.num) ∧ W.cell? ⟨ga, oa + i * 5 + 1, none⟩ = some (.int .i64 m.frm) ∧ W.cell? ⟨ga, oa + i * 5 + 2, none⟩ = some (.int .i64 m.to) ∧ W.cell? ⟨ga, oa + i * 5 + 3, none⟩ = some d ∧ W.cell? ⟨ga, oa + i * 5 + 4, none⟩ = some (.bool m.sp) := by
  obtain ⟨_, _, e1, k0, -⟩ := o.cell (mrow_get (j := 0) hm hd (by omega)); cases e1
  obtain ⟨_, _, e1, k1, -⟩ := o.cell (mrow_get (j := 1) hm hd (by omega)); cases e1
  obtain ⟨_, _, e1, k2, -⟩ := o.cell (mrow_get (j := 2) hm hd (by omega)); cases e1
  obtain ⟨_, _, e1, k3, -⟩ := o.cell (mrow_get (j := 3) hm hd (by omega)); cases e1
  obtain ⟨_, _, e1, k4, -⟩ := o.cell (mrow_get (j := 4) hm hd (by omega)); cases e1
  simp only [mcells, List.getElem?_cons_zero, List.getElem?_cons_succ, ← Nat.add_assoc, Nat.add_zero] at k0 k1 k2 k3 k4
  exact ⟨k0, k1, k2, k3, k4⟩

set_option maxRecDepth 100000 in
set_option maxHeartbeats 3200000 in
theorem row_own {A B : Option Addr} {ca cb : Nat} (hL : L.length ≤ 1000000) (hdl : ∀ m, m ∈ L → m.dat.length ≤ 140737488351232) (h : Own S w0 w (SP.mails 34 (.slice A L.length ca) L :: SP.mails 60 (.slice B L.length cb) L :: R)) :
    Calls Try.prog 19 #[.slice A L.length ca, .slice B L.length cb] w fun e w' => e = .returned (.bool true) ∧ Own S w0 w' (SP.mails 34 (.slice A L.length ca) L :: SP.mails 60 (.slice B L.length cb) L :: R) := by
  obtain ⟨_, _, ds, z, hds, -, -, h1⟩ := h.mails_open
  cases z
  obtain ⟨_, _, es, z, hes, -, -, h2⟩ := (h1.pick (L := [_, _, _]) [2, 0, 1]).mails_open
  cases z
  have H := Lib.hid (show Own S w0 w (SP.row 34 5 (.slice A L.length ca) (mrow L ds) :: SP.stars (mdata L ds) :: SP.row 60 5 (.slice B L.length cb) (mrow L es) :: SP.stars (mdata L es) :: R) from h2.pick (L := [_, _, _, _]) [2, 3, 0, 1])
  have HD := Lib.hid (And.intro hds (And.intro hes hdl))
  have hnn : ((L.length : Int) != (L.length : Int)) = false := by simp
  clear h h1 h2 hds hes hdl
  go_enter Try.func19, Try.ntmps19
  go_wp2
  go_loopw [5] (fun ti wr => ∃ i : Nat, i ≤ L.length ∧ ti = .int .i64 i ∧ Own S w0 wr (SP.row 34 5 (.slice A L.length ca) (mrow L ds) :: SP.stars (mdata L ds) :: SP.row 60 5 (.slice B L.length cb) (mrow L es) :: SP.stars (mdata L es) :: R)) (fun ti _ => L.length - (intOf ti).toNat)
  case atStart => exact ⟨0, Nat.zero_le _, rfl, H.out⟩
  case round =>
    obtain ⟨i, hi, rfl, hown⟩ := hrel
    clear H
    by_cases hin : i < L.length
    · have i1 : (i : Int) < (L.length : Int) := by omega
      have hds := HD.out.1
      have hes := HD.out.2.1
      obtain ⟨m, hm⟩ : ∃ m, L[i]? = some m := ⟨_, List.getElem?_eq_getElem hin⟩
      obtain ⟨d, hd⟩ : ∃ d, ds[i]? = some d := ⟨_, List.getElem?_eq_getElem (by omega)⟩
      obtain ⟨d2, hd2⟩ : ∃ d, es[i]? = some d := ⟨_, List.getElem?_eq_getElem (by omega)⟩
      obtain ⟨Ad, cd, rfl, -, -⟩ := SP.row_shape (n := m.dat.length) (by decide) (((hown.pick (L := [_, _]) [1])).focus i (mdata_get hm hd)).head (by rw [bts_length, Nat.mul_one])
      obtain ⟨Bd, ce, rfl, -, -⟩ := SP.row_shape (n := m.dat.length) (by decide) (((hown.pick (L := [_, _, _, _]) [3])).focus i (mdata_get hm hd2)).head (by rw [bts_length, Nat.mul_one])
      obtain ⟨ga, oa, rfl, -, -⟩ := hown.cell (mrow_get (j := 0) hm hd (by omega))
      obtain ⟨gb, ob, rfl, -, -⟩ := (hown.pick (L := [_, _, _]) [2]).cell (mrow_get (j := 0) hm hd2 (by omega))
      have HSF := Lib.hid (fun (W : World) (o : Own S w0 W (SP.row 34 5 (.slice (some ⟨ga, oa, none⟩) L.length ca) (mrow L ds) :: SP.stars (mdata L ds) :: SP.row 60 5 (.slice (some ⟨gb, ob, none⟩) L.length cb) (mrow L es) :: SP.stars (mdata L es) :: R)) => show W.cell? ⟨ga, oa + i * 5, none⟩ = some (.int .i64 m.num) ∧ W.cell? ⟨ga, oa + i * 5 + 1, none⟩ = some (.int .i64 m.frm) ∧ W.cell? ⟨ga, oa + i * 5 + 2, none⟩ = some (.int .i64 m.to) ∧ W.cell? ⟨ga, oa + i * 5 + 3, none⟩ = some (.slice Ad m.dat.length cd) ∧ W.cell? ⟨ga, oa + i * 5 + 4, none⟩ = some (.bool m.sp) ∧ W.cell? ⟨gb, ob + i * 5, none⟩ = some (.int .i64 m.num) ∧ W.cell? ⟨gb, ob + i * 5 + 1, none⟩ = some (.int .i64 m.frm) ∧ W.cell? ⟨gb, ob + i * 5 + 2, none⟩ = some (.int .i64 m.to) ∧ W.cell? ⟨gb, ob + i * 5 + 3, none⟩ = some (.slice Bd m.dat.length ce) ∧ W.cell? ⟨gb, ob + i * 5 + 4, none⟩ = some (.bool m.sp) from by
        obtain ⟨a0, a1, a2, a3, a4⟩ := cells5 o hm hd
        obtain ⟨b0, b1, b2, b3, b4⟩ := cells5 (o.pick (L := [_, _, _]) [2]) hm hd2
        exact ⟨a0, a1, a2, a3, a4, b0, b1, b2, b3, b4⟩)
      have HC := Lib.hid (mail_own (ca := cd) (cb := ce) hown.drew (((hown.pick (L := [_, _]) [1]).focus i (mdata_get hm hd)).rd) (((hown.pick (L := [_, _, _, _]) [3]).focus i (mdata_get hm hd2)).rd) (HD.out.2.2 m (List.mem_of_getElem? hm)))
      obtain ⟨a0, a1, a2, a3, a4, b0, b1, b2, b3, b4⟩ := HSF.out _ hown
      have O1 := Lib.hid hown
      clear hown hm hd hd2 hds hes
      unfold mailV at HC
      go_upto_region 6 with (fail)
      go_region_held3 (fun W => W.cell? ⟨ga, oa + i * 5, none⟩ = some (.int .i64 m.num) ∧ W.cell? ⟨ga, oa + i * 5 + 1, none⟩ = some (.int .i64 m.frm) ∧ W.cell? ⟨ga, oa + i * 5 + 2, none⟩ = some (.int .i64 m.to) ∧ W.cell? ⟨ga, oa + i * 5 + 3, none⟩ = some (.slice Ad m.dat.length cd) ∧ W.cell? ⟨ga, oa + i * 5 + 4, none⟩ = some (.bool m.sp) ∧ W.cell? ⟨gb, ob + i * 5, none⟩ = some (.int .i64 m.num) ∧ W.cell? ⟨gb, ob + i * 5 + 1, none⟩ = some (.int .i64 m.frm) ∧ W.cell? ⟨gb, ob + i * 5 + 2, none⟩ = some (.int .i64 m.to) ∧ W.cell? ⟨gb, ob + i * 5 + 3, none⟩ = some (.slice Bd m.dat.length ce) ∧ W.cell? ⟨gb, ob + i * 5 + 4, none⟩ = some (.bool m.sp))
        (first | go_keep | exact ⟨a0, a1, a2, a3, a4, b0, b1, b2, b3, b4⟩ | exact K5.out)
        (first
          | (refine step_callW 35 _ _ rfl Try.func35 (by kernel_rfl) (by kernel_rfl) #[.agg #[.int .i64 m.num, .int .i64 m.frm, .int .i64 m.to, .slice Ad m.dat.length cd, .bool m.sp], .agg #[.int .i64 m.num, .int .i64 m.frm, .int .i64 m.to, .slice Bd m.dat.length ce, .bool m.sp]] (by rfl) (by rfl) ?_
             refine (HC.out).mono ?_
             rintro e w5 ⟨rfl, o5⟩
             refine ⟨_, rfl, ?_⟩
             have K5 := Lib.hid (HSF.out _ o5)
             have O5 := Lib.hid o5
             clear o5))
      clear a0 a1 a2 a3 a4 b0 b1 b2 b3 b4
      go_wp2
      go_roundw
      case rel => exact ⟨i + 1, by omega, by go_num, O5.out⟩
      case measure => simp [intOf]; omega
    · have i1 : ¬ (i : Int) < (L.length : Int) := by omega
      obtain rfl : i = L.length := by omega
      have O1 := Lib.hid hown
      clear hown
      go_wp2
      go_ret
      refine ⟨rfl, ?_⟩
      have o2 := Own.mails_shut (t := 34) HD.out.1 O1.out
      exact Own.swap (Own.mails_shut (t := 60) HD.out.2.1 (o2.pick (L := [_, _, _]) [1, 2, 0]))
end
end Go.Proofs.Ytlhinhcbbknhcaa
