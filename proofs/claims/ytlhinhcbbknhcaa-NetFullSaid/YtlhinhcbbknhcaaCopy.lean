/-
  Copy: a mail doubled.
  Conditions: none beyond each theorem's own.
-/
import Derived.Test.YtlhinhcbbknhcaaTake
import Derived.WalkSpells
namespace Go.Proofs.Ytlhinhcbbknhcaa
set_option linter.unusedVariables false
set_option linter.unusedSimpArgs false
open Go.RowKit

section
variable {S : Nat → Prop} {w0 w : World} {R : List SP} {g : Nat} {nodes last : Int} {cut : List Bool} {L : List M}

theorem reads_mdata {ds : List Value} {i : Nat} {m : M} {Ad : Option Addr} {n cd : Nat} (hm : L[i]? = some m) (hd : ds[i]? = some (.slice Ad n cd)) : Reads S w0 (SP.stars (mdata L ds) :: R) Ad m.dat := fun W X hX =>
  (Own.focus (hX.perm List.perm_middle) i (mdata_get hm hd)).rd

/-- The mail at a place, opened. -/
theorem net_mail (h : Own S w0 w (SP.net g nodes cut last L :: R)) {i : Nat} {m : M} (hm : L[i]? = some m) :
    ∃ ga off c Ad cd ds, cut.length = 64 ∧ ds.length = L.length ∧ ds[i]? = some (.slice Ad m.dat.length cd) ∧ w.cell? ⟨g, 65, none⟩ = some (.slice (some ⟨ga, off, none⟩) L.length c) ∧
      w.cell? ⟨ga, off + i * 5, none⟩ = some (.int .i64 m.num) ∧ w.cell? ⟨ga, off + i * 5 + 1, none⟩ = some (.int .i64 m.frm) ∧ w.cell? ⟨ga, off + i * 5 + 2, none⟩ = some (.int .i64 m.to) ∧ w.cell? ⟨ga, off + i * 5 + 3, none⟩ = some (.slice Ad m.dat.length cd) ∧ w.cell? ⟨ga, off + i * 5 + 4, none⟩ = some (.bool m.sp) ∧
      m.dat.length ≤ cd ∧ cd ≤ maxLen ∧
      Own S w0 w (SP.blk g 57 (netList nodes cut (.slice (some ⟨ga, off, none⟩) L.length c) last).toArray :: SP.row 34 5 (.slice (some ⟨ga, off, none⟩) L.length c) (mrow L ds) :: SP.stars (mdata L ds) :: R) := by
  have hi : i < L.length := (List.getElem?_eq_some_iff.1 hm).1
  obtain ⟨v, hcut, h1⟩ := h.net_open
  obtain ⟨A, c, ds, rfl, hds, -, -, h2⟩ := h1.swap.mails_open
  obtain ⟨d, hd⟩ : ∃ d, ds[i]? = some d := ⟨_, List.getElem?_eq_getElem (by omega)⟩
  obtain ⟨Ad, cd, rfl, hc1, hc2⟩ := SP.row_shape (n := m.dat.length) (by decide) ((h2.swap).focus i (mdata_get hm hd)).head (by rw [bts_length, Nat.mul_one])
  obtain ⟨ga, off, rfl, k0, -⟩ := h2.cell (mrow_get (j := 0) hm hd (by omega))
  obtain ⟨_, _, e1, k1, -⟩ := h2.cell (mrow_get (j := 1) hm hd (by omega)); cases e1
  obtain ⟨_, _, e1, k2, -⟩ := h2.cell (mrow_get (j := 2) hm hd (by omega)); cases e1
  obtain ⟨_, _, e1, k3, -⟩ := h2.cell (mrow_get (j := 3) hm hd (by omega)); cases e1
  obtain ⟨_, _, e1, k4, -⟩ := h2.cell (mrow_get (j := 4) hm hd (by omega)); cases e1
  simp only [mcells, List.getElem?_cons_zero, List.getElem?_cons_succ, ← Nat.add_assoc, Nat.add_zero] at k0 k1 k2 k3 k4
  have c65 := ((h2.pick (L := [_, _, _]) [2, 0, 1]).blk_cell 65).trans (netList_row hcut)
  exact ⟨ga, off, c, Ad, cd, ds, hcut, hds, hd, c65, k0, k1, k2, k3, k4, hc1, hc2, h2.pick (L := [_, _, _]) [2, 0, 1]⟩

set_option maxHeartbeats 800000 in
theorem copy_no (h : Own S w0 w (SP.net g nodes cut last L :: R)) (i : Int) (hi : ¬ (0 ≤ i ∧ i < (L.length : Int))) :
    Calls Try.prog 22 #[.pointer (some ⟨g, 0, none⟩), .int .i64 i] w fun e w' => e = .returned (.bool false) ∧ Own S w0 w' (SP.net g nodes cut last L :: R) := by
  have HT := Lib.hid (there_own h i)
  rw [show thereB i L.length = false from decide_eq_false hi] at HT
  have H := Lib.hid h
  clear h hi
  go_enter Try.func22, Try.ntmps22
  go_wp2_with fail
  refine (HT.out).mono ?_
  rintro e w1 ⟨rfl, rfl⟩
  go_wp2
  go_ret
  exact ⟨rfl, H.out⟩

set_option maxHeartbeats 800000 in
theorem copy_yes (hl1 : 0 ≤ last) (hl2 : last ≤ 1000000000) (hL : L.length ≤ 1000000) (h : Own S w0 w (SP.net g nodes cut last L :: R)) (i : Nat) (m : M) (hm : L[i]? = some m) (hdl : m.dat.length ≤ 140737488351232) :
    Calls Try.prog 22 #[.pointer (some ⟨g, 0, none⟩), .int .i64 i] w fun e w' => e = .returned (.bool (decide (L.length < 2000))) ∧ Own S w0 w' (SP.net g nodes cut (addLast (decide (L.length < 2000)) last) (addRow (decide (L.length < 2000)) last L m.frm m.to m.dat m.sp) :: R) := by
  have hi : i < L.length := (List.getElem?_eq_some_iff.1 hm).1
  have HT := Lib.hid (there_own h (i : Int))
  rw [show thereB i L.length = true from decide_eq_true (by omega)] at HT
  obtain ⟨ga, off, c, Ad, cd, ds, hcut, hds, hd, c65, k0, k1, k2, k3, k4, -, -, h2⟩ := net_mail h hm
  have HA := Lib.hid (add_open (cb := cd) (frm := m.frm) (to := m.to) (sp := m.sp) (num := m.num) hl1 hl2 hdl hcut hds h2 (reads_mdata hm hd))
  obtain ⟨dl, hd1⟩ : ∃ dl, m.dat.length = dl := ⟨_, rfl⟩
  have h34 := Try.info34
  have hi' : (i : Int) < (L.length : Int) := by omega
  clear h h2 hm hd hds hcut
  rw [hd1] at HA k3
  clear hd1 hdl
  obtain ⟨n, hn⟩ : ∃ n, L.length = n := ⟨_, rfl⟩
  have HN := Lib.hid hn
  rw [hn] at c65 hi' hi hL
  clear hn
  go_enter Try.func22, Try.ntmps22
  go_wp2_with fail
  refine (HT.out).mono ?_
  rintro e w1 ⟨rfl, rfl⟩
  go_wp2_with fail
  refine (HA.out).mono ?_
  rintro e w2 ⟨rfl, o2⟩
  have O2 := Lib.hid o2
  clear o2
  go_wp2
  go_ret
  exact ⟨rfl, O2.out⟩
end
end Go.Proofs.Ytlhinhcbbknhcaa
