/-
  List: the mails, copied.
  Conditions: none beyond each theorem's own.
-/
import Derived.Test.YtlhinhcbbknhcaaCopy
import Derived.Test.YtlhinhcbbknhcaaAppOwn
import Derived.Deep.Cut
import Derived.WalkSpells
namespace Go.Proofs.Ytlhinhcbbknhcaa
set_option linter.unusedVariables false
set_option linter.unusedSimpArgs false
open Go.RowKit

section
variable {S : Nat → Prop} {w0 w : World} {R : List SP} {g : Nat} {nodes last : Int} {cut : List Bool} {L : List M}

set_option maxRecDepth 100000 in
set_option maxHeartbeats 3200000 in
theorem list_own (hL : L.length ≤ 1000000) (hdl : ∀ m, m ∈ L → m.dat.length ≤ 140737488351232) (h : Own S w0 w (SP.net g nodes cut last L :: R)) :
    Calls Try.prog 18 #[.pointer (some ⟨g, 0, none⟩)] w fun e w' => ∃ A' c', e = .returned (.slice A' L.length c') ∧ Own S w0 w' (SP.mails 34 (.slice A' L.length c') L :: SP.net g nodes cut last L :: R) := by
  obtain ⟨v, hcut, h1⟩ := h.net_open
  obtain ⟨A, c, ds, rfl, hds, -, -, h2⟩ := h1.swap.mails_open
  have c65 := ((h2.pick (L := [_, _, _]) [2]).blk_cell 65).trans (netList_row hcut)
  have H2 := Lib.hid (And.intro (h2.pick (L := [_, _, _]) [2, 0, 1]) (And.intro hcut (And.intro hds hdl)))
  clear h h1 h2 hcut hds hdl
  go_enter Try.func18, Try.ntmps18
  go_wp2
  go_loopw [3, 11] (fun ta tb wr => ∃ (i : Nat) (Ao : Option Addr) (co : Nat), i ≤ L.length ∧ ta = .slice Ao i co ∧ tb = .int .i64 i ∧ Own S w0 wr (SP.mails 34 (.slice Ao i co) (L.take i) :: SP.blk g 57 (netList nodes cut (.slice A L.length c) last).toArray :: SP.row 34 5 (.slice A L.length c) (mrow L ds) :: SP.stars (mdata L ds) :: R)) (fun _ tb _ => L.length - (intOf tb).toNat)
  case atStart => exact ⟨0, none, 0, Nat.zero_le _, rfl, rfl, H2.out.1.mails_nil 34⟩
  case round =>
    obtain ⟨i, Ao, co, hi, rfl, rfl, hown⟩ := hrel
    obtain ⟨hcut, hds, hdl⟩ := H2.out.2
    by_cases hin : i < L.length
    · obtain ⟨m, hm⟩ : ∃ m, L[i]? = some m := ⟨_, List.getElem?_eq_getElem hin⟩
      obtain ⟨d, hd⟩ : ∃ d, ds[i]? = some d := ⟨_, List.getElem?_eq_getElem (by omega)⟩
      have hA := hown.pick (L := [_, _, _, _]) [2, 3, 1, 0]
      obtain ⟨Ad, cd, rfl, -, -⟩ := SP.row_shape (n := m.dat.length) (by decide) ((hA.swap).focus i (mdata_get hm hd)).head (by rw [bts_length, Nat.mul_one])
      obtain ⟨ga, off, rfl, k0, -⟩ := hA.cell (mrow_get (j := 0) hm hd (by omega))
      obtain ⟨_, _, e1, k1, -⟩ := hA.cell (mrow_get (j := 1) hm hd (by omega)); cases e1
      obtain ⟨_, _, e1, k2, -⟩ := hA.cell (mrow_get (j := 2) hm hd (by omega)); cases e1
      obtain ⟨_, _, e1, k3, -⟩ := hA.cell (mrow_get (j := 3) hm hd (by omega)); cases e1
      obtain ⟨_, _, e1, k4, -⟩ := hA.cell (mrow_get (j := 4) hm hd (by omega)); cases e1
      simp only [mcells, List.getElem?_cons_zero, List.getElem?_cons_succ, ← Nat.add_assoc, Nat.add_zero] at k0 k1 k2 k3 k4
      obtain ⟨q, hq⟩ : ∃ q, wr.heap.size = q := ⟨_, rfl⟩
      have HQ := Lib.hid hq
      have o1 := hown.alloc #[.int .i64 m.num, .int .i64 m.frm, .int .i64 m.to, .slice Ad m.dat.length cd, .bool m.sp] 34
      rw [hq] at o1
      have HC := Lib.hid (clone_own (cb := cd) o1 (Reads.more (reads_mdata hm hd) [_, _, _, _]) (hdl m (List.mem_of_getElem? hm)))
      obtain ⟨dl, hd1⟩ : ∃ dl, m.dat.length = dl := ⟨_, rfl⟩
      have HDL := Lib.hid hd1
      have i1 : (i : Int) < (L.length : Int) := by omega
      have i0 : (0 : Int) ≤ (i : Int) := by omega
      have HM := Lib.hid (And.intro hm hd)
      rw [hd1] at HC k3
      clear hown hA o1 hm hd hcut hds hdl hd1 hq
      go_wp2_with fail
      refine (HC.out).mono ?_
      rintro e w3 ⟨A1, c1, rfl, own1⟩
      have cq3 := (own1.pick (L := [_, _]) [1]).blk_cell 3
      have fq3 := (own1.pick (L := [_, _]) [1]).blk_free 3
      simp only [List.getElem?_toArray, List.getElem?_cons_zero, List.getElem?_cons_succ] at cq3
      have o2 := (own1.pick (L := [_, _, _]) [1, 2, 0]).blk_set 3 (.slice A1 dl c1)
      simp only [HQ.out]
      have O2 := Lib.hid o2
      clear own1 HC k0 k1 k2 k3 k4 o2
      obtain ⟨Ao', co', ds', hv, hds', -, -, o3⟩ := (O2.out.pick (L := [_, _, _]) [1, 0, 2]).mails_open
      have hlt : (L.take i).length = i := by rw [List.length_take]; omega
      rw [hlt] at hv o3
      cases hv
      have O3 := Lib.hid o3
      have hrl := Lib.hid (mrow_length hds')
      have d0 := O2.out.blk_cell 0
      have d1 := O2.out.blk_cell 1
      have d2 := O2.out.blk_cell 2
      have d3 := O2.out.blk_cell 3
      have d4 := O2.out.blk_cell 4
      simp only [List.getElem?_toArray, List.setIfInBounds_toArray, List.set_cons_zero, List.set_cons_succ, List.getElem?_cons_zero, List.getElem?_cons_succ] at d0 d1 d2 d3 d4
      have HDS := Lib.hid (And.intro hds' hlt)
      clear o3 hds' hlt O2
      go_upto_region 6 with (fail)
      obtain ⟨W3, hW3⟩ : ∃ W3, w3.setCell ⟨q, 3, none⟩ (.slice A1 dl c1) = W3 := ⟨_, rfl⟩
      rw [hW3] at O3 d0 d1 d2 d3 d4
      rw [hW3]
      clear hW3 cq3 fq3
      go_wp2_with (at_builtin; refine wpList_append_own rfl (.tmp 19) (.tmp 21) 43 rfl 34 mailZero 5 56 Try.underlying43 Try.info34 mailZero_size (by decide) rfl (by rw [hrl.out, HDS.out.2]) O3.out ((Below.refl _ _).alloc (Nat.le_refl _) _) _ 1 1 _ rfl ?_ (rd_list _ _ _) ?_ (by unfold maxLen; omega) (by omega) ?_)
      · simp [Value.oneCell']
      rintro A5 c5 w5 o5
      have O5 := Lib.hid o5
      clear o5 O3 d0 d1 d2 d3 d4
      go_wp2
      go_roundw
      case rel =>
        refine ⟨i + 1, A5, c5, by omega, rfl, by go_num, ?_⟩
        obtain ⟨hds', hlt⟩ := HDS.out
        have htk : L.take (i + 1) = L.take i ++ [m] := by rw [List.take_add_one, HM.out.1]; rfl
        have o6 := ((O5.out.pick (L := [_, _, _, _, _]) [1, 3, 0, 4]).snoc.pick (L := [_, _, _]) [1, 0, 2])
        have hd : (ds' ++ [Value.slice A1 dl c1]).length = (L.take i ++ [m]).length := by rw [List.length_append, List.length_append, hds']; rfl
        have hM : mrow (L.take i ++ [m]) (ds' ++ [Value.slice A1 dl c1]) = mrow (L.take i) ds' ++ mcells m (.slice A1 dl c1) := by rw [mrow_append hds']; rfl
        have hD : mdata (L.take i ++ [m]) (ds' ++ [Value.slice A1 dl c1]) = mdata (L.take i) ds' ++ [SP.row 5 1 (.slice A1 dl c1) (bts m.dat)] := by rw [mdata_append hds']; rfl
        rw [htk]
        refine Own.mails_shut hd ?_
        rw [hM, hD]
        exact o6
      case measure => simp [intOf]; omega
    · have i1 : ¬ (i : Int) < (L.length : Int) := by omega
      obtain rfl : i = L.length := by omega
      rw [List.take_length] at hown
      have HF := Lib.hid hown
      clear hown hcut hds hdl
      go_wp2
      go_ret
      refine ⟨Ao, co, rfl, ?_⟩
      have o := HF.out.pick (L := [_, _, _, _]) [1, 2, 3, 0]
      exact ((Own.net_shut H2.out.2.1 (Own.mails_shut H2.out.2.2.1 (o.pick (L := [_, _, _]) [1, 2, 0])).swap)).swap
end
end Go.Proofs.Ytlhinhcbbknhcaa
