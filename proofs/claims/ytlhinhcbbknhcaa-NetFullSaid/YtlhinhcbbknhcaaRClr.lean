/-
  The document's network: Clear.
  Conditions: none beyond each theorem's own.
-/
import Derived.Test.YtlhinhcbbknhcaaRTk
import Derived.Test.YtlhinhcbbknhcaaClr
import Derived.Test.YtlhinhcbbknhcaaAppOwn
namespace Go.Proofs.Ytlhinhcbbknhcaa
set_option linter.unusedVariables false
set_option linter.unusedSimpArgs false
open Go.RowKit

section
variable {S : Nat → Prop} {w0 w : World} {R : List SP} {g : Nat} {nodes many : Int} {L : List M} {C : List (Int × Int)}

set_option maxRecDepth 100000 in
set_option maxHeartbeats 3200000 in
theorem rclear_own (hL : L.length ≤ 1000000) (h : Own S w0 w (SP.rnet g nodes many L C :: R)) (t : Int) :
    Calls Try.prog 40 #[.pointer (some ⟨g, 0, none⟩), .int .i64 t] w fun e w' => e = .returned (.int .i64 ((L.length : Int) - ((keepM t L).length : Int))) ∧ Own S w0 w' (SP.rnet g nodes many (keepM t L) C :: R) := by
  obtain ⟨A, c, B1, k, -, -, h1⟩ := h.rnet_open
  obtain ⟨A', c', ds, z, hds, hc1, hc2, h2⟩ := (h1.pick (L := [_, _]) [1, 0]).mails_open
  cases z
  obtain ⟨n, hn⟩ : ∃ n, L.length = n := ⟨_, rfl⟩
  have HZ := Lib.hid (And.intro hds hn)
  rw [hn] at hc1 h2 hL ⊢
  have H := Lib.hid (show Own S w0 w (SP.row 60 5 (.slice none 0 0) (mrow (keepM t (L.take 0)) (keepD t (L.take 0) (ds.take 0))) :: SP.blk g 49 (rnetA nodes (.slice A n c) many (.slice B1 C.length k)) :: SP.row 60 5 (.slice A n c) (mrow L ds) :: SP.stars (mdata L ds) :: SP.row 66 2 (.slice B1 C.length k) (prow C) :: R) from (h2.pick (L := [_, _, _, _]) [2, 0, 1, 3]).add (SP.row_nil _ _ _ _))
  clear h h1 h2 hds hn
  go_enter Try.func40, Try.ntmps40
  go_wp2
  go_loopw [5, 6, 7] (fun ta tb ti wr => ∃ (i kk z : Nat) (Ao : Option Addr) (co : Nat), i ≤ n ∧ ta = .slice Ao kk co ∧ tb = .int .i64 z ∧ ti = .int .i64 i ∧ Hid (kk = (keepM t (L.take i)).length ∧ z + kk = i) ∧ Own S w0 wr (SP.row 60 5 (.slice Ao kk co) (mrow (keepM t (L.take i)) (keepD t (L.take i) (ds.take i))) :: SP.blk g 49 (rnetA nodes (.slice A n c) many (.slice B1 C.length k)) :: SP.row 60 5 (.slice A n c) (mrow L ds) :: SP.stars (mdata L ds) :: SP.row 66 2 (.slice B1 C.length k) (prow C) :: R)) (fun _ _ ti _ => n - (intOf ti).toNat)
  case atStart => exact ⟨0, 0, 0, none, 0, Nat.zero_le _, rfl, rfl, rfl, ⟨rfl, rfl⟩, H.out⟩
  case round =>
    obtain ⟨i, kk, z, Ao, co, hi, rfl, rfl, rfl, hk, hown⟩ := hrel
    clear H
    have b1 := (hown.pick (L := [_, _]) [1]).blk_cell 1
    have fb1 := (hown.pick (L := [_, _]) [1]).blk_free 1
    simp only [rnetA, List.getElem?_toArray, List.getElem?_cons_zero, List.getElem?_cons_succ] at b1
    have hz : z ≤ i := by have := hk.out.2; omega
    have hkz : kk ≤ i := by have := hk.out.2; omega
    by_cases hin : i < n
    · have i1 : (i : Int) < (n : Int) := by omega
      have hL1 := HZ.out.2
      have hds := HZ.out.1
      obtain ⟨m, hm⟩ : ∃ m, L[i]? = some m := ⟨_, List.getElem?_eq_getElem (by omega)⟩
      obtain ⟨d, hd⟩ : ∃ d, ds[i]? = some d := ⟨_, List.getElem?_eq_getElem (by omega)⟩
      have o2 := hown.pick (L := [_, _, _]) [2]
      obtain ⟨Ad, cd, rfl, -, -⟩ := SP.row_shape (n := m.dat.length) (by decide) (((hown.pick (L := [_, _, _, _]) [3])).focus i (mdata_get hm hd)).head (by rw [bts_length, Nat.mul_one])
      obtain ⟨ga, off, rfl, k0, -⟩ := o2.cell (mrow_get (j := 0) hm hd (by omega))
      obtain ⟨_, _, e1, k1, -⟩ := o2.cell (mrow_get (j := 1) hm hd (by omega)); cases e1
      obtain ⟨_, _, e1, k2, -⟩ := o2.cell (mrow_get (j := 2) hm hd (by omega)); cases e1
      obtain ⟨_, _, e1, k3, -⟩ := o2.cell (mrow_get (j := 3) hm hd (by omega)); cases e1
      obtain ⟨_, _, e1, k4, -⟩ := o2.cell (mrow_get (j := 4) hm hd (by omega)); cases e1
      simp only [mcells, List.getElem?_cons_zero, List.getElem?_cons_succ, ← Nat.add_assoc, Nat.add_zero] at k0 k1 k2 k3 k4
      have lr := o2.row_lt
      have hlt : (ds.take i).length = (L.take i).length := by rw [List.length_take, List.length_take, hds]
      have HT := Lib.hid (show L.take (i + 1) = L.take i ++ [m] ∧ ds.take (i + 1) = ds.take i ++ [.slice Ad m.dat.length cd] ∧ (ds.take i).length = (L.take i).length from ⟨by rw [List.take_add_one, hm]; rfl, by rw [List.take_add_one, hd]; rfl, hlt⟩)
      have hrl := Lib.hid (show (mrow (keepM t (L.take i)) (keepD t (L.take i) (ds.take i))).length = kk * 5 by rw [mrow_length (keepD_length t _ _ hlt), hk.out.1])
      have O1 := Lib.hid hown
      clear hown hm hd o2 hL1 hds hlt
      by_cases hmt : (m.to == t) = true
      · have HM := Lib.hid hmt
        have hmt2 : m.to = t := by simpa using hmt
        go_wp2
        go_roundw
        case rel =>
          refine ⟨i + 1, kk, z + 1, Ao, co, by omega, rfl, by go_num, by go_num, ?_, ?_⟩
          · have := hk.out
            exact ⟨by rw [HT.out.1, keepM_snoc, if_pos HM.out, List.append_nil]; exact this.1, by omega⟩
          · rw [HT.out.1, HT.out.2.1, keepM_snoc, keepD_snoc _ _ _ _ _ HT.out.2.2, if_pos HM.out, if_pos HM.out, List.append_nil, List.append_nil]
            exact O1.out
        case measure => simp [intOf]; omega
      · have HM := Lib.hid hmt
        have hmt2 : ¬ m.to = t := by simpa using hmt
        go_wp2_with (at_builtin; refine wpList_append_own rfl (.tmp 29) (.tmp 37) 46 rfl 60 mailZero 5 56 Try.underlying46 Try.info60 mailZero_size (by decide) rfl hrl.out O1.out ((Below.refl _ _).alloc (Nat.le_refl _) _) _ 1 1 _ rfl ?_ (rd_list _ _ _) ?_ (by unfold maxLen; omega) (by omega) ?_)
        · simp [Value.oneCell']
        rintro A5 c5 w5 o5
        have O5 := Lib.hid o5
        clear o5 O1 k0 k1 k2 k3 k4 b1 fb1
        go_wp2
        go_roundw
        case rel =>
          refine ⟨i + 1, kk + 1, z, A5, c5, by omega, rfl, rfl, by go_num, ?_, ?_⟩
          · have := hk.out
            exact ⟨by rw [HT.out.1, keepM_snoc, if_neg HM.out, List.length_append, ← this.1]; rfl, by omega⟩
          · rw [HT.out.1, HT.out.2.1, keepM_snoc, keepD_snoc _ _ _ _ _ HT.out.2.2, if_neg HM.out, if_neg HM.out, mrow_append (keepD_length t _ _ HT.out.2.2)]
            exact O5.out
        case measure => simp [intOf]; omega
    · have i1 : ¬ (i : Int) < (n : Int) := by omega
      obtain rfl : i = n := by omega
      have hL1 := HZ.out.2
      have hds := HZ.out.1
      rw [show L.take i = L by rw [← hL1, List.take_length], show ds.take i = ds by rw [← hL1, ← hds, List.take_length]] at hown
      rw [show L.take i = L by rw [← hL1, List.take_length]] at hk
      have hkk := hk.out.1
      have HK := Lib.hid hkk
      have HZI := Lib.hid (show (z : Int) = (i : Int) - ((keepM t L).length : Int) by rw [← hkk]; have := hk.out.2; omega)
      have o3 := (hown.pick (L := [_, _, _, _, _]) [1, 0, 3, 4]).blk_set 1 (.slice Ao kk co)
      have O3 := Lib.hid o3
      clear hown hk hkk o3 hL1 hds
      go_wp2
      go_ret
      refine ⟨by rw [HZI.out]; rfl, ?_⟩
      have hk := HK.out
      subst hk
      refine Own.rnet_shut (v := .slice Ao (keepM t L).length co) (u := .slice B1 C.length k) ?_
      have o4 := (O3.out.pick (L := [_, _, _]) [2, 1, 0]).imp fun T hT => SP.stars_sub (keep_sub t L ds) hT
      exact Own.swap (Own.mails_shut (keepD_length t L ds HZ.out.1) (o4.pick (L := [_, _, _]) [1, 0, 2]))
end
end Go.Proofs.Ytlhinhcbbknhcaa
