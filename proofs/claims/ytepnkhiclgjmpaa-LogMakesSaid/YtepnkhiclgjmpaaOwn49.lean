/-
  own: entries in memory of their own.
  Conditions: none beyond each theorem's own.
-/
import Derived.Test.YtepnkhiclgjmpaaLog2
import Derived.Test.YtepnkhiclgjmpaaAppOwn
import Derived.StillTailTactics
namespace Go.Proofs.Ytepnkhiclgjmpaa
set_option linter.unusedVariables false
set_option linter.unusedSimpArgs false
open Go.RowKit

def entZero : Value := .agg #[.int .i64 0, .int .i64 0, .int .i64 0, .slice none 0 0]
theorem Try.info26 : (Try.prog.info? 26).map (fun i => (i.zero, i.size, i.bytes)) = some (some entZero, 4, 48) := by kernel_rfl
theorem entZero_size : entZero.cells.size = 4 := rfl

section
variable {S : Nat → Prop} {w0 w : World} {R : List SP}
/-- 'append([]byte(nil), b...)' over what is owned. -/
theorem Own.bnil (h : Own S w0 w R) : Own S w0 w (SP.row 5 1 (.slice none 0 0) (bts []) :: R) := h.add (SP.row_nil _ _ _ _)
theorem Own.made4 (h : Own S w0 w R) (n : Nat) (hn : n ≤ maxLen) (cs : Array Value) (hc : cs.size = n * 4) : Own S w0 (w.alloc (.cells cs 26)) (SP.row 26 4 (.slice (some ⟨w.heap.size, 0, none⟩) 0 n) [] :: R) := by
  refine h.gain ((Below.refl _ _).alloc (Nat.le_refl _) _) ?_
  have h1 := SP.row_new w 26 4 n cs hc hn (S := fun k => w.heap.size ≤ k ∧ k < (w.alloc (.cells cs 26)).heap.size) ⟨Nat.le_refl _, by simp⟩
  have h2 := SP.row_take h1 (k := 0) (Nat.zero_le _)
  simpa using h2

theorem Own.ents_of_row {v : Value} (h : Own S w0 w (SP.row 26 4 v [] :: R)) : Own S w0 w (SP.ents 26 v [] :: R) :=
  Own.ents_shut (ds := []) rfl (((h.add (B := SP.stars (mdata [] [])) trivial)).swap)

set_option maxRecDepth 100000 in
set_option maxHeartbeats 3200000 in
theorem own_own {A : Option Addr} {c : Nat} {es : List E} (hn : es.length ≤ 1000000) (hdl : ∀ m, m ∈ es → m.dat.length ≤ 140737488351232) (h : Own S w0 w R) (hr : EReads S w0 R A es) :
    Calls Try.prog 49 #[.slice A es.length c] w fun e w' => ∃ A' c', e = .returned (.slice A' es.length c') ∧ Own S w0 w' (SP.ents 26 (.slice A' es.length c') es :: R) := by
  obtain ⟨i0, hi0, hz0, hz1, hz2⟩ := info_parts Try.info26
  have hmk := fun W => run_make (P := Try.prog) W 23 26 i0 entZero Try.underlying23 hi0 hz0 .i64 .i64 0 es.length (by omega) (by omega) (by rw [hz2]; omega) (by omega)
  simp only [Int.toNat_natCast, Int.toNat_zero] at hmk
  rw [hz1] at hmk
  have hmc : (madeCells entZero.cells (es.length * 4)).size = es.length * 4 := by simp [madeCells]
  have O1 := h.made4 es.length (by unfold maxLen; omega) (madeCells entZero.cells (es.length * 4)) hmc
  obtain ⟨mc, hmc2⟩ : ∃ mc, madeCells entZero.cells (es.length * 4) = mc := ⟨_, rfl⟩
  rw [hmc2] at O1 hmk
  have O2 := Lib.hid O1.ents_of_row
  have H := Lib.hid (And.intro hr hdl)
  clear O1 hmc hmc2 h hr hdl hz0 hz1 hz2 hi0
  go_enter Try.func49, Try.ntmps49
  go_wp2
  obtain ⟨W1, hW1⟩ : ∃ W1, w.alloc (.cells mc 26) = W1 := ⟨_, rfl⟩
  rw [hW1] at O2 ⊢
  clear hW1 hmk
  go_loopw [3, 11] (fun ta tb wr => ∃ (i : Nat) (Ao : Option Addr) (co : Nat), i ≤ es.length ∧ ta = .slice Ao i co ∧ tb = .int .i64 i ∧ Own S w0 wr (SP.ents 26 (.slice Ao i co) (es.take i) :: R)) (fun _ tb _ => es.length - (intOf tb).toNat)
  case atStart => exact ⟨0, _, _, Nat.zero_le _, rfl, rfl, O2.out⟩
  case round =>
    obtain ⟨i, Ao, co, hi, rfl, rfl, hown⟩ := hrel
    clear O2
    by_cases hin : i < es.length
    · obtain ⟨m, hm⟩ : ∃ m, es[i]? = some m := ⟨_, List.getElem?_eq_getElem hin⟩
      obtain ⟨b, off, Ad, cd, rfl, hbl, k0, k1, k2, k3, -, -, -⟩ := H.out.1 _ [_] hown i m hm
      obtain ⟨q, hq⟩ : ∃ q, wr.heap.size = q := ⟨_, rfl⟩
      have HQ := Lib.hid hq
      have o1 := hown.alloc #[.int .i64 m.term, .int .i64 m.index, .int .i64 m.kind, .slice Ad m.dat.length cd] 26
      rw [hq] at o1
      have hrd : Rd (wr.alloc (.cells #[.int .i64 m.term, .int .i64 m.index, .int .i64 m.kind, .slice Ad m.dat.length cd] 26)) Ad (bts m.dat) := by
        obtain ⟨_, _, Ad', cd', e1, _, _, _, _, k3', _, _, hrd⟩ := H.out.1 _ [_, _] o1 i m hm
        cases e1
        obtain ⟨_, _, Ad2, cd2, e2, _, _, _, _, k32, _, _, hrd2⟩ := H.out.1 _ [_] hown i m hm
        cases e2
        rw [k32] at k3
        cases k3
        exact hrd2.below ((Below.refl _ _).alloc (Nat.le_refl _) _)
      have hdm := H.out.2 m (List.mem_of_getElem? hm)
      obtain ⟨dl, hd1⟩ : ∃ dl, m.dat.length = dl := ⟨_, rfl⟩
      have HDL := Lib.hid hd1
      have i1 : (i : Int) < (es.length : Int) := by omega
      have HM := Lib.hid (And.intro hm (And.intro hrd hdm))
      rw [hd1] at k3 o1 hdm HM
      have O1 := Lib.hid o1.bnil
      clear hown o1 hm hd1 hq hrd
      go_upto_region 5 with (fail)
      obtain ⟨W2, hW2⟩ : ∃ W2, wr.alloc (.cells #[.int .i64 m.term, .int .i64 m.index, .int .i64 m.kind, .slice Ad dl cd] 26) = W2 := ⟨_, rfl⟩
      rw [hW2] at O1 HM
      simp only [hW2, HQ.out]
      clear hW2 k0 k1 k2 k3
      have d3 := (O1.out.swap).blk_cell 3
      have f3 := (O1.out.swap).blk_free 3
      simp only [List.getElem?_toArray, List.getElem?_cons_zero, List.getElem?_cons_succ] at d3
      go_wp2_with (at_builtin; refine wpList_append_own rfl _ (.tmp 16) 24 rfl 5 (.int .u8 0) 1 1 Try.underlying24 Try.info5 rfl (by decide) rfl rfl O1.out (Below.refl _ _) Ad dl cd (bts m.dat) rfl (by rw [bts_length, Nat.mul_one, HDL.out]) HM.out.2.1 bts_one (by unfold maxLen; omega) (by omega) ?_)
      rintro A1 c1 w3 own1
      rw [show bts [] ++ bts m.dat = bts m.dat from rfl] at own1
      have cq3 := (own1.pick (L := [_, _]) [1]).blk_cell 3
      have fq3 := (own1.pick (L := [_, _]) [1]).blk_free 3
      simp only [List.getElem?_toArray, List.getElem?_cons_zero, List.getElem?_cons_succ] at cq3
      have o2 := (own1.pick (L := [_, _, _]) [1, 2, 0]).blk_set 3 (.slice A1 dl c1)
      have O2 := Lib.hid o2
      clear own1 o2 O1 d3 f3
      obtain ⟨Ao', co', ds', hv, hds', -, -, o3⟩ := (O2.out.pick (L := [_, _, _]) [1, 0, 2]).ents_open
      have hlt : (es.take i).length = i := by rw [List.length_take]; omega
      rw [hlt] at hv o3
      cases hv
      have O3 := Lib.hid o3
      have hrl := Lib.hid (mrow_length hds')
      have d0 := O2.out.blk_cell 0
      have d1 := O2.out.blk_cell 1
      have d2 := O2.out.blk_cell 2
      have d3 := O2.out.blk_cell 3
      simp only [List.getElem?_toArray, List.setIfInBounds_toArray, List.set_cons_zero, List.set_cons_succ, List.getElem?_cons_zero, List.getElem?_cons_succ] at d0 d1 d2 d3
      have HDS := Lib.hid (And.intro hds' hlt)
      clear o3 hds' hlt O2
      go_upto_region 6 with (fail)
      obtain ⟨W3, hW3⟩ : ∃ W3, w3.setCell ⟨q, 3, none⟩ (.slice A1 dl c1) = W3 := ⟨_, rfl⟩
      rw [hW3] at O3 d0 d1 d2 d3
      rw [hW3]
      clear hW3 cq3 fq3
      go_wp2_with (at_builtin; refine wpList_append_own rfl (.tmp 19) (.tmp 21) 23 rfl 26 entZero 4 48 Try.underlying23 Try.info26 entZero_size (by decide) rfl (by rw [hrl.out, HDS.out.2]) O3.out ((Below.refl _ _).alloc (Nat.le_refl _) _) _ 1 1 _ rfl ?_ (rd_list _ _ _) ?_ (by unfold maxLen; omega) (by omega) ?_)
      · simp [Value.oneCell']
      rintro A5 c5 w5 o5
      have O5 := Lib.hid o5
      clear o5 O3 d0 d1 d2 d3
      go_wp2
      go_roundw
      case rel =>
        refine ⟨i + 1, A5, c5, by omega, rfl, by go_num, ?_⟩
        obtain ⟨hds', hlt⟩ := HDS.out
        have htk : es.take (i + 1) = es.take i ++ [m] := by rw [List.take_add_one, HM.out.1]; rfl
        have o6 := ((O5.out.pick (L := [_, _, _, _]) [1, 3, 0]).snoc.pick (L := [_, _]) [1, 0])
        have hd : (ds' ++ [Value.slice A1 dl c1]).length = (es.take i ++ [m]).length := by rw [List.length_append, List.length_append, hds']; rfl
        have hM : mrow (es.take i ++ [m]) (ds' ++ [Value.slice A1 dl c1]) = mrow (es.take i) ds' ++ mcells m (.slice A1 dl c1) := by rw [mrow_append hds']; rfl
        have hD : mdata (es.take i ++ [m]) (ds' ++ [Value.slice A1 dl c1]) = mdata (es.take i) ds' ++ [SP.row 5 1 (.slice A1 dl c1) (bts m.dat)] := by rw [mdata_append hds']; rfl
        rw [htk]
        refine Own.ents_shut hd ?_
        rw [hM, hD]
        exact o6
      case measure => simp [intOf]; omega
    · have i1 : ¬ (i : Int) < (es.length : Int) := by omega
      obtain rfl : i = es.length := by omega
      rw [List.take_length] at hown
      have HF := Lib.hid hown
      clear hown
      go_wp2
      go_ret
      exact ⟨Ao, co, rfl, HF.out⟩
end
end Go.Proofs.Ytepnkhiclgjmpaa
