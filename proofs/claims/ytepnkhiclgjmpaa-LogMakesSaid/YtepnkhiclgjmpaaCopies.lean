/-
  Entry, Entries: copies.
  Conditions: none beyond each theorem's own.
-/
import Derived.Test.YtepnkhiclgjmpaaSameE
namespace Go.Proofs.Ytepnkhiclgjmpaa
set_option linter.unusedVariables false
set_option linter.unusedSimpArgs false
open Go.RowKit

section
variable {S : Nat → Prop} {w0 w : World} {R : List SP}
set_option maxHeartbeats 1600000 in
theorem bytes_rd {B : Option Addr} {cb : Nat} {b : List UInt8} (h : Own S w0 w R) (hb : Rd w B (bts b)) (hbl : b.length ≤ 140737488351232) :
    Calls Try.prog 53 #[.slice B b.length cb] w fun e w' => ∃ A' c', e = .returned (.slice A' b.length c') ∧ Own S w0 w' (SP.row 5 1 (.slice A' b.length c') (bts b) :: R) := by
  have he := h.empty 5
  obtain ⟨T, hr, -, hback⟩ := he.open
  have G := Lib.hid (And.intro hr (And.intro hback (hb.below ((Below.refl _ _).alloc (Nat.le_refl _) (.cells #[] 5)))))
  clear h hb he hr hback
  go_enter Try.func53, Try.ntmps53
  go_wp2_with (at_builtin; refine wpList_append_row rfl (.tmp 3) (.tmp 4) 24 rfl 5 (.int .u8 0) 1 1 Try.underlying24 Try.info5 rfl (by decide) rfl rfl G.out.1 B b.length cb (bts b) rfl (by rw [bts_length, Nat.mul_one]) G.out.2.2 bts_one (by unfold maxLen; omega) (by omega) ?_)
  rintro A3 c3 w3 - hk3 hr3
  have O3 := Lib.hid (G.out.2.1 _ _ hk3 hr3)
  clear hk3 hr3
  go_wp2
  go_ret
  refine ⟨A3, c3, ?_, ?_⟩
  · simp
  · have := O3.out
    simpa using this
set_option maxRecDepth 100000 in
set_option maxHeartbeats 3200000 in
theorem entry_own {a : E} {Ad : Option Addr} {ca : Nat} (h : Own S w0 w R) (hx : Rd w Ad (bts a.dat)) (hl : a.dat.length ≤ 140737488351232) :
    Calls Try.prog 61 #[.agg #[.int .i64 a.term, .int .i64 a.index, .int .i64 a.kind, .slice Ad a.dat.length ca]] w fun e w' => ∃ A' c', e = .returned (.agg #[.int .i64 a.term, .int .i64 a.index, .int .i64 a.kind, .slice A' a.dat.length c']) ∧ Own S w0 w' (SP.row 5 1 (.slice A' a.dat.length c') (bts a.dat) :: R) := by
  obtain ⟨at_, ai, ak, ad⟩ := a
  simp only at hx hl ⊢
  obtain ⟨la, hla⟩ : ∃ la, ad.length = la := ⟨_, rfl⟩
  have o2 := (h.alloc #[.int .i64 at_, .int .i64 ai, .int .i64 ak, .slice Ad la ca] 26).alloc #[.int .i64 0, .int .i64 0, .int .i64 0, .slice none 0 0] 26
  rw [World.size_alloc] at o2
  obtain ⟨q, hq⟩ : ∃ q, w.heap.size = q := ⟨_, rfl⟩
  have HQ := Lib.hid hq
  rw [hq] at o2
  rw [hla]
  have hx2 := hx.below (((Below.refl w.heap.size w).alloc (Nat.le_refl _) (.cells #[.int .i64 at_, .int .i64 ai, .int .i64 ak, .slice Ad la ca] 26)).alloc (by rw [World.size_alloc]; omega) (.cells #[.int .i64 0, .int .i64 0, .int .i64 0, .slice none 0 0] 26))
  have HB := Lib.hid (fun n => bytes_rd (cb := ca) (o2.drewN n) hx2 hl)
  rw [hla] at HB
  have O2 := Lib.hid o2
  clear o2 h hx hx2 hl hq hla
  go_enter Try.func61, Try.ntmps61
  go_upto_region 1 with (fail)
  simp only [World.size_alloc, HQ.out]
  obtain ⟨W2, hW2⟩ : ∃ W2, (w.alloc (.cells #[.int .i64 at_, .int .i64 ai, .int .i64 ak, .slice Ad la ca] 26)).alloc (.cells #[.int .i64 0, .int .i64 0, .int .i64 0, .slice none 0 0] 26) = W2 := ⟨_, rfl⟩
  rw [hW2] at HB O2
  simp only [hW2]
  clear hW2
  have k0 := (O2.out.pick (L := [_, _]) [1]).blk_cell 0
  have k1 := (O2.out.pick (L := [_, _]) [1]).blk_cell 1
  have k2 := (O2.out.pick (L := [_, _]) [1]).blk_cell 2
  have k3 := (O2.out.pick (L := [_, _]) [1]).blk_cell 3
  simp only [List.getElem?_toArray, List.getElem?_cons_zero, List.getElem?_cons_succ] at k0 k1 k2 k3
  go_region_held3 (fun W => W.cell? ⟨q, 0, none⟩ = some (.int .i64 at_) ∧ W.cell? ⟨q, 1, none⟩ = some (.int .i64 ai) ∧ W.cell? ⟨q, 2, none⟩ = some (.int .i64 ak) ∧ W.cell? ⟨q, 3, none⟩ = some (.slice Ad la ca))
    (first | go_keep | exact ⟨k0, k1, k2, k3⟩ | exact ⟨m0, m1, m2, m3⟩)
    (first
      | (refine step_call rfl 53 _ _ rfl Try.func53 (by kernel_rfl) (by kernel_rfl) #[.slice Ad la ca] (by simp [Act.eval]) ?_
         refine (HB.out 1).mono ?_
         rintro e w5 ⟨A5, c5, rfl, o5⟩
         refine ⟨_, rfl, ?_⟩
         have m0 := (o5.pick (L := [_, _, _]) [2]).blk_cell 0
         have m1 := (o5.pick (L := [_, _, _]) [2]).blk_cell 1
         have m2 := (o5.pick (L := [_, _, _]) [2]).blk_cell 2
         have m3 := (o5.pick (L := [_, _, _]) [2]).blk_cell 3
         simp only [List.getElem?_toArray, List.getElem?_cons_zero, List.getElem?_cons_succ] at m0 m1 m2 m3
         have n0 := (o5.pick (L := [_, _, _]) [1]).blk_cell 0
         have n1 := (o5.pick (L := [_, _, _]) [1]).blk_cell 1
         have n2 := (o5.pick (L := [_, _, _]) [1]).blk_cell 2
         have n3 := (o5.pick (L := [_, _, _]) [1]).blk_cell 3
         simp only [List.getElem?_toArray, List.getElem?_cons_zero, List.getElem?_cons_succ] at n0 n1 n2 n3
         have f0 := (o5.pick (L := [_, _, _]) [1]).blk_free 0
         have f1 := (o5.pick (L := [_, _, _]) [1]).blk_free 1
         have f2 := (o5.pick (L := [_, _, _]) [1]).blk_free 2
         have f3 := (o5.pick (L := [_, _, _]) [1]).blk_free 3
         have o6 := ((((o5.pick (L := [_, _, _]) [1, 0]).blk_set 0 (.int .i64 at_)).blk_set 1 (.int .i64 ai)).blk_set 2 (.int .i64 ak)).blk_set 3 (.slice A5 la c5)
         have O6 := Lib.hid o6
         clear o5 o6 HB O2))
  obtain ⟨W6, hW6⟩ : ∃ W6, ((((w5.setCell ⟨q + 1, 0, none⟩ (.int .i64 at_)).setCell ⟨q + 1, 1, none⟩ (.int .i64 ai)).setCell ⟨q + 1, 2, none⟩ (.int .i64 ak)).setCell ⟨q + 1, 3, none⟩ (.slice A5 la c5)) = W6 := ⟨_, rfl⟩
  rw [hW6] at O6
  simp only [hW6]
  clear hW6 k0 k1 k2 k3 m0 m1 m2 m3 n0 n1 n2 n3 f0 f1 f2 f3
  have d0 := O6.out.blk_cell 0
  have d1 := O6.out.blk_cell 1
  have d2 := O6.out.blk_cell 2
  have d3 := O6.out.blk_cell 3
  simp only [List.getElem?_toArray, List.setIfInBounds_toArray, List.set_cons_zero, List.set_cons_succ, List.getElem?_cons_zero, List.getElem?_cons_succ] at d0 d1 d2 d3
  have O7 := Lib.hid (O6.out.pick (L := [_, _]) [1])
  clear O6
  go_wp2
  refine bodyPost_ret (v := .agg #[.int .i64 at_, .int .i64 ai, .int .i64 ak, .slice A5 la c5]) ?_ rfl ⟨A5, c5, rfl, O7.out⟩
  simp [results, go_sem, Try.results61, d0, d1, d2, d3]

set_option maxRecDepth 100000 in
set_option maxHeartbeats 3200000 in
theorem copies_own {A : Option Addr} {c : Nat} {es : List E} (hn : es.length ≤ 1000000) (hdl : ∀ m, m ∈ es → m.dat.length ≤ 140737488351232) (h : Own S w0 w R) (hr : EReads S w0 R A es) :
    Calls Try.prog 34 #[.slice A es.length c] w fun e w' => ∃ A' c', e = .returned (.slice A' es.length c') ∧ Own S w0 w' (SP.ents 26 (.slice A' es.length c') es :: R) := by
  have H := Lib.hid (And.intro hr hdl)
  have O1 := Lib.hid (h.ents_nil 26)
  clear h hr hdl
  go_enter Try.func34, Try.ntmps34
  go_wp2
  go_loopw [3, 4] (fun ta tb wr => ∃ (i : Nat) (Ao : Option Addr) (co : Nat), i ≤ es.length ∧ ta = .slice Ao i co ∧ tb = .int .i64 i ∧ Own S w0 wr (SP.ents 26 (.slice Ao i co) (es.take i) :: R)) (fun _ tb _ => es.length - (intOf tb).toNat)
  case atStart => exact ⟨0, none, 0, Nat.zero_le _, rfl, rfl, O1.out⟩
  case round =>
    obtain ⟨i, Ao, co, hi, rfl, rfl, hown⟩ := hrel
    clear O1
    by_cases hin : i < es.length
    · have i1 : (i : Int) < (es.length : Int) := by omega
      obtain ⟨m, hm⟩ : ∃ m, es[i]? = some m := ⟨_, List.getElem?_eq_getElem hin⟩
      obtain ⟨b, off, Ad, cd, rfl, hbl, k0, k1, k2, k3, -, -, hR⟩ := H.out.1 _ [_] hown i m hm
      have HE := Lib.hid (fun n => entry_own (a := m) (ca := cd) (hown.drewN n) hR (H.out.2 m (List.mem_of_getElem? hm)))
      have HM := Lib.hid hm
      obtain ⟨dl, hd1⟩ : ∃ dl, m.dat.length = dl := ⟨_, rfl⟩
      have HDL := Lib.hid hd1
      rw [hd1] at k3 HE
      clear hm hR hown hd1
      go_wp2_with fail
      refine (HE.out 0).mono ?_
      rintro e w4 ⟨A4, c4, rfl, o4⟩
      obtain ⟨Ao', co', ds', hv, hds', -, -, o5⟩ := o4.swap.ents_open
      have hlt : (es.take i).length = i := by rw [List.length_take]; omega
      rw [hlt] at hv o5
      cases hv
      have O5 := Lib.hid o5
      have hrl := Lib.hid (mrow_length hds')
      have HDS := Lib.hid (And.intro hds' hlt)
      clear o4 o5 HE k0 k1 k2 k3 hds' hlt
      go_wp2_with (at_builtin; refine wpList_append_own rfl (.tmp 11) (.tmp 17) 23 rfl 26 entZero 4 48 Try.underlying23 Try.info26 entZero_size (by decide) rfl (by rw [hrl.out, HDS.out.2]) O5.out ((Below.refl _ _).alloc (Nat.le_refl _) _) _ 1 1 _ rfl ?_ (rd_list _ _ _) ?_ (by unfold maxLen; omega) (by omega) ?_)
      · simp [Value.oneCell']
      rintro A5 c5 w5 o5
      have O6 := Lib.hid o5
      clear o5 O5
      go_wp2
      go_roundw
      case rel =>
        refine ⟨i + 1, A5, c5, by omega, rfl, by go_num, ?_⟩
        obtain ⟨hds', hlt⟩ := HDS.out
        have htk : es.take (i + 1) = es.take i ++ [m] := by rw [List.take_add_one, HM.out]; rfl
        have o6 := ((O6.out.pick (L := [_, _, _]) [1, 2, 0]).snoc.pick (L := [_, _]) [1, 0])
        have hd : (ds' ++ [Value.slice A4 dl c4]).length = (es.take i ++ [m]).length := by rw [List.length_append, List.length_append, hds']; rfl
        have hM : mrow (es.take i ++ [m]) (ds' ++ [Value.slice A4 dl c4]) = mrow (es.take i) ds' ++ mcells m (.slice A4 dl c4) := by rw [mrow_append hds']; rfl
        have hD : mdata (es.take i ++ [m]) (ds' ++ [Value.slice A4 dl c4]) = mdata (es.take i) ds' ++ [SP.row 5 1 (.slice A4 dl c4) (bts m.dat)] := by rw [mdata_append hds']; rfl
        rw [htk]
        refine Own.ents_shut hd ?_
        rw [hM, hD]
        exact o6
      case measure => simp [intOf]; omega
    · have i1 : ¬ (i : Int) < (es.length : Int) := by omega
      obtain rfl : i = es.length := by omega
      rw [List.take_length] at hown
      have HF := Lib.hid hown
      clear hown
      go_wp2
      go_ret
      exact ⟨Ao, co, rfl, HF.out⟩
end
end Go.Proofs.Ytepnkhiclgjmpaa
