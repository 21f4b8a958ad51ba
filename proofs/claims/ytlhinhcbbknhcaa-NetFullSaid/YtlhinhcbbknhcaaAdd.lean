/-
  Clone of bytes; add: a mail at the row's end, with a number of its own.
  Conditions: none beyond each theorem's own.
-/
import Derived.Test.YtlhinhcbbknhcaaLink
import Derived.Test.YtlhinhcbbknhcaaRegionNeed
import Derived.WalkSpells
namespace Go.Proofs.Ytlhinhcbbknhcaa
set_option linter.unusedVariables false
set_option linter.unusedSimpArgs false
open Go.RowKit

set_option maxHeartbeats 800000 in
theorem clone_own {S : Nat → Prop} {w0 w : World} {R : List SP} {B : Option Addr} {cb : Nat} {b : List UInt8} (h : Own S w0 w R) (hb : Reads S w0 R B b) (hbl : b.length ≤ 140737488351232) :
    Calls Try.prog 42 #[.slice B b.length cb] w fun e w' => ∃ A' c', e = .returned (.slice A' b.length c') ∧ Own S w0 w' (SP.row 5 1 (.slice A' b.length c') (bts b) :: R) := by
  have heq := fun (W : World) (a : Option Addr) (n c : Nat) => Lib.run_eql_slice_nil (P := Try.prog) W 27 5 a n c 0 0 Try.underlying27
  cases B with
  | none =>
    have hnil : b = [] := by
      cases b with
      | nil => rfl
      | cons u r => obtain ⟨g, off, h, _⟩ := hb w [] h 0 _ (bts_get rfl); cases h
    subst hnil
    have H := Lib.hid h.nil_row
    clear hb h
    simp only [List.length_nil]
    go_enter Try.func42, Try.ntmps42
    go_wp2
    go_ret
    exact ⟨none, 0, rfl, H.out⟩
  | some a =>
    have he := h.empty 5
    obtain ⟨T, hr, -, hback⟩ := he.open
    have G := Lib.hid (And.intro hr (And.intro hback (hb _ [_] he)))
    clear h hb he hr hback
    go_enter Try.func42, Try.ntmps42
    go_wp2_with (at_builtin; refine wpList_append_row rfl (.tmp 5) (.tmp 6) 27 rfl 5 (.int .u8 0) 1 1 Try.underlying27 Try.info5 rfl (by decide) rfl rfl G.out.1 (some a) b.length cb (bts b) rfl (by rw [bts_length, Nat.mul_one]) G.out.2.2 bts_one (by unfold maxLen; omega) (by omega) ?_)
    rintro A3 c3 w3 - hk3 hr3
    have O3 := Lib.hid (show Own S w0 w3 (SP.row 5 1 (.slice A3 b.length c3) (bts b) :: R) by simpa using G.out.2.1 _ _ hk3 hr3)
    clear hk3 hr3
    go_wp2
    go_ret
    exact ⟨A3, c3, by simp, O3.out⟩

set_option maxHeartbeats 4000000 in
set_option maxRecDepth 100000 in
theorem add_yes {S : Nat → Prop} {w0 w : World} {R : List SP} {g n c : Nat} {A B : Option Addr} {cb : Nat} {nodes last num frm to : Int} {cut : List Bool} {L : List M} {ds : List Value} {dat : List UInt8} {sp : Bool} (hcut : cut.length = 64) (hds : ds.length = L.length) (hn : L.length = n) (hfew : n < 2000) (hl1 : 0 ≤ last) (hl2 : last ≤ 1000000000) (hdl : dat.length ≤ 140737488351232)
    (h : Own S w0 w (SP.blk g 57 (netList nodes cut (.slice A n c) last).toArray :: SP.row 34 5 (.slice A n c) (mrow L ds) :: SP.stars (mdata L ds) :: R)) (hb : Reads S w0 (SP.stars (mdata L ds) :: R) B dat) :
    Calls Try.prog 29 #[.pointer (some ⟨g, 0, none⟩), .agg #[.int .i64 num, .int .i64 frm, .int .i64 to, .slice B dat.length cb, .bool sp]] w fun e w' => e = .returned (.bool true) ∧ Own S w0 w' (SP.net g nodes cut (last + 1) (L ++ [⟨last + 1, frm, to, dat, sp⟩]) :: R) := by
  have c65 : w.cell? ⟨g, 65, none⟩ = some (.slice A n c) := (h.blk_cell 65).trans (netList_row hcut)
  have c66 : w.cell? ⟨g, 66, none⟩ = some (.int .i64 last) := (h.blk_cell 66).trans (netList_last hcut)
  have f66 := h.blk_free 66
  have hlt := h.blk_lt
  have hfew' : ¬ (2000 : Int) ≤ (n : Int) := by omega
  obtain ⟨q, hq⟩ : ∃ q, w.heap.size = q := ⟨_, rfl⟩
  have o1 := h.blk_set 66 (.int .i64 (last + 1))
  rw [netList_set_last hcut] at o1
  have o2 := o1.alloc #[.int .i64 (last + 1), .int .i64 frm, .int .i64 to, .slice B dat.length cb, .bool sp] 34
  rw [World.size_setCell, hq] at o2
  have HC := Lib.hid (clone_own (cb := cb) o2 (Reads.more hb [_, _, _]) hdl)
  have H := Lib.hid (And.intro hcut (And.intro hds (And.intro hn hq)))
  clear h hb hcut hds hn o1 o2 hq
  go_enter Try.func29, Try.ntmps29
  go_wp2_with fail
  refine (HC.out).mono ?_
  rintro e w3 ⟨A1, c1, rfl, own1⟩
  obtain ⟨k, hk⟩ : ∃ k, dat.length = k := ⟨_, rfl⟩
  have HK := Lib.hid hk
  rw [hk] at own1 ⊢
  have cq3 := (own1.pick (L := [_, _]) [1]).blk_cell 3
  have fq3 := (own1.pick (L := [_, _]) [1]).blk_free 3
  simp only [List.getElem?_toArray, List.getElem?_cons_zero, List.getElem?_cons_succ] at cq3
  have O1 := Lib.hid ((own1.pick (L := [_, _, _, _]) [1, 2, 3, 0]).blk_set 3 (.slice A1 k c1))
  simp only [H.out.2.2.2]
  clear own1 hk HC
  go_wp2_with fail
  have HA := Lib.hid (O1.out.pick (L := [_, _, _, _]) [2, 1, 0, 3])
  have HG := Lib.hid (O1.out.pick (L := [_, _, _, _]) [1])
  clear cq3 fq3 c65 c66 f66
  have d0 := O1.out.blk_cell 0
  have d1 := O1.out.blk_cell 1
  have d2 := O1.out.blk_cell 2
  have d3 := O1.out.blk_cell 3
  have d4 := O1.out.blk_cell 4
  have d65 := (HG.out.blk_cell 65).trans (netList_row H.out.1)
  simp only [List.getElem?_toArray, List.setIfInBounds_toArray, List.set_cons_zero, List.set_cons_succ, List.getElem?_cons_zero, List.getElem?_cons_succ] at d0 d1 d2 d3 d4
  obtain ⟨W1, hW1⟩ : ∃ W1, w3.setCell ⟨q, 3, none⟩ (.slice A1 k c1) = W1 := ⟨_, rfl⟩
  rw [hW1] at O1 HA HG d0 d1 d2 d3 d4 d65
  rw [hW1]
  clear hW1
  refine wp_region_need (fun W => W.cell? ⟨g, 65, none⟩ = some (.slice A n c) ∧ W.cell? ⟨q, 0, none⟩ = some (.int .i64 (last + 1)) ∧ W.cell? ⟨q, 1, none⟩ = some (.int .i64 frm) ∧ W.cell? ⟨q, 2, none⟩ = some (.int .i64 to) ∧ W.cell? ⟨q, 3, none⟩ = some (.slice A1 k c1) ∧ W.cell? ⟨q, 4, none⟩ = some (.bool sp)) (fun j => decide (j < 8)) (by kernel_rfl) ?_
  have hS : ∀ T : World, T.heap = W1.heap → (T.cell? ⟨g, 65, none⟩ = some (.slice A n c) ∧ T.cell? ⟨q, 0, none⟩ = some (.int .i64 (last + 1)) ∧ T.cell? ⟨q, 1, none⟩ = some (.int .i64 frm) ∧ T.cell? ⟨q, 2, none⟩ = some (.int .i64 to) ∧ T.cell? ⟨q, 3, none⟩ = some (.slice A1 k c1) ∧ T.cell? ⟨q, 4, none⟩ = some (.bool sp)) := fun T hT => by
    simp only [World.cell?, hT] at d0 d1 d2 d3 d4 d65 ⊢
    exact ⟨d65, d0, d1, d2, d3, d4⟩
  have HS := Lib.hid (hS W1.drew rfl)
  clear hS
  refine wpAnyN_take (i := 0) (v := ?v0) (by simp only [List.getElem?_toArray, List.getElem?_cons_succ, List.getElem?_cons_zero]; rfl) (by kernel_rfl) (by intro _ _ _ h; exact h) (Or.inl ⟨by rfl, ?y0⟩) HS.out ?r0
  case y0 =>
    intro W hSW
    try dsimp only at hSW
    obtain ⟨s65, s0, s1, s2, s3, s4⟩ := hSW
    go_simp
    try with_reducible rfl
  simp only [Act.put, List.setIfInBounds_toArray, List.set_cons_zero, List.set_cons_succ]
  refine wpAnyN_take (i := 1) (v := ?v1) (by simp only [List.getElem?_toArray, List.getElem?_cons_succ, List.getElem?_cons_zero]; rfl) (by kernel_rfl) (by intro _ _ _ h; exact h) (Or.inl ⟨by rfl, ?y1⟩) HS.out ?r1
  case y1 =>
    intro W hSW
    try dsimp only at hSW
    obtain ⟨s65, s0, s1, s2, s3, s4⟩ := hSW
    go_simp
    try with_reducible rfl
  simp only [Act.put, List.setIfInBounds_toArray, List.set_cons_zero, List.set_cons_succ]
  refine wpAnyN_take (i := 2) (v := ?v2) (by simp only [List.getElem?_toArray, List.getElem?_cons_succ, List.getElem?_cons_zero]; rfl) (by kernel_rfl) (by intro _ _ _ h; exact h) (Or.inl ⟨by rfl, ?y2⟩) HS.out ?r2
  case y2 =>
    intro W hSW
    try dsimp only at hSW
    obtain ⟨s65, s0, s1, s2, s3, s4⟩ := hSW
    go_simp
    try with_reducible rfl
  simp only [Act.put, List.setIfInBounds_toArray, List.set_cons_zero, List.set_cons_succ]
  refine wpAnyN_take (i := 3) (v := ?v3) (by simp only [List.getElem?_toArray, List.getElem?_cons_succ, List.getElem?_cons_zero]; rfl) (by kernel_rfl) (by intro _ _ _ h; exact h) (Or.inl ⟨by rfl, ?y3⟩) HS.out ?r3
  case y3 =>
    intro W hSW
    try dsimp only at hSW
    obtain ⟨s65, s0, s1, s2, s3, s4⟩ := hSW
    go_simp
    try with_reducible rfl
  simp only [Act.put, List.setIfInBounds_toArray, List.set_cons_zero, List.set_cons_succ]
  refine wpAnyN_take (i := 4) (v := ?v4) (by simp only [List.getElem?_toArray, List.getElem?_cons_succ, List.getElem?_cons_zero]; rfl) (by kernel_rfl) (by intro _ _ _ h; exact h) (Or.inl ⟨by rfl, ?y4⟩) HS.out ?r4
  case y4 =>
    intro W hSW
    try dsimp only at hSW
    obtain ⟨s65, s0, s1, s2, s3, s4⟩ := hSW
    go_simp
    try with_reducible rfl
  simp only [Act.put, List.setIfInBounds_toArray, List.set_cons_zero, List.set_cons_succ]
  refine wpAnyN_take (i := 5) (v := ?v5) (by simp only [List.getElem?_toArray, List.getElem?_cons_succ, List.getElem?_cons_zero]; rfl) (by kernel_rfl) (by intro _ _ _ h; exact h) (Or.inl ⟨by rfl, ?y5⟩) HS.out ?r5
  case y5 =>
    intro W hSW
    try dsimp only at hSW
    obtain ⟨s65, s0, s1, s2, s3, s4⟩ := hSW
    go_simp
    try with_reducible rfl
  simp only [Act.put, List.setIfInBounds_toArray, List.set_cons_zero, List.set_cons_succ]
  refine wpAnyN_one (i := 6) (by kernel_rfl) (by simp only [List.getElem?_toArray, List.getElem?_cons_succ, List.getElem?_cons_zero]; rfl) (fun K hK => ?_)
  go_simp
  refine hK _ _ ⟨fun _ => ?_, ?_⟩
  · have lg := HG.out.blk_lt
    have lq := O1.out.blk_lt
    have e65 := HS.out.1
    obtain ⟨e65, e0, e1, e2, e3, e4⟩ := HS.out
    refine ⟨?_, ?_, ?_, ?_, ?_, ?_⟩ <;> go_simp
  clear hK K
  try simp only [Act.put, List.setIfInBounds_toArray, List.set_cons_zero, List.set_cons_succ]
  refine wpAnyN_one (i := 7) (by kernel_rfl) (by simp only [List.getElem?_toArray, List.getElem?_cons_succ, List.getElem?_cons_zero]; rfl) (fun K hK => ?_)
  have hrow := Lib.hid (mrow_length (L := L) (ds := ds) H.out.2.1)
  refine step_append_move rfl (.tmp 31) (.tmp 33) 43 rfl 34 mailZero 5 56 Try.underlying43 Try.info34 mailZero_size (by decide) rfl (by rw [hrow.out, H.out.2.2.1]) HA.out ?_ _ 1 1 _ rfl ?_ (rd_list _ _ _) ?_ (by unfold maxLen; omega) (by omega) ?_
  · exact ((Below.refl _ _).alloc (by omega) _).drew
  · rfl
  · intro u hu
    simp only [List.mem_cons, List.not_mem_nil, or_false] at hu
    rcases hu with rfl | rfl | rfl | rfl | rfl <;> rfl
  rintro A2 c2 w4 own4
  have O4 := Lib.hid own4
  clear HS d0 d1 d2 d3 d4 d65
  have f65 := (own4.pick (L := [_, _]) [1]).blk_free 65
  have e65 := ((own4.pick (L := [_, _]) [1]).blk_cell 65).trans (netList_row H.out.1)
  refine hK _ _ ⟨fun _ => ?_, ?_⟩
  · have b := fun i => (own4.pick (L := [_, _, _]) [2]).blk_cell i
    refine ⟨e65, ?_, ?_, ?_, ?_, ?_⟩
    · exact b 0
    · exact b 1
    · exact b 2
    · exact b 3
    · exact b 4
  clear hK K own4
  try simp only [Act.put, List.setIfInBounds_toArray, List.set_cons_zero, List.set_cons_succ]
  refine wpAnyN_one (i := 8) (by kernel_rfl) (by simp only [List.getElem?_toArray, List.getElem?_cons_succ, List.getElem?_cons_zero]; rfl) (fun K hK => ?_)
  go_simp
  refine hK _ _ ⟨fun h => (by cases h), ?_⟩
  clear hK K
  try simp only [Act.put, List.setIfInBounds_toArray, List.set_cons_zero, List.set_cons_succ]
  refine wpAnyN_one (i := 9) (by kernel_rfl) (by simp only [List.getElem?_toArray, List.getElem?_cons_succ, List.getElem?_cons_zero]; rfl) (fun K hK => ?_)
  go_simp
  refine hK _ _ ⟨fun h => (by cases h), ?_⟩
  clear hK K
  try simp only [Act.put, List.setIfInBounds_toArray, List.set_cons_zero, List.set_cons_succ]
  refine wpAnyN_one (i := 10) (by kernel_rfl) (by simp only [List.getElem?_toArray, List.getElem?_cons_succ, List.getElem?_cons_zero]; rfl) (fun K hK => ?_)
  go_simp
  refine hK _ _ ⟨fun h => (by cases h), ?_⟩
  clear hK K
  try simp only [Act.put, List.setIfInBounds_toArray, List.set_cons_zero, List.set_cons_succ]

  refine wpAnyN_done (by kernel_rfl) ?_ _
  go_wp2
  go_ret
  have hd : (ds ++ [Value.slice A1 k c1]).length = (L ++ [(⟨last + 1, frm, to, dat, sp⟩ : M)]).length := by simp [H.out.2.1]
  refine ⟨rfl, Own.net_shut H.out.1 (v := .slice A2 (n + 1) c2) ?_⟩
  have o5 := (O4.out.pick (L := [_, _]) [1, 0]).blk_set 65 (.slice A2 (n + 1) c2)
  rw [netList_set_row H.out.1] at o5
  refine (Own.mails_shut (L := L ++ [⟨last + 1, frm, to, dat, sp⟩]) hd ?_).swap
  have hM : mrow (L ++ [(⟨last + 1, frm, to, dat, sp⟩ : M)]) (ds ++ [Value.slice A1 k c1]) = mrow L ds ++ [.int .i64 (last + 1), .int .i64 frm, .int .i64 to, .slice A1 k c1, .bool sp] := mrow_append H.out.2.1
  have hD : mdata (L ++ [(⟨last + 1, frm, to, dat, sp⟩ : M)]) (ds ++ [Value.slice A1 k c1]) = mdata L ds ++ [SP.row 5 1 (.slice A1 k c1) (bts dat)] := mdata_append H.out.2.1
  rw [hM, hD]
  exact ((o5.pick (L := [_, _, _, _, _]) [4, 3, 1, 0]).snoc).pick (L := [_, _, _]) [1, 0, 2]

theorem add_no {S : Nat → Prop} {w0 w : World} {R : List SP} {g : Nat} {B : Option Addr} {cb m : Nat} {nodes last num frm to : Int} {cut : List Bool} {L : List M} {sp : Bool} (hfew : ¬ L.length < 2000)
    (h : Own S w0 w (SP.net g nodes cut last L :: R)) :
    Calls Try.prog 29 #[.pointer (some ⟨g, 0, none⟩), .agg #[.int .i64 num, .int .i64 frm, .int .i64 to, .slice B m cb, .bool sp]] w fun e w' => e = .returned (.bool false) ∧ Own S w0 w' (SP.net g nodes cut last L :: R) := by
  obtain ⟨v, hcut, h1⟩ := h.net_open
  obtain ⟨A, c, ds, rfl, hds, hc1, hc2, h2⟩ := (h1.pick (L := [_, _]) [1, 0]).mails_open
  have c65 : w.cell? ⟨g, 65, none⟩ = some (.slice A L.length c) := (((h2.pick (L := [_, _, _]) [2, 0, 1])).blk_cell 65).trans (netList_row hcut)
  have hlt := ((h2.pick (L := [_, _, _]) [2, 0, 1])).blk_lt
  have hfew' : (2000 : Int) ≤ (L.length : Int) := by omega
  have o2 := Lib.hid (h.alloc #[.int .i64 num, .int .i64 frm, .int .i64 to, .slice B m cb, .bool sp] 34)
  clear h h1 h2
  go_enter Try.func29, Try.ntmps29
  go_wp2
  go_ret
  exact ⟨rfl, o2.out.pop⟩
end Go.Proofs.Ytlhinhcbbknhcaa
