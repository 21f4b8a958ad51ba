/-
  Try of a log.
  Conditions: the log is in order; the entries stand behind the index.
-/
import Derived.Test.YtepnkhiclgjmpaaLog7
import Derived.Test.YtepnkhiclgjmpaaRegionNeed
namespace Go.Proofs.Ytepnkhiclgjmpaa
set_option linter.unusedVariables false
set_option linter.unusedSimpArgs false
open Go.RowKit

section
variable {S : Nat → Prop} {w0 w : World} {R : List SP} {g : Nat} {x : Lg}
def TryPost (S : Nat → Prop) (w0 : World) (R : List SP) (g : Nat) (r : (Int × Bool) × Lg) (e : Ending) (w' : World) : Prop :=
  e = .returned (.tuple #[.int .i64 r.1.1, .bool r.1.2]) ∧ Own S w0 w' (SP.log 85 g r.2 :: R)
theorem tryPost_mk {r : (Int × Bool) × Lg} {n : Int} {b : Bool} {y : Lg} {e : Ending} {w' : World} (hr : r = ((n, b), y)) (he : e = .returned (.tuple #[.int .i64 n, .bool b])) (h : Own S w0 w' (SP.log 85 g y :: R)) : TryPost S w0 R g r e w' := by subst hr; exact ⟨he, h⟩

set_option maxRecDepth 100000 in
set_option maxHeartbeats 12800000 in
theorem try_own {A : Option Addr} {cap : Nat} {es : List E} (hx : x.Ok) (h : Own S w0 w (SP.log 85 g x :: R)) (hr : EReads S w0 R A es) (hcap : es.length ≤ cap) (hcm : cap ≤ maxLen) (hn : es.length ≤ 100000) (i t c : Int) (hi : In64 i) (ht : Tried i es) :
    Calls Try.prog 19 #[.pointer (some ⟨g, 0, none⟩), .int .i64 i, .int .i64 t, .int .i64 c, .slice A es.length cap] w (TryPost S w0 R g (x.try_ i t c es)) := by
  have hlen := hx.len
  have HX := Lib.hid (And.intro hx (And.intro hr ht))
  have HH := Lib.hid (has_own hx.i0 (by omega) h i t hi)
  have HHas := Lib.hid (fun (W : World) (hW : Own S w0 W (SP.log 85 g x :: R)) (a b : Int) (ha : In64 a) => has_own HX.out.1.i0 (by have := HX.out.1.len; omega) hW a b ha)
  obtain ⟨hi1, hi2⟩ := hi
  unfold maxLen at hcm
  by_cases hh : x.has i t = true
  · have hwi := has_within hh
    have hl := hx.last
    rw [maxI_eq] at hl
    have hi3 : i ≤ 4611686018427387904 := by omega
    have hi4 := hx.i0
    have HHT := Lib.hid hh
    rw [hh] at HH
    have we : IntKind.i64.wrap (i + (es.length : Int)) = i + (es.length : Int) := IntWalk.i64_in _ (by omega)
    have hi5 : 0 ≤ i := by omega
    clear hh h hx hr ht hwi hl hi1 hi2
    go_enter Try.func19, Try.ntmps19
    go_wp2
    go_step3
    go_wp2_with fail
    refine (HH.out).mono ?_
    rintro e w1 ⟨rfl, o1⟩
    have O1 := Lib.hid o1
    clear o1 HH
    go_wp2
    try go_step3
    try go_wp2
    go_loopw [27] (fun tj wr => ∃ j : Nat, j ≤ es.length ∧ tj = .int .i64 j ∧ Hid (x.skip es = j + x.skip (es.drop j)) ∧ Own S w0 wr (SP.log 85 g x :: R)) (fun tj _ => es.length - (intOf tj).toNat)
    case atStart => exact ⟨0, Nat.zero_le _, rfl, by show _ = _; simp, O1.out⟩
    case round =>
      obtain ⟨j, hj, rfl, hsk, hown⟩ := hrel
      clear O1
      by_cases hjn : j < es.length
      · have j1 : (j : Int) < (es.length : Int) := by omega
        obtain ⟨m, hm⟩ : ∃ m, es[j]? = some m := ⟨_, List.getElem?_eq_getElem hjn⟩
        obtain ⟨hmi, hmi1, hmi2⟩ := HX.out.2.2.idx j m hm
        rw [maxI_eq] at hmi2
        obtain ⟨b, off, Ad, cd, rfl, hbl, k0, k1, k2, k3, -, -, -⟩ := HX.out.2.1 _ [_] hown j m hm
        have hsd := Lib.hid (skip_drop (x := x) hm)
        obtain ⟨dl, hdl⟩ : ∃ dl, m.dat.length = dl := ⟨_, rfl⟩
        rw [hdl] at k3
        have o2 := (hown.alloc #[.int .i64 m.term, .int .i64 m.index, .int .i64 m.kind, .slice Ad dl cd] 26).swap
        obtain ⟨q, hq⟩ : ∃ q, wr.heap.size = q := ⟨_, rfl⟩
        have HQ := Lib.hid hq
        rw [hq] at o2
        have HM := Lib.hid (And.intro hm hmi)
        have O2 := Lib.hid o2
        clear hown hm hmi hdl hq o2
        go_upto_region 7 with (fail)
        obtain ⟨W2, hW2⟩ : ∃ W2, wr.alloc (.cells #[.int .i64 m.term, .int .i64 m.index, .int .i64 m.kind, .slice Ad dl cd] 26) = W2 := ⟨_, rfl⟩
        rw [hW2] at O2
        simp only [hW2, HQ.out]
        clear hW2 k0 k1 k2 k3
        have d0 := (O2.out.swap).blk_cell 0
        have d1 := (O2.out.swap).blk_cell 1
        simp only [List.getElem?_toArray, List.getElem?_cons_zero, List.getElem?_cons_succ] at d0 d1
        have HL := Lib.hid (has_own HX.out.1.i0 (by omega) O2.out m.index m.term ⟨by omega, by omega⟩)
        obtain ⟨hb, hhb⟩ : ∃ hb, x.has m.index m.term = hb := ⟨_, rfl⟩
        rw [hhb] at HL hsd
        clear hhb
        cases hb with
        | true =>
          have HS := Lib.hid (show x.skip es = j + 1 + x.skip (es.drop (j + 1)) by rw [hsk.out, hsd.out, if_pos rfl]; omega)
          clear hsk hsd
          go_wp2_with fail
          refine (HL.out).mono ?_
          rintro e w3 ⟨rfl, o3⟩
          have O3 := Lib.hid (o3.pick (L := [_, _]) [0])
          clear o3 d0 d1 HL O2
          go_wp2
          go_roundw
          case rel => exact ⟨j + 1, by omega, by go_num, HS, O3.out⟩
          case measure => simp [intOf]; omega
        | false =>
          have HS := Lib.hid (show x.skip es = j by rw [hsk.out, hsd.out, if_neg (by decide)]; omega)
          have hfr := tried_front HX.out.2.2 HHT.out HS.out HM.out.1
          clear hsk hsd
          go_wp2_with fail
          refine (HL.out).mono ?_
          rintro e w3 ⟨rfl, o3⟩
          clear d0 d1 HL O2
          obtain ⟨AL, cL, hcL1, hcL2, o4, -, c0, -, c2, c3, c4, c5, -, -⟩ := o3.log_cells
          have d0 := (o3.swap).blk_cell 0
          have d1 := (o3.swap).blk_cell 1
          simp only [List.getElem?_toArray, List.getElem?_cons_zero, List.getElem?_cons_succ] at d0 d1
          have hx0 := HX.out.1.i0
          have hx1 := HX.out.1.i1
          have hxl := HX.out.1.last
          rw [maxI_eq] at hx1 hxl
          obtain ⟨fr, hfr2⟩ : ∃ fr, m.index - 1 - x.index = fr := ⟨_, rfl⟩
          have v1 : IntKind.i64.wrap (m.index - 1) = m.index - 1 := IntWalk.i64_in _ (by omega)
          have v2 : IntKind.i64.wrap (m.index - 1 - x.index) = fr := by rw [IntWalk.i64_in _ (by omega)]; exact hfr2
          have v3 : IntKind.i64.wrap (fr + (es.length : Int)) = fr + (es.length : Int) := IntWalk.i64_in _ (by omega)
          have v4 : IntKind.i64.wrap (fr + (es.length : Int) - (j : Int)) = fr + (es.length : Int) - (j : Int) := IntWalk.i64_in _ (by omega)
          have HO3 := Lib.hid o3
          have HFR := Lib.hid (And.intro hfr hfr2)
          clear o3 o4 hfr hfr2
          go_upto_region 8 with (fail)
          go_quiet (fail)
          have o5 := Own.drewN HO3.out nq
          obtain ⟨W5, hW5⟩ : ∃ W5, w3.drewN nq = W5 := ⟨_, rfl⟩
          rw [hW5] at o5 ⊢
          clear hW5 c0 c2 c3 c4 c5 d0 d1 HO3
          obtain ⟨AL, cL, hcL1, hcL2, o4, -, c0, -, c2, c3, c4, c5, -, -⟩ := o5.log_cells
          have d1 := (o5.swap).blk_cell 1
          simp only [List.getElem?_toArray, List.getElem?_cons_zero, List.getElem?_cons_succ] at d1
          have HO5 := Lib.hid (o5.pick (L := [_, _]) [0])
          have O4 := Lib.hid o4
          clear o4 o5
          go_upto_region 9 with (fail)
          by_cases b1 : m.index ≤ x.c
          · have HR := Lib.hid (try_bad (c := c) HHT.out HS.out HM.out.1 (.inl b1))
            clear v1 v2 v3 v4
            go_quiet (fail)
            go_wp2
            try rw [Exit.noGoto_ret]
            go_ret2
            exact tryPost_mk HR.out rfl (Own.drewN HO5.out _)
          · by_cases b2 : 10000 < fr + (es.length : Int) - (j : Int)
            · have HR := Lib.hid (try_bad (c := c) HHT.out HS.out HM.out.1 (.inr (by rw [HFR.out.2]; exact b2)))
              clear v1 v2
              go_quiet (fail)
              clear v3 v4
              go_wp2
              try rw [Exit.noGoto_ret]
              go_ret2
              exact tryPost_mk HR.out rfl (Own.drewN HO5.out _)
            · have HR := Lib.hid (try_lay (c := c) HHT.out HS.out HM.out.1 (by rw [HFR.out.2]; rintro (h | h); exact b1 h; exact b2 h))
              have hxc : x.index ≤ x.c := by have := HX.out.1; have := this.a0; have := HX.out.1.a1; have := HX.out.1.a2; omega
              obtain ⟨f, hf⟩ : ∃ f : Nat, fr = (f : Int) := ⟨fr.toNat, by have := HFR.out.2; omega⟩
              subst hf
              have hfl : f ≤ x.L.length := by have := HFR.out; unfold Lg.lastI at this; omega
              clear v2
              go_quiet (fail)
              clear v3 v4
              have o6 := Own.drewN O4.out nq
              obtain ⟨W6, hW6⟩ : ∃ W6, W5.drewN nq = W6 := ⟨_, rfl⟩
              rw [hW6] at o6 ⊢
              clear hW6 c0 c2 c3 c4 c5 d1 HO5 O4
              have c2 : W6.cell? ⟨g, 2, none⟩ = some (.slice AL x.L.length cL) := o6.blk_cell 2
              obtain ⟨nL, hnL⟩ : ∃ nL, x.L.length = nL := ⟨_, rfl⟩
              have HNL := Lib.hid hnL
              have hdl2 : (es.drop j).length = es.length - j := List.length_drop
              have HOw := own_own (c := cap - j) (A := some ⟨b, off + j * 4, none⟩) (es := es.drop j) (by rw [hdl2]; omega) (fun e he => by have := HX.out.2.2.dat e (List.mem_of_mem_drop he); omega) o6.drew (EReads.more (HX.out.2.1.drop j) [_, _, _])
              rw [hdl2] at HOw
              have HOw := Lib.hid HOw
              have HDL2 := Lib.hid hdl2
              have O6 := Lib.hid o6
              rw [hnL] at c2 hfl hcL1
              have e1 : ¬ cap = j := by omega
              have e2 : j ≤ es.length := by omega
              have e3 : (j : Int) ≤ (es.length : Int) := by omega
              have e4 : (f : Int) ≤ (nL : Int) := by omega
              have e5 : f ≤ cL := by omega
              have e6 : (f : Int) ≤ (cL : Int) := by omega
              have e7 : (0 : Int) ≤ (f : Int) := by omega
              have e8 : (0 : Int) ≤ (j : Int) := by omega
              unfold maxLen at hcL2
              clear hnL hdl2 o6
              go_upto_region 11 with (fail)
              refine wp_region_need (fun W => W.cell? ⟨g, 2, none⟩ = some (.slice AL nL cL)) (fun j => decide (j < 13)) (by kernel_rfl) ?_
              obtain ⟨W7, hW7⟩ : ∃ W7, W6.drew = W7 := ⟨_, rfl⟩
              have HS := Lib.hid (show W7.cell? ⟨g, 2, none⟩ = some (.slice AL nL cL) by rw [← hW7]; exact c2)
              rw [hW7] at HOw ⊢
              clear hW7 c2
              refine wpAnyN_take (i := 0) (v := ?v0) (by simp only [List.getElem?_toArray, List.getElem?_cons_succ, List.getElem?_cons_zero]; rfl) (by kernel_rfl) (by intro _ _ _ h; exact h) (Or.inl ⟨by rfl, ?y0⟩) HS.out ?r0
              case y0 =>
                intro W hSW
                try dsimp only at hSW
                have s0 := hSW
                go_simp
                try with_reducible rfl
              simp only [Act.put, List.setIfInBounds_toArray, List.set_cons_zero, List.set_cons_succ]
              refine wpAnyN_take (i := 1) (v := ?v1) (by simp only [List.getElem?_toArray, List.getElem?_cons_succ, List.getElem?_cons_zero]; rfl) (by kernel_rfl) (by intro _ _ _ h; exact h) (Or.inl ⟨by rfl, ?y1⟩) HS.out ?r1
              case y1 =>
                intro W hSW
                try dsimp only at hSW
                have s0 := hSW
                go_simp
                try with_reducible rfl
              simp only [Act.put, List.setIfInBounds_toArray, List.set_cons_zero, List.set_cons_succ]
              refine wpAnyN_take (i := 2) (v := ?v2) (by simp only [List.getElem?_toArray, List.getElem?_cons_succ, List.getElem?_cons_zero]; rfl) (by kernel_rfl) (by intro _ _ _ h; exact h) (Or.inl ⟨by rfl, ?y2⟩) HS.out ?r2
              case y2 =>
                intro W hSW
                try dsimp only at hSW
                have s0 := hSW
                go_simp
                try with_reducible rfl
              simp only [Act.put, List.setIfInBounds_toArray, List.set_cons_zero, List.set_cons_succ]
              refine wpAnyN_take (i := 3) (v := ?v3) (by simp only [List.getElem?_toArray, List.getElem?_cons_succ, List.getElem?_cons_zero]; rfl) (by kernel_rfl) (by intro _ _ _ h; exact h) (Or.inl ⟨by rfl, ?y3⟩) HS.out ?r3
              case y3 =>
                intro W hSW
                try dsimp only at hSW
                have s0 := hSW
                go_simp
                try with_reducible rfl
              simp only [Act.put, List.setIfInBounds_toArray, List.set_cons_zero, List.set_cons_succ]
              refine wpAnyN_take (i := 4) (v := ?v4) (by simp only [List.getElem?_toArray, List.getElem?_cons_succ, List.getElem?_cons_zero]; rfl) (by kernel_rfl) (by intro _ _ _ h; exact h) (Or.inl ⟨by rfl, ?y4⟩) HS.out ?r4
              case y4 =>
                intro W hSW
                try dsimp only at hSW
                have s0 := hSW
                go_simp
                try with_reducible rfl
              simp only [Act.put, List.setIfInBounds_toArray, List.set_cons_zero, List.set_cons_succ]
              refine wpAnyN_take (i := 5) (v := ?v5) (by simp only [List.getElem?_toArray, List.getElem?_cons_succ, List.getElem?_cons_zero]; rfl) (by kernel_rfl) (by intro _ _ _ h; exact h) (Or.inl ⟨by rfl, ?y5⟩) HS.out ?r5
              case y5 =>
                intro W hSW
                try dsimp only at hSW
                have s0 := hSW
                go_simp
                try with_reducible rfl
              simp only [Act.put, List.setIfInBounds_toArray, List.set_cons_zero, List.set_cons_succ]
              refine wpAnyN_take (i := 6) (v := ?v6) (by simp only [List.getElem?_toArray, List.getElem?_cons_succ, List.getElem?_cons_zero]; rfl) (by kernel_rfl) (by intro _ _ _ h; exact h) (Or.inl ⟨by rfl, ?y6⟩) HS.out ?r6
              case y6 =>
                intro W hSW
                try dsimp only at hSW
                have s0 := hSW
                go_simp
                try with_reducible rfl
              simp only [Act.put, List.setIfInBounds_toArray, List.set_cons_zero, List.set_cons_succ]
              refine wpAnyN_take (i := 7) (v := ?v7) (by simp only [List.getElem?_toArray, List.getElem?_cons_succ, List.getElem?_cons_zero]; rfl) (by kernel_rfl) (by intro _ _ _ h; exact h) (Or.inl ⟨by rfl, ?y7⟩) HS.out ?r7
              case y7 =>
                intro W hSW
                try dsimp only at hSW
                have s0 := hSW
                go_simp
                try with_reducible rfl
              simp only [Act.put, List.setIfInBounds_toArray, List.set_cons_zero, List.set_cons_succ]
              refine wpAnyN_take (i := 8) (v := ?v8) (by simp only [List.getElem?_toArray, List.getElem?_cons_succ, List.getElem?_cons_zero]; rfl) (by kernel_rfl) (by intro _ _ _ h; exact h) (Or.inl ⟨by rfl, ?y8⟩) HS.out ?r8
              case y8 =>
                intro W hSW
                try dsimp only at hSW
                have s0 := hSW
                go_simp
                try with_reducible rfl
              simp only [Act.put, List.setIfInBounds_toArray, List.set_cons_zero, List.set_cons_succ]
              refine wpAnyN_take (i := 9) (v := ?v9) (by simp only [List.getElem?_toArray, List.getElem?_cons_succ, List.getElem?_cons_zero]; rfl) (by kernel_rfl) (by intro _ _ _ h; exact h) (Or.inl ⟨by rfl, ?y9⟩) HS.out ?r9
              case y9 =>
                intro W hSW
                try dsimp only at hSW
                have s0 := hSW
                go_simp
                try with_reducible rfl
              simp only [Act.put, List.setIfInBounds_toArray, List.set_cons_zero, List.set_cons_succ]
              refine wpAnyN_take (i := 10) (v := ?v10) (by simp only [List.getElem?_toArray, List.getElem?_cons_succ, List.getElem?_cons_zero]; rfl) (by kernel_rfl) (by intro _ _ _ h; exact h) (Or.inl ⟨by rfl, ?y10⟩) HS.out ?r10
              case y10 =>
                intro W hSW
                try dsimp only at hSW
                have s0 := hSW
                go_simp
                try with_reducible rfl
              simp only [Act.put, List.setIfInBounds_toArray, List.set_cons_zero, List.set_cons_succ]
              refine wpAnyN_one (i := 11) (by kernel_rfl) (by simp only [List.getElem?_toArray, List.getElem?_cons_succ, List.getElem?_cons_zero]; rfl) (fun K hK => ?_)
              refine step_call rfl 49 _ _ rfl Try.func49 (by kernel_rfl) (by kernel_rfl) #[.slice (some ⟨b, off + j * 4, none⟩) (es.length - j) (cap - j)] (by rfl) ?_
              refine (HOw.out).mono ?_
              rintro e w7 ⟨A7, c7, rfl, o7⟩
              refine ⟨_, rfl, ?_⟩
              have c27 : w7.cell? ⟨g, 2, none⟩ = some (.slice AL nL cL) := by rw [← HNL.out]; exact (o7.pick (L := [_, _]) [1]).blk_cell 2
              refine hK _ _ ⟨fun _ => c27, ?_⟩
              clear hK K HOw HS O6
              try simp only [Act.put, List.setIfInBounds_toArray, List.set_cons_zero, List.set_cons_succ]
              obtain ⟨_, _, ds2, z2, hds2, -, -, o8⟩ := o7.ents_open
              rw [HDL2.out] at z2 o8
              cases z2
              obtain ⟨_, _, ds1, z1, hds1, -, -, o9⟩ := (o8.pick (L := [_, _, _, _, _]) [3, 0, 1, 2, 4]).ents_open
              cases z1
              have o10 := ((o9.rowTrim (f := f) (by rw [HNL.out]; exact hfl)).swap.dataTrim f).swap
              rw [mrow_take] at o10
              have hdt : (ds1.take f).length = (x.L.take f).length := by rw [List.length_take, List.length_take, hds1]
              have hlt : (x.L.take f).length = f := by rw [List.length_take, HNL.out]; omega
              have h1n : ∀ u ∈ mrow (es.drop j) ds2, u.oneCell' = true := fun u hu => mrow_one u hu (Own.mdata_one hds2 (o10.pick (L := [_, _, _, _]) [3]))
              have H10 := Lib.hid (And.intro o10 (And.intro hdt (And.intro hlt (And.intro hds2 h1n))))
              clear o7 o8 o9 o10 hdt hlt hds1 hds2 h1n
              refine wpAnyN_one (i := 12) (by kernel_rfl) (by simp only [List.getElem?_toArray, List.getElem?_cons_succ, List.getElem?_cons_zero]; rfl) (fun K hK => ?_)
              refine step_append_move rfl (.tmp 70) (.tmp 74) 23 rfl 26 entZero 4 48 Try.underlying23 Try.info26 entZero_size (by decide) rfl (by rw [mrow_length H10.out.2.1, H10.out.2.2.1]) H10.out.1 (Below.refl _ _) A7 (es.length - j) c7 (mrow (es.drop j) ds2) rfl (by rw [mrow_length H10.out.2.2.2.1, HDL2.out]) ((H10.out.1.pick (L := [_, _, _]) [2]).rd) H10.out.2.2.2.2 (by unfold maxLen; omega) (by omega) ?_
              rintro A9 c9 w9 o9
              have e29 : w9.cell? ⟨g, 2, none⟩ = some (.slice AL nL cL) := by rw [← HNL.out]; exact (o9.pick (L := [_, _, _, _, _]) [4]).blk_cell 2
              have f29 := (o9.pick (L := [_, _, _, _, _]) [4]).blk_free 2
              have o11 := (o9.pick (L := [_, _, _, _, _, _]) [4, 0, 1, 3, 5]).blk_set 2 (.slice A9 (f + (es.length - j)) c9)
              have o12 := (Own.ents_append H10.out.2.1 H10.out.2.2.2.1 (o11.pick (L := [_, _, _, _, _]) [1, 2, 3, 0, 4])).swap
              have O12 := Lib.hid (Own.log_shut (x := { x with L := x.L.take f ++ es.drop j }) (v := .slice A9 (f + (es.length - j)) c9) o12)
              refine hK _ _ ⟨fun _ => e29, ?_⟩
              clear hK K o9 o11 o12 H10 c27
              try simp only [Act.put, List.setIfInBounds_toArray, List.set_cons_zero, List.set_cons_succ]
              refine wpAnyN_one (i := 13) (by kernel_rfl) (by simp only [List.getElem?_toArray, List.getElem?_cons_succ, List.getElem?_cons_zero]; rfl) (fun K hK => ?_)
              go_simp
              refine hK _ _ ⟨fun h => (by cases h), ?_⟩
              clear hK K
              try simp only [Act.put, List.setIfInBounds_toArray, List.set_cons_zero, List.set_cons_succ]
              refine wpAnyN_one (i := 14) (by kernel_rfl) (by simp only [List.getElem?_toArray, List.getElem?_cons_succ, List.getElem?_cons_zero]; rfl) (fun K hK => ?_)
              go_simp
              refine hK _ _ ⟨fun h => (by cases h), ?_⟩
              clear hK K
              try simp only [Act.put, List.setIfInBounds_toArray, List.set_cons_zero, List.set_cons_succ]
              refine wpAnyN_one (i := 15) (by kernel_rfl) (by simp only [List.getElem?_toArray, List.getElem?_cons_succ, List.getElem?_cons_zero]; rfl) (fun K hK => ?_)
              go_simp
              refine hK _ _ ⟨fun h => (by cases h), ?_⟩
              clear hK K
              try simp only [Act.put, List.setIfInBounds_toArray, List.set_cons_zero, List.set_cons_succ]
              refine wpAnyN_done (by kernel_rfl) ?_ _
              obtain ⟨w10, hw10⟩ : ∃ w10, w9.setCell ⟨g, 2, none⟩ (.slice A9 (f + (es.length - j)) c9) = w10 := ⟨_, rfl⟩
              rw [hw10] at O12 ⊢
              clear hw10 e29 f29 e1 e2 e3 e4 e5 e6 e7 e8
              obtain ⟨hv, hhv⟩ : ∃ hv, min x.h (m.index - 1) = hv := ⟨_, rfl⟩
              obtain ⟨sv, hsv⟩ : ∃ sv, min x.s (m.index - 1) = sv := ⟨_, rfl⟩
              have HV := Lib.hid (And.intro hhv hsv)
              have mh : (if m.index - 1 < x.h then m.index - 1 else x.h) = hv := by split <;> omega
              have ms : (if m.index - 1 < x.s then m.index - 1 else x.s) = sv := by split <;> omega
              clear hhv hsv
              go_upto_region 12 with (fail)
              obtain ⟨_, _, -, -, o13, -, -, -, -, k3, -⟩ := O12.out.log_cells
              have d1 := (O12.out.swap).blk_cell 1
              simp only [List.getElem?_toArray, List.getElem?_cons_zero, List.getElem?_cons_succ] at d1
              have f3 := o13.blk_free 3
              have O13 := Lib.hid (Own.log_shut (x := { x with L := x.L.take f ++ es.drop j, h := hv }) (o13.blk_set 3 (.int .i64 hv)).drew)
              clear o13 O12
              go_still_tail 10, (by kernel_rfl)
              change wpList _ _ _ _ _ w10.drew
              go_upto_region 13 with (fail)
              obtain ⟨w13, hw13⟩ : ∃ w13, (w10.setCell ⟨g, 3, none⟩ (.int .i64 hv)).drew = w13 := ⟨_, rfl⟩
              rw [hw13] at O13 ⊢
              clear hw13 d1 k3 f3 mh
              obtain ⟨_, _, -, -, o14, -, -, -, -, -, k4, -⟩ := O13.out.log_cells
              have d1 := (O13.out.swap).blk_cell 1
              simp only [List.getElem?_toArray, List.getElem?_cons_zero, List.getElem?_cons_succ] at d1
              have f4 := o14.blk_free 4
              have O14 := Lib.hid (Own.log_shut (x := { x with L := x.L.take f ++ es.drop j, h := hv, s := sv }) (o14.blk_set 4 (.int .i64 sv)).drew)
              clear o14 O13
              go_still_tail 10, (by kernel_rfl)
              change wpList _ _ _ _ _ w13.drew
              have hlay := lay_idx (x := x) (i := i) (es := es) HX.out.1 HX.out.2.2 HM.out.1 (f := f) (by have := HFR.out.2; omega) (by rw [HNL.out]; exact hfl)
              have hLay : x.lay m.index (es.drop j) = { x with L := x.L.take f ++ es.drop j, h := hv, s := sv } := by
                rw [← HV.out.1, ← HV.out.2, ← hlay.1]; rfl
              rw [hLay] at HR
              have HLI := Lib.hid hlay.2
              clear hlay hLay
              go_upto_region 15 with (fail)
              obtain ⟨w14, hw14⟩ : ∃ w14, (w13.setCell ⟨g, 4, none⟩ (.int .i64 sv)).drew = w14 := ⟨_, rfl⟩
              rw [hw14] at O14 ⊢
              clear hw14 d1 k4 f4 ms v1
              have HCm := Lib.hid (fun (u : Int) (hu : u = min c (i + (es.length : Int))) => show Calls Try.prog 36 #[.pointer (some ⟨g, 0, none⟩), .int .i64 u] w14 fun e w' => e = .returned (.bool (({ x with L := x.L.take f ++ es.drop j, h := hv, s := sv } : Lg).commit (min c (i + (es.length : Int)))).1) ∧ Own S w0 w' (SP.log 85 g (({ x with L := x.L.take f ++ es.drop j, h := hv, s := sv } : Lg).commit (min c (i + (es.length : Int)))).2 :: R) by
                rw [← hu]
                refine commit_own (x := { x with L := x.L.take f ++ es.drop j, h := hv, s := sv }) ?_ (fun j e he => (HLI.out j e he).1) (O14.out.pick (L := [_, _]) [0]) u
                show (x.L.take f ++ es.drop j).length ≤ 1000000
                rw [List.length_append, List.length_take, List.length_drop]
                omega)
              clear O14
              go_wp2_with fail
              all_goals
                refine (HCm.out _ (by omega)).mono ?_
                rintro e w15 ⟨rfl, o15⟩
                have O15 := Lib.hid o15
                clear o15 HCm
                go_wp2
                try rw [Exit.noGoto_ret]
                go_ret2
                exact tryPost_mk HR.out rfl O15.out
      · have j1 : ¬ (j : Int) < (es.length : Int) := by omega
        obtain rfl : j = es.length := by omega
        have HR := Lib.hid (try_all (c := c) HHT.out (by rw [hsk.out, skip_end (Nat.le_refl _)]; rfl))
        have HCm := Lib.hid (fun (u : Int) (hu : u = min c (i + (es.length : Int))) => show Calls Try.prog 36 #[.pointer (some ⟨g, 0, none⟩), .int .i64 u] wr fun e w' => e = .returned (.bool (x.commit (min c (i + (es.length : Int)))).1) ∧ Own S w0 w' (SP.log 85 g (x.commit (min c (i + (es.length : Int)))).2 :: R) by
          rw [← hu]
          exact commit_own (by omega) (fun j e he => (HX.out.1.idx j e he).1) hown u)
        clear hown hsk
        go_wp2_with fail
        all_goals
          refine (HCm.out _ (by omega)).mono ?_
          rintro e w8 ⟨rfl, o8⟩
          have O8 := Lib.hid o8
          clear o8 HCm
          go_wp2
          try rw [Exit.noGoto_ret]
          go_ret2
          exact tryPost_mk HR.out rfl O8.out
  · have HR := Lib.hid (try_no (c := c) (es := es) (by simpa using hh))
    rw [show x.has i t = false by simpa using hh] at HH
    clear hh h hx hr ht
    go_enter Try.func19, Try.ntmps19
    go_wp2
    go_step3
    go_wp2_with fail
    refine (HH.out).mono ?_
    rintro e w1 ⟨rfl, o⟩
    have O := Lib.hid o
    clear o HH
    go_wp2
    try rw [Exit.noGoto_ret]
    go_ret2
    exact tryPost_mk HR.out rfl O.out
end
end Go.Proofs.Ytepnkhiclgjmpaa
