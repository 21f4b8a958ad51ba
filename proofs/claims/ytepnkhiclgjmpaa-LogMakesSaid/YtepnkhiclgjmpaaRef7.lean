/-
  The document's log: Try.
  Conditions: the log is in order; the entries go on from the index.
-/
import Derived.Test.YtepnkhiclgjmpaaRef6
namespace Go.Proofs.Ytepnkhiclgjmpaa
set_option linter.unusedVariables false
set_option linter.unusedSimpArgs false
open Go.RowKit

section
variable {S : Nat → Prop} {w0 w : World} {R : List SP} {g : Nat} {x : Lg}
def RTryPost (S : Nat → Prop) (w0 : World) (R : List SP) (g : Nat) (r : (Int × Bool) × Lg) (e : Ending) (w' : World) : Prop :=
  e = .returned (.tuple #[.int .i64 r.1.1, .bool r.1.2]) ∧ Own S w0 w' (SP.log 88 g r.2 :: R)
theorem rtryPost_mk {r : (Int × Bool) × Lg} {n : Int} {b : Bool} {y : Lg} {e : Ending} {w' : World} (hr : r = ((n, b), y)) (he : e = .returned (.tuple #[.int .i64 n, .bool b])) (h : Own S w0 w' (SP.log 88 g y :: R)) : RTryPost S w0 R g r e w' := by subst hr; exact ⟨he, h⟩
set_option maxRecDepth 100000 in
set_option maxHeartbeats 12800000 in
theorem rtry_own {A : Option Addr} {cap : Nat} {es : List E} (hx : x.Ok) (h : Own S w0 w (SP.log 88 g x :: R)) (hr : EReads S w0 R A es) (hcap : es.length ≤ cap) (hcm : cap ≤ maxLen) (hn : es.length ≤ 100000) (i t c : Int) (hi : In64 i) (ht : Tried i es) :
    Calls Try.prog 20 #[.pointer (some ⟨g, 0, none⟩), .int .i64 i, .int .i64 t, .int .i64 c, .slice A es.length cap] w (RTryPost S w0 R g (x.try_ i t c es)) := by
  have hlen := hx.len
  have HX := Lib.hid (And.intro hx (And.intro hr ht))
  have HH := Lib.hid (rhas_own hx h i t hi)
  obtain ⟨hi1, hi2⟩ := hi
  unfold maxLen at hcm
  by_cases hh : x.has i t = true
  · have hwi := has_within hh
    have hl := hx.last
    rw [maxI_eq] at hl
    have hi3 : i ≤ 4611686018427387904 := by omega
    have hi4 := hx.i0
    have HHT := Lib.hid hh
    rw [hh] at HH
    have we : IntKind.i64.wrap (i + (es.length : Int)) = i + (es.length : Int) := IntWalk.i64_in _ (by omega)
    have hi5 : 0 ≤ i := by omega
    clear hh h hx hr ht hwi hl hi1 hi2
    go_enter Try.func20, Try.ntmps20
    go_wp2_with fail
    refine (HH.out).mono ?_
    rintro e w1 ⟨rfl, o1⟩
    have O1 := Lib.hid o1
    clear o1 HH
    go_wp2
    go_loopw [13] (fun tj wr => ∃ j : Nat, j ≤ es.length ∧ tj = .int .i64 j ∧ Hid (x.skip es = j + x.skip (es.drop j)) ∧ Own S w0 wr (SP.log 88 g x :: R)) (fun tj _ => es.length - (intOf tj).toNat)
    case atStart => exact ⟨0, Nat.zero_le _, rfl, by show _ = _; simp, O1.out⟩
    case round =>
      obtain ⟨j, hj, rfl, hsk, hown⟩ := hrel
      clear O1
      by_cases hjn : j < es.length
      · have j1 : (j : Int) < (es.length : Int) := by omega
        obtain ⟨m, hm⟩ : ∃ m, es[j]? = some m := ⟨_, List.getElem?_eq_getElem hjn⟩
        obtain ⟨hmi, hmi1, hmi2⟩ := HX.out.2.2.idx j m hm
        rw [maxI_eq] at hmi2
        obtain ⟨b, off, Ad, cd, rfl, hbl, k0, k1, -, -, -, -, -⟩ := HX.out.2.1 _ [_] hown j m hm
        have hsd := Lib.hid (skip_drop (x := x) hm)
        have HM := Lib.hid (And.intro hm hmi)
        have HL := Lib.hid (rhas_own HX.out.1 hown.drew m.index m.term ⟨by omega, by omega⟩)
        obtain ⟨hb, hhb⟩ : ∃ hb, x.has m.index m.term = hb := ⟨_, rfl⟩
        rw [hhb] at HL hsd
        clear hhb hown hm hmi
        go_upto_region 5 with (fail)
        go_region_held3 (fun W => W.cell? ⟨b, off + j * 4 + 1, none⟩ = some (.int .i64 m.index) ∧ W.cell? ⟨b, off + j * 4, none⟩ = some (.int .i64 m.term))
          (first | go_keep | exact ⟨k1, k0⟩ | exact K3.out)
          (first
            | (refine step_callW 55 _ _ rfl Try.func55 (by kernel_rfl) (by kernel_rfl) #[.pointer (some ⟨g, 0, none⟩), .int .i64 m.index, .int .i64 m.term] (by rfl) (by rfl) ?_
               refine (HL.out).mono ?_
               rintro e w3 ⟨rfl, o3⟩
               refine ⟨_, rfl, ?_⟩
               have K3 := Lib.hid (show w3.cell? ⟨b, off + j * 4 + 1, none⟩ = some (.int .i64 m.index) ∧ w3.cell? ⟨b, off + j * 4, none⟩ = some (.int .i64 m.term) from by
                 obtain ⟨_, _, _, _, z, -, q0, q1, -⟩ := HX.out.2.1 _ [_] o3 j m HM.out.1
                 cases z
                 exact ⟨q1, q0⟩)
               have O3 := Lib.hid o3
               clear o3))
        cases hb with
        | true =>
          have HS := Lib.hid (show x.skip es = j + 1 + x.skip (es.drop (j + 1)) by rw [hsk.out, hsd.out, if_pos rfl]; omega)
          clear hsk hsd k0 k1 HL
          go_wp2
          go_roundw
          case rel => exact ⟨j + 1, by omega, by go_num, HS, O3.out⟩
          case measure => simp [intOf]; omega
        | false =>
          have HS := Lib.hid (show x.skip es = j by rw [hsk.out, hsd.out, if_neg (by decide)]; omega)
          have hfr := tried_front HX.out.2.2 HHT.out HS.out HM.out.1
          clear hsk hsd HL k0 k1
          have k1 := K3.out.1
          obtain ⟨AL, cL, hcL1, hcL2, o4, -, c0, -, c2, c3, c4, c5, -, -⟩ := O3.out.log_cells
          have hx0 := HX.out.1.i0
          have hx1 := HX.out.1.i1
          have hxl := HX.out.1.last
          rw [maxI_eq] at hx1 hxl
          obtain ⟨fr, hfr2⟩ : ∃ fr, m.index - 1 - x.index = fr := ⟨_, rfl⟩
          have v1 : IntKind.i64.wrap (m.index - 1) = m.index - 1 := IntWalk.i64_in _ (by omega)
          have v2 : IntKind.i64.wrap (m.index - 1 - x.index) = fr := by rw [IntWalk.i64_in _ (by omega)]; exact hfr2
          have v3 : IntKind.i64.wrap (fr + (es.length : Int)) = fr + (es.length : Int) := IntWalk.i64_in _ (by omega)
          have v4 : IntKind.i64.wrap (fr + (es.length : Int) - (j : Int)) = fr + (es.length : Int) - (j : Int) := IntWalk.i64_in _ (by omega)
          have HFR := Lib.hid (And.intro hfr hfr2)
          have O4 := Lib.hid o4
          clear o4 hfr hfr2
          by_cases b1 : m.index ≤ x.c
          · have HR := Lib.hid (try_bad (c := c) HHT.out HS.out HM.out.1 (.inl b1))
            go_wp2
            try rw [Exit.noGoto_ret]
            go_ret2
            exact rtryPost_mk HR.out rfl O3.out
          · by_cases b2 : 10000 < fr + (es.length : Int) - (j : Int)
            · have HR := Lib.hid (try_bad (c := c) HHT.out HS.out HM.out.1 (.inr (by rw [HFR.out.2]; exact b2)))
              go_wp2
              try rw [Exit.noGoto_ret]
              go_ret2
              exact rtryPost_mk HR.out rfl O3.out
            · have HR := Lib.hid (try_lay (c := c) HHT.out HS.out HM.out.1 (by rw [HFR.out.2]; rintro (h | h); exact b1 h; exact b2 h))
              have HOKL := Lib.hid (lay_isOk HX.out.1 HX.out.2.2 HHT.out HS.out HM.out.1 (by rw [HFR.out.2]; rintro (h | h); exact b1 h; exact b2 h))
              have hxc : x.index ≤ x.c := by have := HX.out.1; have := this.a0; have := HX.out.1.a1; have := HX.out.1.a2; omega
              obtain ⟨f, hf⟩ : ∃ f : Nat, fr = (f : Int) := ⟨fr.toNat, by have := HFR.out.2; omega⟩
              subst hf
              have hfl : f ≤ x.L.length := by have := HFR.out; unfold Lg.lastI at this; omega
              have hdat := HX.out.1.dat
              obtain ⟨b0, tb, L, hv, sv, cv, pv, av⟩ := x
              simp only at *
              obtain ⟨nL, hnL⟩ : ∃ nL, L.length = nL := ⟨_, rfl⟩
              rw [hnL] at c2 hcL1 hfl hlen O4
              have HDL2 := Lib.hid (show (es.drop j).length = es.length - j from List.length_drop)
              have HLT := Lib.hid (show (L.take f).length = f by rw [List.length_take]; omega)
              have HC1 := Lib.hid (fun (W : World) (X : List SP) (o : Own S w0 W (X ++ SP.blk g 88 (logA ⟨b0, tb, L, hv, sv, cv, pv, av⟩ (.slice AL nL cL)) :: SP.ents 26 (.slice AL nL cL) L :: R)) => show Calls Try.prog 34 #[.slice AL f cL] W fun e w' => ∃ A' c', e = .returned (.slice A' f c') ∧ Own S w0 w' (SP.ents 26 (.slice A' f c') (L.take f) :: (X ++ SP.blk g 88 (logA ⟨b0, tb, L, hv, sv, cv, pv, av⟩ (.slice AL nL cL)) :: SP.ents 26 (.slice AL nL cL) L :: R)) from by
                have hrd : EReads S w0 (X ++ SP.blk g 88 (logA ⟨b0, tb, L, hv, sv, cv, pv, av⟩ (.slice AL nL cL)) :: SP.ents 26 (.slice AL nL cL) L :: R) AL (L.take f) := by
                  have := EReads.more (EReads.more ((EReads.of_ents (t := 26) (S := S) (w0 := w0) (R := R) (A := AL) (n := nL) (c := cL) (L := L)).take f) [SP.blk g 88 (logA ⟨b0, tb, L, hv, sv, cv, pv, av⟩ (.slice AL nL cL))]) X
                  exact this
                have := copies_own (c := cL) (A := AL) (es := L.take f) (by rw [HLT.out]; omega) (fun m hm => by have := hdat m (List.mem_of_mem_take hm); omega) o hrd
                rw [HLT.out] at this
                exact this)
              have HC2 := Lib.hid (fun (W : World) (X : List SP) (o : Own S w0 W (X ++ SP.blk g 88 (logA ⟨b0, tb, L, hv, sv, cv, pv, av⟩ (.slice AL nL cL)) :: SP.ents 26 (.slice AL nL cL) L :: R)) => show Calls Try.prog 34 #[.slice (some ⟨b, off + j * 4, none⟩) (es.length - j) (cap - j)] W fun e w' => ∃ A' c', e = .returned (.slice A' (es.length - j) c') ∧ Own S w0 w' (SP.ents 26 (.slice A' (es.length - j) c') (es.drop j) :: (X ++ SP.blk g 88 (logA ⟨b0, tb, L, hv, sv, cv, pv, av⟩ (.slice AL nL cL)) :: SP.ents 26 (.slice AL nL cL) L :: R)) from by
                have hrd : EReads S w0 (X ++ SP.blk g 88 (logA ⟨b0, tb, L, hv, sv, cv, pv, av⟩ (.slice AL nL cL)) :: SP.ents 26 (.slice AL nL cL) L :: R) (some ⟨b, off + j * 4, none⟩) (es.drop j) := by
                  have := EReads.more (EReads.more (HX.out.2.1.drop j) [SP.blk g 88 (logA ⟨b0, tb, L, hv, sv, cv, pv, av⟩ (.slice AL nL cL)), SP.ents 26 (.slice AL nL cL) L]) X
                  exact this
                have := copies_own (c := cap - j) (es := es.drop j) (by rw [HDL2.out]; omega) (fun e he => by have := HX.out.2.2.dat e (List.mem_of_mem_drop he); omega) o hrd
                rw [HDL2.out] at this
                exact this)
              have e1 : ¬ cap = j := by omega
              have e2 : j ≤ es.length := by omega
              have e3 : (j : Int) ≤ (es.length : Int) := by omega
              have e4 : (f : Int) ≤ (nL : Int) := by omega
              have e5 : f ≤ cL := by omega
              have e6 : (f : Int) ≤ (cL : Int) := by omega
              have e7 : (0 : Int) ≤ (f : Int) := by omega
              have e8 : (0 : Int) ≤ (j : Int) := by omega
              have e9 : (es.length : Int) ≤ (cap : Int) := by omega
              unfold maxLen at hcL2
              clear hnL O3 hdat K3
              go_upto_region 11 with (fail)
              clear k1
              have HSF := Lib.hid (fun (W : World) (R' : List SP) (o : Own S w0 W (SP.blk g 88 (logA ⟨b0, tb, L, hv, sv, cv, pv, av⟩ (.slice AL nL cL)) :: R')) => show W.cell? ⟨g, 2, none⟩ = some (.slice AL nL cL) ∧ W.cell? ⟨g, 0, none⟩ = some (.int .i64 b0) from ⟨o.blk_cell 2, o.blk_cell 0⟩)
              refine wp_region_need (fun W => W.cell? ⟨g, 2, none⟩ = some (.slice AL nL cL) ∧ W.cell? ⟨g, 0, none⟩ = some (.int .i64 b0)) (fun j => decide (j < 19)) (by kernel_rfl) ?_
              obtain ⟨W7, hW7⟩ : ∃ W7, w3.drew = W7 := ⟨_, rfl⟩
              have O0 := Lib.hid O4.out.drew
              rw [hW7] at O0 ⊢
              clear hW7 O4 c0 c2 c3 c4 c5
              have HS := Lib.hid (HSF.out _ _ O0.out)
              refine wpAnyN_take (i := 0) (v := ?v0) (by simp only [List.getElem?_toArray, List.getElem?_cons_succ, List.getElem?_cons_zero]; rfl) (by kernel_rfl) (by intro _ _ _ h; exact h) (Or.inl ⟨by rfl, ?y0⟩) HS.out ?r0
              case y0 =>
                intro W hSW
                try dsimp only at hSW
                obtain ⟨s0, s1⟩ := hSW
                go_simp
                try with_reducible rfl
              simp only [Act.put, List.setIfInBounds_toArray, List.set_cons_zero, List.set_cons_succ]
              refine wpAnyN_take (i := 1) (v := ?v1) (by simp only [List.getElem?_toArray, List.getElem?_cons_succ, List.getElem?_cons_zero]; rfl) (by kernel_rfl) (by intro _ _ _ h; exact h) (Or.inl ⟨by rfl, ?y1⟩) HS.out ?r1
              case y1 =>
                intro W hSW
                try dsimp only at hSW
                obtain ⟨s0, s1⟩ := hSW
                go_simp
                try with_reducible rfl
              simp only [Act.put, List.setIfInBounds_toArray, List.set_cons_zero, List.set_cons_succ]
              refine wpAnyN_take (i := 2) (v := ?v2) (by simp only [List.getElem?_toArray, List.getElem?_cons_succ, List.getElem?_cons_zero]; rfl) (by kernel_rfl) (by intro _ _ _ h; exact h) (Or.inl ⟨by rfl, ?y2⟩) HS.out ?r2
              case y2 =>
                intro W hSW
                try dsimp only at hSW
                obtain ⟨s0, s1⟩ := hSW
                go_simp
                try with_reducible rfl
              simp only [Act.put, List.setIfInBounds_toArray, List.set_cons_zero, List.set_cons_succ]
              refine wpAnyN_take (i := 3) (v := ?v3) (by simp only [List.getElem?_toArray, List.getElem?_cons_succ, List.getElem?_cons_zero]; rfl) (by kernel_rfl) (by intro _ _ _ h; exact h) (Or.inl ⟨by rfl, ?y3⟩) HS.out ?r3
              case y3 =>
                intro W hSW
                try dsimp only at hSW
                obtain ⟨s0, s1⟩ := hSW
                go_simp
                try with_reducible rfl
              simp only [Act.put, List.setIfInBounds_toArray, List.set_cons_zero, List.set_cons_succ]
              refine wpAnyN_take (i := 4) (v := ?v4) (by simp only [List.getElem?_toArray, List.getElem?_cons_succ, List.getElem?_cons_zero]; rfl) (by kernel_rfl) (by intro _ _ _ h; exact h) (Or.inl ⟨by rfl, ?y4⟩) HS.out ?r4
              case y4 =>
                intro W hSW
                try dsimp only at hSW
                obtain ⟨s0, s1⟩ := hSW
                go_simp
                try with_reducible rfl
              simp only [Act.put, List.setIfInBounds_toArray, List.set_cons_zero, List.set_cons_succ]
              refine wpAnyN_take (i := 5) (v := ?v5) (by simp only [List.getElem?_toArray, List.getElem?_cons_succ, List.getElem?_cons_zero]; rfl) (by kernel_rfl) (by intro _ _ _ h; exact h) (Or.inl ⟨by rfl, ?y5⟩) HS.out ?r5
              case y5 =>
                intro W hSW
                try dsimp only at hSW
                obtain ⟨s0, s1⟩ := hSW
                go_simp
                try with_reducible rfl
              simp only [Act.put, List.setIfInBounds_toArray, List.set_cons_zero, List.set_cons_succ]
              refine wpAnyN_take (i := 6) (v := ?v6) (by simp only [List.getElem?_toArray, List.getElem?_cons_succ, List.getElem?_cons_zero]; rfl) (by kernel_rfl) (by intro _ _ _ h; exact h) (Or.inl ⟨by rfl, ?y6⟩) HS.out ?r6
              case y6 =>
                intro W hSW
                try dsimp only at hSW
                obtain ⟨s0, s1⟩ := hSW
                go_simp
                try with_reducible rfl
              simp only [Act.put, List.setIfInBounds_toArray, List.set_cons_zero, List.set_cons_succ]
              refine wpAnyN_take (i := 7) (v := ?v7) (by simp only [List.getElem?_toArray, List.getElem?_cons_succ, List.getElem?_cons_zero]; rfl) (by kernel_rfl) (by intro _ _ _ h; exact h) (Or.inl ⟨by rfl, ?y7⟩) HS.out ?r7
              case y7 =>
                intro W hSW
                try dsimp only at hSW
                obtain ⟨s0, s1⟩ := hSW
                go_simp
                try with_reducible rfl
              simp only [Act.put, List.setIfInBounds_toArray, List.set_cons_zero, List.set_cons_succ]
              refine wpAnyN_take (i := 8) (v := ?v8) (by simp only [List.getElem?_toArray, List.getElem?_cons_succ, List.getElem?_cons_zero]; rfl) (by kernel_rfl) (by intro _ _ _ h; exact h) (Or.inl ⟨by rfl, ?y8⟩) HS.out ?r8
              case y8 =>
                intro W hSW
                try dsimp only at hSW
                obtain ⟨s0, s1⟩ := hSW
                go_simp
                try with_reducible rfl
              simp only [Act.put, List.setIfInBounds_toArray, List.set_cons_zero, List.set_cons_succ]
              refine wpAnyN_take (i := 9) (v := ?v9) (by simp only [List.getElem?_toArray, List.getElem?_cons_succ, List.getElem?_cons_zero]; rfl) (by kernel_rfl) (by intro _ _ _ h; exact h) (Or.inl ⟨by rfl, ?y9⟩) HS.out ?r9
              case y9 =>
                intro W hSW
                try dsimp only at hSW
                obtain ⟨s0, s1⟩ := hSW
                go_simp
                try with_reducible rfl
              simp only [Act.put, List.setIfInBounds_toArray, List.set_cons_zero, List.set_cons_succ]
              refine wpAnyN_take (i := 10) (v := ?v10) (by simp only [List.getElem?_toArray, List.getElem?_cons_succ, List.getElem?_cons_zero]; rfl) (by kernel_rfl) (by intro _ _ _ h; exact h) (Or.inl ⟨by rfl, ?y10⟩) HS.out ?r10
              case y10 =>
                intro W hSW
                try dsimp only at hSW
                obtain ⟨s0, s1⟩ := hSW
                go_simp
                try with_reducible rfl
              simp only [Act.put, List.setIfInBounds_toArray, List.set_cons_zero, List.set_cons_succ]
              refine wpAnyN_take (i := 11) (v := ?v11) (by simp only [List.getElem?_toArray, List.getElem?_cons_succ, List.getElem?_cons_zero]; rfl) (by kernel_rfl) (by intro _ _ _ h; exact h) (Or.inl ⟨by rfl, ?y11⟩) HS.out ?r11
              case y11 =>
                intro W hSW
                try dsimp only at hSW
                obtain ⟨s0, s1⟩ := hSW
                go_simp
                try with_reducible rfl
              simp only [Act.put, List.setIfInBounds_toArray, List.set_cons_zero, List.set_cons_succ]
              refine wpAnyN_take (i := 12) (v := ?v12) (by simp only [List.getElem?_toArray, List.getElem?_cons_succ, List.getElem?_cons_zero]; rfl) (by kernel_rfl) (by intro _ _ _ h; exact h) (Or.inl ⟨by rfl, ?y12⟩) HS.out ?r12
              case y12 =>
                intro W hSW
                try dsimp only at hSW
                obtain ⟨s0, s1⟩ := hSW
                go_simp
                try with_reducible rfl
              simp only [Act.put, List.setIfInBounds_toArray, List.set_cons_zero, List.set_cons_succ]
              refine wpAnyN_take (i := 14) (v := ?v14) (by simp only [List.getElem?_toArray, List.getElem?_cons_succ, List.getElem?_cons_zero]; rfl) (by kernel_rfl) (by intro _ _ _ h; exact h) (Or.inl ⟨by rfl, ?y14⟩) HS.out ?r14
              case y14 =>
                intro W hSW
                try dsimp only at hSW
                obtain ⟨s0, s1⟩ := hSW
                go_simp
                try with_reducible rfl
              simp only [Act.put, List.setIfInBounds_toArray, List.set_cons_zero, List.set_cons_succ]
              refine wpAnyN_take (i := 15) (v := ?v15) (by simp only [List.getElem?_toArray, List.getElem?_cons_succ, List.getElem?_cons_zero]; rfl) (by kernel_rfl) (by intro _ _ _ h; exact h) (Or.inl ⟨by rfl, ?y15⟩) HS.out ?r15
              case y15 =>
                intro W hSW
                try dsimp only at hSW
                obtain ⟨s0, s1⟩ := hSW
                go_simp
                try with_reducible rfl
              simp only [Act.put, List.setIfInBounds_toArray, List.set_cons_zero, List.set_cons_succ]
              refine wpAnyN_take (i := 16) (v := ?v16) (by simp only [List.getElem?_toArray, List.getElem?_cons_succ, List.getElem?_cons_zero]; rfl) (by kernel_rfl) (by intro _ _ _ h; exact h) (Or.inl ⟨by rfl, ?y16⟩) HS.out ?r16
              case y16 =>
                intro W hSW
                try dsimp only at hSW
                obtain ⟨s0, s1⟩ := hSW
                go_simp
                try with_reducible rfl
              simp only [Act.put, List.setIfInBounds_toArray, List.set_cons_zero, List.set_cons_succ]
              refine wpAnyN_one (i := 13) (by kernel_rfl) (by simp only [List.getElem?_toArray, List.getElem?_cons_succ, List.getElem?_cons_zero]; rfl) (fun K hK => ?_)
              refine step_call rfl 34 _ _ rfl Try.func34 (by kernel_rfl) (by kernel_rfl) #[.slice AL f cL] (by simp [Act.eval]) ?_
              refine (HC1.out _ [] O0.out).mono ?_
              rintro e E1w ⟨AE1, cE1, rfl, E1o⟩
              have E1 := Lib.hid E1o
              refine ⟨_, rfl, ?_⟩
              refine hK _ _ ⟨fun _ => HSF.out _ _ (E1o.pick (L := [_, _]) [1]), ?_⟩
              clear hK K E1o O0
              try simp only [Act.put, List.setIfInBounds_toArray, List.set_cons_zero, List.set_cons_succ]
              refine wpAnyN_one (i := 17) (by kernel_rfl) (by simp only [List.getElem?_toArray, List.getElem?_cons_succ, List.getElem?_cons_zero]; rfl) (fun K hK => ?_)
              refine step_call rfl 34 _ _ rfl Try.func34 (by kernel_rfl) (by kernel_rfl) #[.slice (some ⟨b, off + j * 4, none⟩) (es.length - j) (cap - j)] (by simp [Act.eval]) ?_
              refine (HC2.out _ [_] E1.out).mono ?_
              rintro e E2w ⟨AE2, cE2, rfl, E2o⟩
              have E2 := Lib.hid E2o
              refine ⟨_, rfl, ?_⟩
              refine hK _ _ ⟨fun _ => HSF.out _ _ (E2o.pick (L := [_, _, _]) [2]), ?_⟩
              clear hK K E2o E1
              try simp only [Act.put, List.setIfInBounds_toArray, List.set_cons_zero, List.set_cons_succ]
              have E3 := Lib.hid (E2.out.swap)
              clear E2
              obtain ⟨_, _, ds1, z1, hds1, -, -, o8⟩ := (E3.out).ents_open
              rw [HLT.out] at z1 o8
              cases z1
              obtain ⟨_, _, ds2, z2, hds2, -, -, o9⟩ := (o8.pick (L := [_, _, _, _]) [2, 0, 1, 3]).ents_open
              rw [HDL2.out] at z2 o9
              cases z2
              have h1n := Lib.hid (show ∀ u ∈ mrow (es.drop j) ds2, u.oneCell' = true from fun u hu => mrow_one u hu (Own.mdata_one hds2 (o9.pick (L := [_, _]) [1])))
              have O6 := Lib.hid (o9.pick (L := [_, _, _, _, _, _]) [2, 3, 0, 1, 4])
              have HDS := Lib.hid (And.intro hds1 hds2)
              clear o8 o9 hds1 hds2 E3
              refine wpAnyN_one (i := 18) (by kernel_rfl) (by simp only [List.getElem?_toArray, List.getElem?_cons_succ, List.getElem?_cons_zero]; rfl) (fun K hK => ?_)
              refine step_append_move rfl (.tmp 85) (.tmp 89) 23 rfl 26 entZero 4 48 Try.underlying23 Try.info26 entZero_size (by decide) (by simp [Act.eval]) (by rw [mrow_length HDS.out.1, HLT.out]) O6.out (Below.refl _ _) AE2 (es.length - j) cE2 (mrow (es.drop j) ds2) (by simp [Act.eval]) (by rw [mrow_length HDS.out.2, HDL2.out]) ((O6.out.pick (L := [_, _, _]) [2]).rd) h1n.out (by unfold maxLen; omega) (by omega) ?_
              rintro A9 c9 w9 o9
              have e29 := (o9.pick (L := [_, _, _, _, _]) [4]).blk_cell 2
              have f29 := (o9.pick (L := [_, _, _, _, _]) [4]).blk_free 2
              have o11 := (o9.pick (L := [_, _, _, _, _]) [4, 0, 1, 3]).blk_set 2 (.slice A9 (f + (es.length - j)) c9)
              have o12 := (Own.ents_append HDS.out.1 HDS.out.2 (o11.pick (L := [_, _, _, _]) [1, 2, 3, 0]))
              have O12 := Lib.hid (o12.pick (L := [_, _]) [1, 0])
              simp only [logA, List.getElem?_toArray, List.setIfInBounds_toArray, List.set_cons_zero, List.set_cons_succ, List.getElem?_cons_zero, List.getElem?_cons_succ] at e29
              refine hK _ _ ⟨fun _ => HSF.out _ _ (o9.pick (L := [_, _, _, _, _]) [4]), ?_⟩
              clear hK K o9 o11 o12 O6 HS
              try simp only [Act.put, List.setIfInBounds_toArray, List.set_cons_zero, List.set_cons_succ]
              refine wpAnyN_one (i := 19) (by kernel_rfl) (by simp only [List.getElem?_toArray, List.getElem?_cons_succ, List.getElem?_cons_zero]; rfl) (fun K hK => ?_)
              go_simp
              refine hK _ _ ⟨fun h => (by cases h), ?_⟩
              clear hK K
              try simp only [Act.put, List.setIfInBounds_toArray, List.set_cons_zero, List.set_cons_succ]
              refine wpAnyN_one (i := 20) (by kernel_rfl) (by simp only [List.getElem?_toArray, List.getElem?_cons_succ, List.getElem?_cons_zero]; rfl) (fun K hK => ?_)
              go_simp
              refine hK _ _ ⟨fun h => (by cases h), ?_⟩
              clear hK K
              try simp only [Act.put, List.setIfInBounds_toArray, List.set_cons_zero, List.set_cons_succ]
              refine wpAnyN_one (i := 21) (by kernel_rfl) (by simp only [List.getElem?_toArray, List.getElem?_cons_succ, List.getElem?_cons_zero]; rfl) (fun K hK => ?_)
              go_simp
              refine hK _ _ ⟨fun h => (by cases h), ?_⟩
              clear hK K
              try simp only [Act.put, List.setIfInBounds_toArray, List.set_cons_zero, List.set_cons_succ]
              refine wpAnyN_done (by kernel_rfl) ?_ _
              obtain ⟨w10, hw10⟩ : ∃ w10, w9.setCell ⟨g, 2, none⟩ (.slice A9 (f + (es.length - j)) c9) = w10 := ⟨_, rfl⟩
              rw [hw10] at O12 ⊢
              clear hw10 e29 f29
              by_cases bh : m.index - 1 < hv
              · by_cases bs : m.index - 1 < sv
                · have f3 := O12.out.blk_free 3
                  have k3 := O12.out.blk_cell 3
                  have o13 := O12.out.blk_set 3 (.int .i64 (m.index - 1))
                  have f4 := o13.blk_free 4
                  have k4 := o13.blk_cell 4
                  simp only [logA, List.getElem?_toArray, List.setIfInBounds_toArray, List.set_cons_zero, List.set_cons_succ, List.getElem?_cons_zero, List.getElem?_cons_succ] at k3 k4
                  have O14 := Lib.hid (Own.log_shut (x := ⟨b0, tb, L.take f ++ es.drop j, (m.index - 1), (m.index - 1), cv, pv, av⟩) (o13.blk_set 4 (.int .i64 (m.index - 1))))
                  have hLay : Lg.lay ⟨b0, tb, L, hv, sv, cv, pv, av⟩ m.index (es.drop j) = ⟨b0, tb, L.take f ++ es.drop j, (m.index - 1), (m.index - 1), cv, pv, av⟩ := by
                    unfold Lg.lay
                    simp only
                    have h1 : min hv (m.index - 1) = (m.index - 1) := by omega
                    have h2 : min sv (m.index - 1) = (m.index - 1) := by omega
                    rw [h1, h2, show (m.index - 1 - b0).toNat = f by have := HFR.out.2; (try simp only at this); omega]
                  have HLO := Lib.hid HOKL.out
                  rw [hLay] at HR HLO
                  clear o13 O12 hLay HOKL
                  go_upto_region 15 with (fail)
                  obtain ⟨w14, hw14⟩ : ∃ w14, (w10.setCell ⟨g, 3, none⟩ (.int .i64 (m.index - 1))).setCell ⟨g, 4, none⟩ (.int .i64 (m.index - 1)) = w14 := ⟨_, rfl⟩
                  rw [hw14] at O14 ⊢
                  clear hw14 f3 k3 f4 k4 bh bs
                  have HCm := Lib.hid (fun (u : Int) (hu : u = min c (i + (es.length : Int))) => show Calls Try.prog 56 #[.pointer (some ⟨g, 0, none⟩), .int .i64 u] w14 fun e w' => e = .returned (.bool (Lg.commit ⟨b0, tb, L.take f ++ es.drop j, (m.index - 1), (m.index - 1), cv, pv, av⟩ (min c (i + (es.length : Int)))).1) ∧ Own S w0 w' (SP.log 88 g (Lg.commit ⟨b0, tb, L.take f ++ es.drop j, (m.index - 1), (m.index - 1), cv, pv, av⟩ (min c (i + (es.length : Int)))).2 :: R) from by
                    rw [← hu]
                    exact rcommit_own (x := ⟨b0, tb, L.take f ++ es.drop j, (m.index - 1), (m.index - 1), cv, pv, av⟩) HLO.out O14.out u)
                  clear O14
                  go_wp2_with fail
                  all_goals
                    refine (HCm.out _ (by omega)).mono ?_
                    rintro e w15 ⟨rfl, o15⟩
                    have O15 := Lib.hid o15
                    clear o15 HCm
                    go_wp2
                    try rw [Exit.noGoto_ret]
                    go_ret2
                    exact rtryPost_mk HR.out rfl O15.out
                · have f3 := O12.out.blk_free 3
                  have k3 := O12.out.blk_cell 3
                  have o13 := O12.out.blk_set 3 (.int .i64 (m.index - 1))
                  have f4 := o13.blk_free 4
                  have k4 := o13.blk_cell 4
                  simp only [logA, List.getElem?_toArray, List.setIfInBounds_toArray, List.set_cons_zero, List.set_cons_succ, List.getElem?_cons_zero, List.getElem?_cons_succ] at k3 k4
                  have O14 := Lib.hid (Own.log_shut (x := ⟨b0, tb, L.take f ++ es.drop j, (m.index - 1), sv, cv, pv, av⟩) (o13.blk_set 4 (.int .i64 sv)))
                  have hLay : Lg.lay ⟨b0, tb, L, hv, sv, cv, pv, av⟩ m.index (es.drop j) = ⟨b0, tb, L.take f ++ es.drop j, (m.index - 1), sv, cv, pv, av⟩ := by
                    unfold Lg.lay
                    simp only
                    have h1 : min hv (m.index - 1) = (m.index - 1) := by omega
                    have h2 : min sv (m.index - 1) = sv := by omega
                    rw [h1, h2, show (m.index - 1 - b0).toNat = f by have := HFR.out.2; (try simp only at this); omega]
                  have HLO := Lib.hid HOKL.out
                  rw [hLay] at HR HLO
                  clear o13 O12 hLay HOKL
                  go_upto_region 15 with (fail)
                  obtain ⟨w14, hw14⟩ : ∃ w14, (w10.setCell ⟨g, 3, none⟩ (.int .i64 (m.index - 1))).setCell ⟨g, 4, none⟩ (.int .i64 sv) = w14 := ⟨_, rfl⟩
                  rw [hw14] at O14 ⊢
                  clear hw14 f3 k3 f4 k4 bh bs
                  have HCm := Lib.hid (fun (u : Int) (hu : u = min c (i + (es.length : Int))) => show Calls Try.prog 56 #[.pointer (some ⟨g, 0, none⟩), .int .i64 u] w14 fun e w' => e = .returned (.bool (Lg.commit ⟨b0, tb, L.take f ++ es.drop j, (m.index - 1), sv, cv, pv, av⟩ (min c (i + (es.length : Int)))).1) ∧ Own S w0 w' (SP.log 88 g (Lg.commit ⟨b0, tb, L.take f ++ es.drop j, (m.index - 1), sv, cv, pv, av⟩ (min c (i + (es.length : Int)))).2 :: R) from by
                    rw [← hu]
                    exact rcommit_own (x := ⟨b0, tb, L.take f ++ es.drop j, (m.index - 1), sv, cv, pv, av⟩) HLO.out O14.out u)
                  clear O14
                  go_wp2_with fail
                  all_goals
                    refine (HCm.out _ (by omega)).mono ?_
                    rintro e w15 ⟨rfl, o15⟩
                    have O15 := Lib.hid o15
                    clear o15 HCm
                    go_wp2
                    try rw [Exit.noGoto_ret]
                    go_ret2
                    exact rtryPost_mk HR.out rfl O15.out
              · have bs : ¬ m.index - 1 < sv := by have := HX.out.1.b3; (try simp only at this); omega
                have f3 := O12.out.blk_free 3
                have k3 := O12.out.blk_cell 3
                have o13 := O12.out.blk_set 3 (.int .i64 hv)
                have f4 := o13.blk_free 4
                have k4 := o13.blk_cell 4
                simp only [logA, List.getElem?_toArray, List.setIfInBounds_toArray, List.set_cons_zero, List.set_cons_succ, List.getElem?_cons_zero, List.getElem?_cons_succ] at k3 k4
                have O14 := Lib.hid (Own.log_shut (x := ⟨b0, tb, L.take f ++ es.drop j, hv, sv, cv, pv, av⟩) (o13.blk_set 4 (.int .i64 sv)))
                have hLay : Lg.lay ⟨b0, tb, L, hv, sv, cv, pv, av⟩ m.index (es.drop j) = ⟨b0, tb, L.take f ++ es.drop j, hv, sv, cv, pv, av⟩ := by
                  unfold Lg.lay
                  simp only
                  have h1 : min hv (m.index - 1) = hv := by omega
                  have h2 : min sv (m.index - 1) = sv := by omega
                  rw [h1, h2, show (m.index - 1 - b0).toNat = f by have := HFR.out.2; (try simp only at this); omega]
                have HLO := Lib.hid HOKL.out
                rw [hLay] at HR HLO
                clear o13 O12 hLay HOKL
                go_upto_region 15 with (fail)
                obtain ⟨w14, hw14⟩ : ∃ w14, (w10.setCell ⟨g, 3, none⟩ (.int .i64 hv)).setCell ⟨g, 4, none⟩ (.int .i64 sv) = w14 := ⟨_, rfl⟩
                rw [hw14] at O14 ⊢
                clear hw14 f3 k3 f4 k4 bh bs
                have HCm := Lib.hid (fun (u : Int) (hu : u = min c (i + (es.length : Int))) => show Calls Try.prog 56 #[.pointer (some ⟨g, 0, none⟩), .int .i64 u] w14 fun e w' => e = .returned (.bool (Lg.commit ⟨b0, tb, L.take f ++ es.drop j, hv, sv, cv, pv, av⟩ (min c (i + (es.length : Int)))).1) ∧ Own S w0 w' (SP.log 88 g (Lg.commit ⟨b0, tb, L.take f ++ es.drop j, hv, sv, cv, pv, av⟩ (min c (i + (es.length : Int)))).2 :: R) from by
                  rw [← hu]
                  exact rcommit_own (x := ⟨b0, tb, L.take f ++ es.drop j, hv, sv, cv, pv, av⟩) HLO.out O14.out u)
                clear O14
                go_wp2_with fail
                all_goals
                  refine (HCm.out _ (by omega)).mono ?_
                  rintro e w15 ⟨rfl, o15⟩
                  have O15 := Lib.hid o15
                  clear o15 HCm
                  go_wp2
                  try rw [Exit.noGoto_ret]
                  go_ret2
                  exact rtryPost_mk HR.out rfl O15.out
      · have j1 : ¬ (j : Int) < (es.length : Int) := by omega
        obtain rfl : j = es.length := by omega
        have HR := Lib.hid (try_all (c := c) HHT.out (by rw [hsk.out, skip_end (Nat.le_refl _)]; rfl))
        have HO := Lib.hid hown
        clear hown hsk
        go_upto_region 5 with (fail)
        go_quiet (fail)
        have HCm := Lib.hid (fun (u : Int) (hu : u = min c (i + (es.length : Int))) => show Calls Try.prog 56 #[.pointer (some ⟨g, 0, none⟩), .int .i64 u] (wr.drewN nq) fun e w' => e = .returned (.bool (x.commit (min c (i + (es.length : Int)))).1) ∧ Own S w0 w' (SP.log 88 g (x.commit (min c (i + (es.length : Int)))).2 :: R) from by
          rw [← hu]
          exact rcommit_own HX.out.1 (Own.drewN HO.out nq) u)
        clear HO
        go_wp2_with fail
        all_goals
          refine (HCm.out _ (by omega)).mono ?_
          rintro e w15 ⟨rfl, o15⟩
          have O15 := Lib.hid o15
          clear o15 HCm
          go_wp2
          try rw [Exit.noGoto_ret]
          go_ret2
          exact rtryPost_mk HR.out rfl O15.out
  · have HR := Lib.hid (try_no (c := c) (es := es) (by simpa using hh))
    rw [show x.has i t = false by simpa using hh] at HH
    clear hh h hx hr ht
    go_enter Try.func20, Try.ntmps20
    go_wp2_with fail
    refine (HH.out).mono ?_
    rintro e w1 ⟨rfl, o⟩
    have O := Lib.hid o
    clear o HH
    go_wp2
    try rw [Exit.noGoto_ret]
    go_ret2
    exact rtryPost_mk HR.out rfl O.out
end
end Go.Proofs.Ytepnkhiclgjmpaa
