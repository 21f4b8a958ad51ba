/-
  LogTwice as a call: it returns true, and what was there stays.
  Conditions: the numbers and entries lie in memory as they were handed in.
-/
import Derived.Test.YtepnkhiclgjmpaaTwicePure
namespace Go.Proofs.Ytepnkhiclgjmpaa
set_option linter.unusedVariables false
set_option linter.unusedSimpArgs false
open Go.RowKit

theorem try_index (x : Lg) (i t c : Int) (es : List E) : (x.try_ i t c es).2.index = x.index := by
  rcases try_ways x i t c es with h1 | ⟨h1, h2, h3⟩ | ⟨j, m, h1, h2, h3, h4, h5⟩
  · rw [h1]
  · rw [h3]; exact (commit_L _ _).2.1
  · rw [h5]; exact (commit_L _ _).2.1
theorem marksV_eq {x : Lg} {a b c d e : Int} (h1 : x.h = a) (h2 : x.s = b) (h3 : x.c = c) (h4 : x.ap = d) (h5 : x.ad = e) : marksV x = .agg #[.int .i64 a, .int .i64 b, .int .i64 c, .int .i64 d, .int .i64 e] := by
  subst h1 h2 h3 h4 h5; rfl
theorem zero64 : In64 0 := ⟨by decide, by decide⟩
def twoOp (es : List E) : Op8 := ⟨0, 0, 0, 0, es, []⟩

set_option maxRecDepth 100000 in
set_option maxHeartbeats 8000000 in
theorem twice_calls (w : World) (A : Option Addr) (c : Nat) (a : List Int) (ha : Rd w A (ints a)) (i t ct : Int) (B : Option Addr) (d : Nat) (es : List E) (hE : EArg w B d es) :
    Calls Try.prog 7 #[.slice A a.length c, .int .i64 i, .int .i64 t, .int .i64 ct, .slice B es.length d] w fun e w' => e = .returned (.bool true) ∧ Below w.heap.size w w' := by
  have HF := Lib.hid (first_own (Own.start w))
  have HA := Lib.hid ha
  have HE := Lib.hid hE
  clear ha hE
  by_cases hbig : 200 < a.length ∨ 64 < es.length
  · obtain ⟨ga, hga⟩ : ∃ ga : Bool, decide ((200 : Int) < (a.length : Int)) = ga := ⟨_, rfl⟩
    obtain ⟨gb, hgb⟩ : ∃ gb : Bool, decide ((64 : Int) < (es.length : Int)) = gb := ⟨_, rfl⟩
    have hg : (ga || gb) = true := by
      rw [Bool.or_eq_true, ← hga, ← hgb, decide_eq_true_eq, decide_eq_true_eq]; omega
    clear hbig
    go_enter Try.func7, Try.ntmps7
    go_wp2_with fail
    refine (HF.out).mono ?_
    rintro e w1 ⟨rfl, o1⟩
    have O1 := Lib.hid o1
    clear o1 HF
    cases ga with
    | true =>
      have ha' : (200 : Int) < (a.length : Int) := of_decide_eq_true hga
      go_wp2
      go_ret
      exact ⟨rfl, O1.out.below⟩
    | false =>
      have ha' : ¬ (200 : Int) < (a.length : Int) := of_decide_eq_false hga
      obtain rfl : gb = true := by simpa using hg
      have hb' : (64 : Int) < (es.length : Int) := of_decide_eq_true hgb
      go_wp2
      go_ret
      exact ⟨rfl, O1.out.below⟩
  · have ha' : ¬ (200 : Int) < (a.length : Int) := by omega
    have hb' : ¬ (64 : Int) < (es.length : Int) := by omega
    obtain ⟨p, hp⟩ : ∃ p, risingL 1 a = p := ⟨_, rfl⟩
    have hpl : p.length = a.length := by rw [← hp, risingL_length]
    have hpr : Rise p := hp ▸ rise_rising a
    have hpo := bLog_ok rfl hpr (by omega)
    have HP := Lib.hid (And.intro hp (And.intro hpr (And.intro hpo (And.intro (show p.length < 10000 by omega) hpl))))
    have es64 : es.length ≤ 64 := by omega
    have HM := Lib.hid (fun (W : World) (h : Own (fun _ => False) w W []) => may_own (A := B) (c := d) h (EReads.of_rd HE.out.2.2.2.1) (by omega) (fun m hm => (HE.out.2.2.2.2 m hm).1) i t)
    obtain ⟨mb, hmb⟩ : ∃ mb, mayB i t es = mb := ⟨_, rfl⟩
    rw [hmb] at HM
    have HMB := Lib.hid hmb
    clear hbig hp hpl hpr hpo hmb
    go_enter Try.func7, Try.ntmps7
    go_wp2_with fail
    refine (HF.out).mono ?_
    rintro e w1 ⟨rfl, o1⟩
    have HM1 := Lib.hid (HM.out w1 o1)
    clear o1 HF HM
    go_wp2_with fail
    refine (HM1.out).mono ?_
    rintro e w2 ⟨rfl, o2⟩
    have O2 := Lib.hid o2
    clear o2 HM1
    cases mb with
    | false =>
      go_wp2
      go_ret
      exact ⟨rfl, O2.out.below⟩
    | true =>
      have TR := Lib.hid (may_tried HMB.out)
      clear HMB
      obtain ⟨n, hn⟩ : ∃ n, es.length = n := ⟨_, rfl⟩
      have HNE := Lib.hid hn
      have o3 := O2.out.alloc #[.int .i64 0, .int .i64 0, .int .i64 0, .int .i64 0, .slice B n d, .slice none 0 0] 60
      have hf := few_calls (w2.alloc (.cells #[.int .i64 0, .int .i64 0, .int .i64 0, .int .i64 0, .slice B n d, .slice none 0 0] 60)) (some ⟨w2.heap.size, 0, none⟩) 1 [twoOp es] (fun k o ho => by
        match k, ho with
        | 0, ho =>
          simp at ho; subst ho
          refine ⟨w2.heap.size, 0, B, d, none, 0, rfl, by rw [World.size_alloc]; omega, o3.blk_cell 0, o3.blk_cell 1, o3.blk_cell 2, o3.blk_cell 3, ?_, o3.blk_cell 5, HE.out.below o3.below, ⟨Nat.le_refl _, Nat.zero_le _, Nat.zero_le _, Rd.nil _ _⟩, zero64, zero64, zero64, zero64⟩
          show _ = some (Value.slice B es.length d)
          rw [hn]
          exact o3.blk_cell 4
        | k + 1, ho => simp at ho) (by simp)
      have O3 := Lib.hid (o3.pick (L := [_]) [])
      have HFew := Lib.hid hf
      rw [hn] at hb' es64
      simp only [hn]
      clear hn hf o3 O2
      go_wp2_with fail
      refine (HFew.out).mono ?_
      rintro e w3 ⟨sm, rfl, rfl, -⟩
      have HR := Lib.hid (rising_own (A := A) (c := c) (l := a) (by omega) O3.out (fun W X hX => HA.out.below hX.below))
      clear HFew O3
      go_wp2_with fail
      refine (HR.out).mono ?_
      rintro e w4 ⟨A2, c2, rfl, o4⟩
      rw [HP.out.1, ← HP.out.2.2.2.2] at *
      have HR2 := Lib.hid (built_own HP.out.2.2.2.1 HP.out.2.1 o4)
      clear o4 HR
      go_wp2_with fail
      refine (HR2.out).mono ?_
      rintro e w5 ⟨g, rfl, o5⟩
      have O5 := Lib.hid (o5.pick (L := [_, _]) [0])
      clear o5 HR2
      cases sm with
      | false =>
        go_wp2
        go_ret
        exact ⟨rfl, O5.out.below⟩
      | true =>
        obtain ⟨x, hx⟩ : ∃ x, bLog p = x := ⟨_, rfl⟩
        have hxo : x.Ok := hx ▸ HP.out.2.2.1
        have hx0 : x.index = 0 := by rw [← hx]; rfl
        rw [hx] at O5
        have HX := Lib.hid (And.intro hxo hx0)
        have hq := eq65
        obtain ⟨m1, hm1⟩ : ∃ m, x.h = m := ⟨_, rfl⟩
        obtain ⟨m2, hm2⟩ : ∃ m, x.s = m := ⟨_, rfl⟩
        obtain ⟨m3, hm3⟩ : ∃ m, x.c = m := ⟨_, rfl⟩
        obtain ⟨m4, hm4⟩ : ∃ m, x.ap = m := ⟨_, rfl⟩
        obtain ⟨m5, hm5⟩ : ∃ m, x.ad = m := ⟨_, rfl⟩
        have HMV := Lib.hid (marksV_eq hm1 hm2 hm3 hm4 hm5)
        have hE1 := entries_own hxo O5.out 1 10000 ⟨by decide, by decide⟩ ⟨by decide, by decide⟩
        rw [entries_all hx0] at hE1
        obtain ⟨EL, hEL⟩ : ∃ EL, x.L.take 10000 = EL := ⟨_, rfl⟩
        have hELl : EL.length ≤ 10000 := by rw [← hEL, List.length_take]; omega
        have hELd : ∀ m, m ∈ EL → m.dat.length ≤ 140737488351232 := fun m hm => by
          rw [← hEL] at hm
          have := hxo.dat m (List.mem_of_mem_take hm)
          omega
        have HEL := Lib.hid (And.intro hELl (And.intro hELd hEL))
        rw [hEL] at hE1
        have HE1 := Lib.hid hE1
        obtain ⟨⟨⟨r, yes⟩, y⟩, hty⟩ : ∃ r, x.try_ i t ct es = r := ⟨_, rfl⟩
        have HT := Lib.hid (fun (W : World) (R : List SP) (o : Own (fun _ => False) w W (SP.log 85 g x :: R)) => try_own (A := B) (cap := d) hxo o (EReads.of_rd HE.out.2.2.2.1) HE.out.1 HE.out.2.1 (by rw [HNE.out]; omega) i t ct ⟨by have := TR.out.2.1; omega, by have := TR.out.2.2.1; rw [maxI_eq] at this; omega⟩ TR.out.1)
        rw [hty, HNE.out] at HT
        have HTY := Lib.hid hty
        clear hx hxo hx0 HP HA hm1 hm2 hm3 hm4 hm5 hE1 hEL hELl hELd hty
        go_wp2_with fail
        refine (HE1.out).mono ?_
        rintro e w6 ⟨A6, c6, rfl, o6⟩
        have hmk := marks_own o6.swap
        rw [HMV.out] at hmk
        have HMk := Lib.hid hmk
        clear o6 HE1 O5 hmk
        go_wp2_with fail
        refine (HMk.out).mono ?_
        rintro e w7 ⟨rfl, o7⟩
        have o8 := o7.alloc #[.int .i64 m1, .int .i64 m2, .int .i64 m3, .int .i64 m4, .int .i64 m5] 65
        obtain ⟨qm, hqm⟩ : ∃ qm, w7.heap.size = qm := ⟨_, rfl⟩
        have HQM := Lib.hid hqm
        rw [hqm] at o8
        have HT8 := Lib.hid (HT.out _ _ (o8.pick (L := [_, _, _]) [1, 2, 0]))
        clear o7 o8 HMk hqm
        go_wp2_with fail
        refine (HT8.out).mono ?_
        rintro e w9 ⟨rfl, o9⟩
        simp only at o9
        simp only [HQM.out]
        have hyo : y.Ok := by have := try_isOk (c := ct) (t := t) HX.out.1 TR.out.1; rw [HTY.out] at this; exact this
        have hy0 : y.index = 0 := by have := try_index x i t ct es; rw [HTY.out] at this; exact this.trans HX.out.2
        have hE2 := entries_own hyo o9 1 10000 ⟨by decide, by decide⟩ ⟨by decide, by decide⟩
        rw [entries_all hy0] at hE2
        obtain ⟨EM, hEM⟩ : ∃ EL, y.L.take 10000 = EL := ⟨_, rfl⟩
        rw [hEM] at hE2
        have HE2 := Lib.hid hE2
        have HEM := Lib.hid (show EM.length ≤ 10000 ∧ ∀ m, m ∈ EM → m.dat.length ≤ 140737488351232 from ⟨by rw [← hEM, List.length_take]; omega, fun m hm => by
          rw [← hEM] at hm
          have := hyo.dat m (List.mem_of_mem_take hm)
          omega⟩)
        have HYO := Lib.hid (And.intro hyo (And.intro hy0 hEM))
        clear o9 hE2 HT8 hEM hyo hy0
        go_wp2_with fail
        refine (HE2.out).mono ?_
        rintro e w10 ⟨A10, c10, rfl, o10⟩
        cases yes with
        | false =>
          obtain ⟨rfl, rfl⟩ := try_not HTY.out
          obtain rfl : EL = EM := by rw [← HYO.out.2.2, ← HEL.out.2.2]
          have OO := Lib.hid (o10.pick (L := [_, _, _, _]) [0, 2, 1, 3])
          have HMW := HMV
          clear o10 HE2 HT
          go_upto_region 13 with (fail)
          have d0 := (OO.out.pick (L := [_, _, _, _]) [3]).blk_cell 0
          have d1 := (OO.out.pick (L := [_, _, _, _]) [3]).blk_cell 1
          have d2 := (OO.out.pick (L := [_, _, _, _]) [3]).blk_cell 2
          have d3 := (OO.out.pick (L := [_, _, _, _]) [3]).blk_cell 3
          have d4 := (OO.out.pick (L := [_, _, _, _]) [3]).blk_cell 4
          simp only [List.getElem?_toArray, List.setIfInBounds_toArray, List.set_cons_zero, List.set_cons_succ, List.getElem?_cons_zero, List.getElem?_cons_succ] at d0 d1 d2 d3 d4
          have hs := fun k => sameents_own (ca := c6) (cb := c10) (OO.out.drewN k) (EReads.of_ents.more [_]) EReads.of_ents (by have := HEM.out.1; omega) HEM.out.2
          rw [show decide (EL = EL) = true from decide_eq_true rfl] at hs
          have HS := Lib.hid hs
          have hs5 := same5_self m1 m2 m3 m4 m5
          clear hs
          go_region_held3 (fun W => W.cell? ⟨qm, 0, none⟩ = some (.int .i64 m1) ∧ W.cell? ⟨qm, 1, none⟩ = some (.int .i64 m2) ∧ W.cell? ⟨qm, 2, none⟩ = some (.int .i64 m3) ∧ W.cell? ⟨qm, 3, none⟩ = some (.int .i64 m4) ∧ W.cell? ⟨qm, 4, none⟩ = some (.int .i64 m5))
            (first | go_keep | exact ⟨d0, d1, d2, d3, d4⟩ | exact ⟨e0, e1, e2, e3, e4⟩ | exact ⟨f0, f1, f2, f3, f4⟩)
            (first
              | (refine step_callW 32 _ _ rfl Try.func32 (by kernel_rfl) (by kernel_rfl) #[.slice A6 EL.length c6, .slice A10 EL.length c10] (by rfl) (by rfl) ?_
                 refine (HS.out 1).mono ?_
                 rintro e wa ⟨rfl, oa⟩
                 refine ⟨_, rfl, ?_⟩
                 have e0 := (oa.pick (L := [_, _, _, _]) [3]).blk_cell 0
                 have e1 := (oa.pick (L := [_, _, _, _]) [3]).blk_cell 1
                 have e2 := (oa.pick (L := [_, _, _, _]) [3]).blk_cell 2
                 have e3 := (oa.pick (L := [_, _, _, _]) [3]).blk_cell 3
                 have e4 := (oa.pick (L := [_, _, _, _]) [3]).blk_cell 4
                 simp only [List.getElem?_toArray, List.setIfInBounds_toArray, List.set_cons_zero, List.set_cons_succ, List.getElem?_cons_zero, List.getElem?_cons_succ] at e0 e1 e2 e3 e4
                 have hmk := marks_own (oa.pick (L := [_, _, _, _]) [2, 3])
                 rw [HMW.out] at hmk
                 have HMk := Lib.hid hmk
                 clear oa hmk)
              | (refine step_callW 31 _ _ rfl Try.func31 (by kernel_rfl) (by kernel_rfl) #[.pointer (some ⟨g, 0, none⟩)] (by rfl) (by rfl) ?_
                 refine (HMk.out).mono ?_
                 rintro e wb ⟨rfl, ob⟩
                 refine ⟨_, rfl, ?_⟩
                 have OB := Lib.hid ob.below
                 have f0 := ob.swap.blk_cell 0
                 have f1 := ob.swap.blk_cell 1
                 have f2 := ob.swap.blk_cell 2
                 have f3 := ob.swap.blk_cell 3
                 have f4 := ob.swap.blk_cell 4
                 simp only [List.getElem?_toArray, List.setIfInBounds_toArray, List.set_cons_zero, List.set_cons_succ, List.getElem?_cons_zero, List.getElem?_cons_succ] at f0 f1 f2 f3 f4
                 clear ob))
          go_wp2
          go_ret
          exact ⟨rfl, OB.out⟩
        | true =>
          have TT := Lib.hid (try_twice HX.out.1 TR.out.1 HTY.out)
          obtain ⟨n1, hn1⟩ : ∃ m, y.h = m := ⟨_, rfl⟩
          obtain ⟨n2, hn2⟩ : ∃ m, y.s = m := ⟨_, rfl⟩
          obtain ⟨n3, hn3⟩ : ∃ m, y.c = m := ⟨_, rfl⟩
          obtain ⟨n4, hn4⟩ : ∃ m, y.ap = m := ⟨_, rfl⟩
          obtain ⟨n5, hn5⟩ : ∃ m, y.ad = m := ⟨_, rfl⟩
          have HMW := Lib.hid (marksV_eq hn1 hn2 hn3 hn4 hn5)
          have hmk := marks_own (o10.pick (L := [_, _, _, _]) [1, 0, 3])
          rw [HMW.out] at hmk
          have HMk := Lib.hid hmk
          clear o10 hmk hn1 hn2 hn3 hn4 hn5 HE2 HT
          go_wp2_with fail
          refine (HMk.out).mono ?_
          rintro e w11 ⟨rfl, o11⟩
          have d0 := (o11.pick (L := [_, _, _]) [2]).blk_cell 0
          have d1 := (o11.pick (L := [_, _, _]) [2]).blk_cell 1
          have d2 := (o11.pick (L := [_, _, _]) [2]).blk_cell 2
          have d3 := (o11.pick (L := [_, _, _]) [2]).blk_cell 3
          have d4 := (o11.pick (L := [_, _, _]) [2]).blk_cell 4
          simp only [List.getElem?_toArray, List.getElem?_cons_zero, List.getElem?_cons_succ] at d0 d1 d2 d3 d4
          have f0 := (o11.pick (L := [_, _, _]) [2]).blk_free 0
          have f1 := (o11.pick (L := [_, _, _]) [2]).blk_free 1
          have f2 := (o11.pick (L := [_, _, _]) [2]).blk_free 2
          have f3 := (o11.pick (L := [_, _, _]) [2]).blk_free 3
          have f4 := (o11.pick (L := [_, _, _]) [2]).blk_free 4
          have O12 := Lib.hid ((((((o11.pick (L := [_, _, _]) [2, 0, 1]).blk_set 0 (.int .i64 n1)).blk_set 1 (.int .i64 n2)).blk_set 2 (.int .i64 n3)).blk_set 3 (.int .i64 n4)).blk_set 4 (.int .i64 n5))
          clear o11 HMk
          go_upto_region 15 with (fail)
          obtain ⟨W12, hW12⟩ : ∃ W, (((((w11.setCell ⟨qm, 0, none⟩ (.int .i64 n1)).setCell ⟨qm, 1, none⟩ (.int .i64 n2)).setCell ⟨qm, 2, none⟩ (.int .i64 n3)).setCell ⟨qm, 3, none⟩ (.int .i64 n4)).setCell ⟨qm, 4, none⟩ (.int .i64 n5)) = W := ⟨_, rfl⟩
          rw [hW12] at O12
          simp only [hW12]
          clear hW12 d0 d1 d2 d3 d4 f0 f1 f2 f3 f4
          have hT2 := try_own (A := B) (cap := d) HYO.out.1 (O12.out.pick (L := [_, _, _]) [1, 0, 2]) (EReads.of_rd HE.out.2.2.2.1) HE.out.1 HE.out.2.1 (by rw [HNE.out]; omega) i t ct ⟨by have := TR.out.2.1; omega, by have := TR.out.2.2.1; rw [maxI_eq] at this; omega⟩ TR.out.1
          rw [TT.out.2, HNE.out] at hT2
          have HT2 := Lib.hid hT2
          clear hT2 O12
          go_wp2_with fail
          refine (HT2.out).mono ?_
          rintro e w13 ⟨rfl, o13⟩
          simp only at o13
          have hE3 := entries_own HYO.out.1 o13 1 10000 ⟨by decide, by decide⟩ ⟨by decide, by decide⟩
          rw [entries_all HYO.out.2.1, HYO.out.2.2] at hE3
          have HE3 := Lib.hid hE3
          clear o13 hE3 HT2
          go_wp2_with fail
          refine (HE3.out).mono ?_
          rintro e w16 ⟨A16, c16, rfl, o16⟩
          have OO := Lib.hid (o16.pick (L := [_, _, _, _]) [0, 3, 1, 2])
          have hrn : r = i + (n : Int) := by rw [TT.out.1, HNE.out]
          have hr1 : (r == r) = true := by simp
          have hr2 : (r == i + (n : Int)) = true := by rw [hrn]; simp
          have hi1 := TR.out.2.1
          have hi2 : i ≤ 4611686018427387904 := by have := TR.out.2.2.1; rw [maxI_eq] at this; exact this
          have hwr : (r == IntKind.i64.wrap (i + (n : Int))) = true := by rw [IntKind.wrap_i64, beq_iff_eq]; omega
          clear o16 HE3 hrn
          go_upto_region 17 with (fail)
          have d0 := (OO.out.pick (L := [_, _, _, _]) [3]).blk_cell 0
          have d1 := (OO.out.pick (L := [_, _, _, _]) [3]).blk_cell 1
          have d2 := (OO.out.pick (L := [_, _, _, _]) [3]).blk_cell 2
          have d3 := (OO.out.pick (L := [_, _, _, _]) [3]).blk_cell 3
          have d4 := (OO.out.pick (L := [_, _, _, _]) [3]).blk_cell 4
          simp only [List.getElem?_toArray, List.setIfInBounds_toArray, List.set_cons_zero, List.set_cons_succ, List.getElem?_cons_zero, List.getElem?_cons_succ] at d0 d1 d2 d3 d4
          have hs := fun k => sameents_own (ca := c10) (cb := c16) (OO.out.drewN k) (EReads.of_ents.more [_]) EReads.of_ents (by have := HEM.out.1; omega) HEM.out.2
          rw [show decide (EM = EM) = true from decide_eq_true rfl] at hs
          have HS := Lib.hid hs
          have hs5 := same5_self n1 n2 n3 n4 n5
          clear hs
          go_region_held3 (fun W => W.cell? ⟨qm, 0, none⟩ = some (.int .i64 n1) ∧ W.cell? ⟨qm, 1, none⟩ = some (.int .i64 n2) ∧ W.cell? ⟨qm, 2, none⟩ = some (.int .i64 n3) ∧ W.cell? ⟨qm, 3, none⟩ = some (.int .i64 n4) ∧ W.cell? ⟨qm, 4, none⟩ = some (.int .i64 n5))
            (first | go_keep | exact ⟨d0, d1, d2, d3, d4⟩ | exact ⟨e0, e1, e2, e3, e4⟩ | exact ⟨f0, f1, f2, f3, f4⟩)
            (first
              | (refine step_callW 32 _ _ rfl Try.func32 (by kernel_rfl) (by kernel_rfl) #[.slice A10 EM.length c10, .slice A16 EM.length c16] (by rfl) (by rfl) ?_
                 refine (HS.out 1).mono ?_
                 rintro e wa ⟨rfl, oa⟩
                 refine ⟨_, rfl, ?_⟩
                 have e0 := (oa.pick (L := [_, _, _, _]) [3]).blk_cell 0
                 have e1 := (oa.pick (L := [_, _, _, _]) [3]).blk_cell 1
                 have e2 := (oa.pick (L := [_, _, _, _]) [3]).blk_cell 2
                 have e3 := (oa.pick (L := [_, _, _, _]) [3]).blk_cell 3
                 have e4 := (oa.pick (L := [_, _, _, _]) [3]).blk_cell 4
                 simp only [List.getElem?_toArray, List.setIfInBounds_toArray, List.set_cons_zero, List.set_cons_succ, List.getElem?_cons_zero, List.getElem?_cons_succ] at e0 e1 e2 e3 e4
                 have hmk := marks_own (oa.pick (L := [_, _, _, _]) [2, 3])
                 rw [HMW.out] at hmk
                 have HMk := Lib.hid hmk
                 clear oa hmk)
              | (refine step_callW 31 _ _ rfl Try.func31 (by kernel_rfl) (by kernel_rfl) #[.pointer (some ⟨g, 0, none⟩)] (by rfl) (by rfl) ?_
                 refine (HMk.out).mono ?_
                 rintro e wb ⟨rfl, ob⟩
                 refine ⟨_, rfl, ?_⟩
                 have OB := Lib.hid ob.below
                 have f0 := ob.swap.blk_cell 0
                 have f1 := ob.swap.blk_cell 1
                 have f2 := ob.swap.blk_cell 2
                 have f3 := ob.swap.blk_cell 3
                 have f4 := ob.swap.blk_cell 4
                 simp only [List.getElem?_toArray, List.setIfInBounds_toArray, List.set_cons_zero, List.set_cons_succ, List.getElem?_cons_zero, List.getElem?_cons_succ] at f0 f1 f2 f3 f4
                 clear ob))
          go_wp2
          go_ret
          exact ⟨rfl, OB.out⟩
end Go.Proofs.Ytepnkhiclgjmpaa
