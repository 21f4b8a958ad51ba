/-
  FrameAlls as a call: it returns true, and what was there stays.
  Conditions: the bytes lie in memory as they were handed in.
-/
import Derived.Test.YtonomljdljcmaaaBehind
namespace Go.Proofs.Ytonomljdljcmaaa
set_option linter.unusedVariables false
set_option linter.unusedSimpArgs false
open Go.RowKit Go.Shelf
attribute [local go_sem] Oper.semAt_some

def markOf (D : Nat) : Deferred := { target := .collected D, args := #[] }
def markObj (D : Nat) : SP := SP.obj D (.deferred (some []))
/-- The marks of the loops that have run are taken, one behind the other. -/
theorem leaves_marks {F : Fence} {n : Nat} {P : Program} {fn : Func} {tmps : Array Value} {Q : Ending → World → Prop} {S : Nat → Prop} {w0 : World} {R : List SP} (hend : ∀ W, Own S w0 W R → LeavesInM F n P fn tmps Q [] .returning W) :
    ∀ (L : List Nat) (W : World), Own S w0 W (L.map markObj ++ R) → LeavesInM F n P fn tmps Q (L.map markOf) .returning W
  | [], W, h => hend W h
  | D :: L, W, h => by
    refine ⟨by simp, .inl ⟨D, _, rfl, run_takeDeferred (Own.obj (R := L.map markObj ++ R) h), ?_⟩⟩
    exact leaves_marks hend L _ ((Own.putObj (R := L.map markObj ++ R) h (.deferred none)).pop)

theorem eql_func_nil (W : World) (g : Nat) : (binOp BinOp.eql 47 (.func (.func 40) #[] #[.pointer (some ⟨g, 0, none⟩)]) .nilFunc).run Try.prog W = .ok (.bool false) W := by kernel_rfl

theorem frok_facts {b : List UInt8} {pre : List Fr} {x : Fr} (h : frOk b pre x) : (frs b)[pre.length]? = some x.p ∧ span (pays pre) + 8 + x.p.length ≤ b.length ∧ x.pos = span (pays pre) := by
  obtain ⟨h1, h2, h3, h4⟩ := h
  rw [h1] at h3 h4
  have h5 := come_snoc h2 h3
  rw [← h4] at h5
  refine ⟨?_, by have := h5.2; rw [span_snoc] at this; omega, h1⟩
  rw [h5.1]
  have : (pays pre).length = pre.length := by simp [pays]
  rw [List.append_assoc, List.getElem?_append_right (by omega), this, Nat.sub_self]
  rfl
theorem pays_length (l : List Fr) : (pays l).length = l.length := by simp [pays]
/-- Between two rounds: how many have come, and where it goes on. -/
def allsI (kb ab : Nat) (C : Nat → Prop) (pre : List Fr) : SP := SP.stars [SP.pur (C pre.length), SP.blk kb 3 #[.int .i64 (pre.length : Nat)], SP.blk ab 3 #[.int .i64 (span (pays pre) : Nat)]]
def allsX (kb ab : Nat) (C : Nat → Prop) (c : Code) (pre : List Fr) : SP := SP.stars [SP.pur (c = .exit 6 ∧ C pre.length), SP.blk kb 3 #[.int .i64 (pre.length : Nat)], SP.blk ab 3 #[.int .i64 (span (pays pre) : Nat)]]

theorem wpIn_loop_rounds_succ {F : Fence} {n : Nat} {P : Program} {Q : Exit → Act → World → Prop} {m : Nat} {a : Act} {w : World} {c : Code} (h : c.wpIn F n P (Exit.then (Code.roundsIn F n P c Q m) Q) a w) : Code.roundsIn F n P c Q (m + 1) a w := h

set_option maxRecDepth 100000 in
set_option maxHeartbeats 40000000 in
theorem alls_calls (w : World) (A : Option Addr) (c : Nat) (b : List UInt8) (hb : Rd w A (bts b)) (hcap : b.length ≤ c) (hcap2 : c ≤ maxLen) (hlen : b.length ≤ 140737488351232) (a : Int) (ha : -9223372036854775808 ≤ a ∧ a ≤ 9223372036854775807) :
    Calls Try.prog 7 #[.slice A b.length c, .int .i64 a] w fun e w' => e = .returned (.bool true) ∧ Below w.heap.size w w' := by
  refine (callsIn_wide (n := 9)).1 ?_
  refine callsIn_of_wp_marks Try.func7 rfl trivial ?_ rfl
  simp only [Try.ntmps7, List.size_toArray, List.length_cons, List.length_nil, Nat.reduceAdd, Nat.reduceSub, Array.replicate_succ, Array.replicate_zero, List.push_toArray, List.append_toArray, List.nil_append, List.cons_append]
  have HB := Lib.hid hb
  have hcap3 : c ≤ 9223372036854775807 := by unfold maxLen at hcap2; exact hcap2
  obtain ⟨ha1, ha2⟩ := ha
  clear hb hcap2
  obtain ⟨s, hs⟩ : ∃ s, w.heap.size = s := ⟨_, rfl⟩
  obtain ⟨W1, hW1⟩ : ∃ W1, (w.alloc (.cells #[.int .i64 a] 3)).alloc (.cells #[.bool false] 4) = W1 := ⟨_, rfl⟩
  have o1 := ((Own.start w).alloc #[.int .i64 a] 3).alloc #[.bool false] 4
  simp only [World.size_alloc] at o1
  rw [hs, hW1] at o1
  have hf := Lib.hid (first_calls W1)
  have O1 := Lib.hid o1
  clear o1
  have HW1 := Lib.hid hW1
  by_cases hbig : 4000 < b.length
  · have hb' : (4000 : Int) < (b.length : Int) := by omega
    clear hW1
    gi_wp2_with fail
    simp only [HW1.out, hs]
    refine ⟨trivial, (callsIn_wide.2 hf.out).mono ?_⟩
    rintro e W2 ⟨rfl, hb2⟩
    have O2 := Lib.hid (O1.out.move hb2)
    clear hb2
    have c4 := O2.out.blk_cell 0
    have f4 := O2.out.blk_free 0
    simp only [List.getElem?_toArray, List.getElem?_cons_zero] at c4
    gi_wp2
    have O3 := Lib.hid (O2.out.blk_set 0 (.bool true))
    have c5 := O3.out.blk_cell 0
    simp only [List.setIfInBounds_toArray, List.set_cons_zero, List.getElem?_toArray, List.getElem?_cons_zero] at c5
    refine ⟨.bool true, by simp [results, Try.results7, go_sem, c5], rfl, O3.out.below⟩
  · have hb' : ¬ (4000 : Int) < (b.length : Int) := by omega
    clear hW1
    have hsl := span_le b
    have hl8 := span_length (frs b)
    obtain ⟨F, hF⟩ : ∃ F, frs b = F := ⟨_, rfl⟩
    have hFl : ∀ x, x ∈ F → x.length ≤ 4000 := fun x hx => by
      obtain ⟨i, hi⟩ := List.getElem?_of_mem hx
      rw [← hF] at hi
      obtain ⟨h1, h2, h3⟩ := frs_at i b x hi
      have h4 := getErr_ok h2
      rw [h3, List.length_drop] at h4
      omega
    obtain ⟨er, her⟩ : ∃ x, allErr b = x := ⟨_, rfl⟩
    rw [hF] at hsl hl8
    obtain ⟨sp, hsp⟩ : ∃ x, span F = x := ⟨_, rfl⟩
    rw [hsp] at hsl hl8
    have HF := Lib.hid (And.intro hF (And.intro her (And.intro hsp hFl)))
    clear hF her hsp hFl
    gi_wp2_with fail
    simp only [HW1.out, hs]
    refine ⟨trivial, (callsIn_wide.2 hf.out).mono ?_⟩
    rintro e W2 ⟨rfl, hb2⟩
    have O2 := Lib.hid (O1.out.move hb2)
    clear hb2
    have HR := Lib.hid (reads_arg (R := []) HB.out)
    have HL := Lib.hid (lent_own (cb := c) O2.out (Reads.more HR.out [_, _]) (by omega))
    gi_wp2_with fail
    refine ⟨trivial, (callsIn_wide.2 HL.out).mono ?_⟩
    rintro e w3 ⟨A1, c1, rfl, hc1, hc2, own1⟩
    have HC := Lib.hid (And.intro hc1 hc2)
    have hall := all_own (b := b) (cb := c1) own1 (reads_front (R := _)) (by omega) (by unfold maxLen at hc2; exact hc2) (by omega)
    rw [HF.out.1, HF.out.2.1, HF.out.2.2.1] at hall
    have HA := Lib.hid hall
    clear own1 hc1 hc2 hall HL
    gi_wp2_with fail
    refine ⟨trivial, (callsIn_wide.2 HA.out).mono ?_⟩
    rintro e w4 ⟨A2, c2, rfl, own2⟩
    have hall := rall_own (b := b) (cb := c) own2 (Reads.more HR.out [_, _, _, _]) hcap hcap3 (by omega)
    rw [HF.out.1, HF.out.2.1, HF.out.2.2.1] at hall
    have HA2 := Lib.hid hall
    clear own2 hall HA
    gi_wp2_with fail
    refine ⟨trivial, (callsIn_wide.2 HA2.out).mono ?_⟩
    rintro e w5 ⟨A3, c3, rfl, own3⟩
    have O3 := Lib.hid (own3.alloc #[.slice A3 F.length c3] 40)
    have HS := Lib.hid (samelists_own (ca := c2) (cb := c3) F rfl rfl O3.out ((O3.out.pick (L := [_, _, _]) [2]).mat_rdm) ((O3.out.pick (L := [_, _]) [1]).mat_rdm) (by omega) (fun x hx => by have := HF.out.2.2.2 x hx; omega))
    obtain ⟨g10, hg10⟩ : ∃ g, w5.heap.size = g := ⟨_, rfl⟩
    rw [hg10] at O3 HS
    clear own3 HA2
    gi_wp2_with fail
    refine ⟨trivial, (callsIn_wide.2 HS.out).mono ?_⟩
    rintro e w6 ⟨rfl, own4⟩
    have HE := Lib.hid (each_own (cb := c1) own4 (fun W X hX => by
      have h1 := (hX.perm (List.perm_append_comm)).pick (L := [_, _, _, _]) [3]
      have h2 : Rd W A1 (bts (b ++ [201])) := h1.rd
      rw [bts_append] at h2
      exact h2.front) (by omega))
    clear own4 HS hg10
    gi_wp2_with fail
    refine ⟨trivial, (callsIn_wide.2 HE.out).mono ?_⟩
    rintro e w7 ⟨q, A4, c4, rfl, hc4, hc5, own5⟩
    have HC4 := Lib.hid (And.intro hc4 hc5)
    have HK := Lib.hid (kept_own (A := A1) (B := A) (c := c1) (cb := c) (b := b) own5 ((own5.pick (L := [_, _, _, _, _, _]) [5]).rd) (HR.out _ [_, _, _, _, _, _, _, _] own5) (by omega) HC.out.1 HC.out.2)
    clear own5 hc4 hc5 HE
    gi_wp2_with fail
    refine ⟨trivial, (callsIn_wide.2 HK.out).mono ?_⟩
    rintro e w8 ⟨rfl, own6⟩
    have O6 := Lib.hid own6
    clear own6 HK
    have z1 : ((sp : Int) != (sp : Int)) = false := by simp
    have z2 : ((er : Int) != (er : Int)) = false := by simp
    gi_wp2_with fail
    refine ⟨trivial, (callsIn_wide.2 (num_calls _ _)).mono ?_⟩
    rintro e w' ⟨rfl, rfl⟩
    have kfn := fun W => eql_func_nil W q
    have own7 : Own (fun _ => False) w w8 ([SP.row 5 1 (.slice A1 (b.length + 1) c1) (bts (b ++ [201])), SP.mat 22 5 (.slice A2 F.length c2) (F.map bts)] ++ [SP.blk q 22 #[.slice A4 b.length c4], SP.row 5 1 (.slice A4 b.length c4) (bts b), SP.blk g10 40 #[.slice A3 F.length c3], SP.mat 22 5 (.slice A3 F.length c3) (F.map bts), SP.blk (s + 1) 4 #[.bool false], SP.blk s 3 #[.int .i64 a]]) := O6.out.pick (L := [_, _, _, _, _, _]) [5, 4, 0, 1, 2, 3]
    obtain ⟨X, hX⟩ : ∃ X, [SP.blk q 22 #[.slice A4 b.length c4], SP.row 5 1 (.slice A4 b.length c4) (bts b), SP.blk g10 40 #[.slice A3 F.length c3], SP.mat 22 5 (.slice A3 F.length c3) (F.map bts), SP.blk (s + 1) 4 #[.bool false], SP.blk s 3 #[.int .i64 a]] = X := ⟨_, rfl⟩
    rw [hX] at own7
    have HX := Lib.hid hX
    have O7 := Lib.hid own7
    clear own7 hX O6
    gi_wp2
    gi_loopw [16] (fun t wr => ∃ (i : Nat) (ys : List Value), i ≤ b.length ∧ t = .int .i64 i ∧ Hid (ys.length = b.length + 1) ∧ Own (fun _ => False) w wr (SP.row 5 1 (.slice A1 (b.length + 1) c1) ys :: SP.mat 22 5 (.slice A2 F.length c2) (F.map bts) :: X)) (fun t _ => b.length - (intOf t).toNat)
    case atStart => exact ⟨0, _, Nat.zero_le _, rfl, Lib.hid (by rw [bts_length, List.length_append]; rfl), O7.out⟩
    case round =>
      obtain ⟨i, ys, hi, rfl, hys, hown⟩ := hrel
      have i0 : (0 : Int) ≤ (i : Int) := by omega
      by_cases hin : i < b.length
      · have i1 : (i : Int) < (b.length : Int) := by omega
        obtain ⟨y, hy⟩ : ∃ y, ys[i]? = some y := ⟨_, List.getElem?_eq_getElem (by rw [hys.out]; omega)⟩
        obtain ⟨g, off, rfl, hc1, hf1⟩ := hown.cell hy
        have hst := Lib.hid (hown.store (j := i) (by rw [hys.out]; omega) (.int .u8 0))
        clear hown hy
        gi_wp2
        go_roundw
        case rel => exact ⟨i + 1, _, by omega, by go_num, Lib.hid (by rw [List.length_set]; exact hys.out), hst.out⟩
        case measure => simp [intOf]; omega
      · obtain rfl : i = b.length := by omega
        have O8 := Lib.hid (hown.pick (L := [_, _]) [1])
        clear hown
        gi_wp2
        gi_loopw [17] (fun t wr => ∃ (i : Nat) (M : List (List Value)), i ≤ F.length ∧ t = .int .i64 i ∧ Hid (M.length = F.length ∧ ∀ xs, xs ∈ M → xs.length ≤ 4000 + i) ∧ Own (fun _ => False) w wr (SP.mat 22 5 (.slice A2 F.length c2) M :: X)) (fun t _ => F.length - (intOf t).toNat)
        case atStart =>
          refine ⟨0, _, Nat.zero_le _, rfl, Lib.hid ⟨by rw [List.length_map], fun xs hxs => ?_⟩, O8.out⟩
          rw [List.mem_map] at hxs
          obtain ⟨x, hx, rfl⟩ := hxs
          rw [bts_length]
          have := HF.out.2.2.2 x hx
          omega
        case round =>
          obtain ⟨i, M, hi, rfl, hM, hown⟩ := hrel
          have i0 : (0 : Int) ≤ (i : Int) := by omega
          by_cases hin : i < F.length
          · have i1 : (i : Int) < (F.length : Int) := by omega
            obtain ⟨xs, hxs⟩ : ∃ xs, M[i]? = some xs := ⟨_, List.getElem?_eq_getElem (by rw [hM.out.1]; exact hin)⟩
            have hxl := hM.out.2 xs (List.mem_of_getElem? hxs)
            obtain ⟨vs, Ax, cx, hvl, hcx, hcx2, hv, own8, hback⟩ := hown.mat_at hxs
            obtain ⟨mb, off, rfl, hc1, hf1⟩ := own8.swap.cell hv
            obtain ⟨T, hr, hbk⟩ := own8.grow1 #[.int .u8 7] 5
            obtain ⟨n, hn⟩ : ∃ n, xs.length = n := ⟨_, rfl⟩
            have G := Lib.hid (And.intro hr (And.intro hbk (And.intro hback hv)))
            have HN2 := Lib.hid hn
            rw [hn] at G hc1 hxl
            clear hown own8 hr hbk hback hxs hvl hcx hcx2 hv hn
            gi_wp2_with (gi_at_builtin; refine wpListIn_append_row rfl (.tmp 95) (.tmp 96) 22 rfl 5 (.int .u8 0) 1 1 Try.underlying22 Try.info5 rfl (by decide) rfl (by rw [HN2.out, Nat.mul_one]) G.out.1 _ 1 1 [.int .u8 7] rfl rfl (rd_one _ _ _) (by simp [Value.oneCell']) (by unfold maxLen; omega) (by omega) ?_)
            rintro A6 c6 w10 - hk hr
            have own9 := G.out.2.1 _ _ hk hr
            obtain ⟨mb', off', e1, hc2, hf2⟩ := own9.swap.cell G.out.2.2.2
            injection e1 with e1
            injection e1 with e1 e2
            subst e1 e2
            have hst := own9.swap.store (j := i) (List.getElem?_eq_some_iff.1 G.out.2.2.2).1 (.slice A6 (n + 1) c6)
            have own10 := Lib.hid (G.out.2.2.1 _ _ _ hst.swap)
            clear own9 hst hk hr
            gi_wp2
            go_roundw
            case rel =>
              refine ⟨i + 1, _, by omega, by go_num, Lib.hid ⟨by rw [List.length_set]; exact hM.out.1, fun zs hzs => ?_⟩, own10.out⟩
              rcases List.mem_or_eq_of_mem_set hzs with h | h
              · have := hM.out.2 zs h; omega
              · rw [h, List.length_append, HN2.out]; simp; omega
            case measure => simp [intOf]; omega
          · obtain rfl : i = F.length := by omega
            have own9 := hown.pop
            rw [← HX.out] at own9
            have HRe := Lib.hid (show ∀ R : List SP, Reads (fun _ => False) w (SP.blk q 22 #[.slice A4 b.length c4] :: SP.row 5 1 (.slice A4 b.length c4) (bts b) :: R) A4 b from fun R => Reads.more Reads.row [_])
            obtain ⟨g0, hg⟩ : ∃ k, wr.heap.size = k := ⟨_, rfl⟩
            have P0 := own9.alloc #[.int .i64 0] 3
            rw [hg] at P0
            have P0 := Lib.hid (P0.pick (L := [_, _, _, _, _, _, _]) [1, 2, 3, 4, 5, 6, 0])
            have HG := Lib.hid hg
            clear own9 hown hg
            gi_wp2
            obtain ⟨W0, hW⟩ : ∃ V, wr.alloc (.cells #[.int .i64 0] 3) = V := ⟨_, rfl⟩
            rw [hW] at P0
            simp only [HG.out, hW]
            clear hW
            refine wpIn_loop_rounds 4 ?_
            have c18 := (P0.out.pick (L := [_, _, _, _, _, _, _]) [6]).blk_cell 0
            simp only [List.getElem?_toArray, List.getElem?_cons_zero] at c18
            obtain ⟨kb0, hkb⟩ : ∃ k, W0.heap.size = k := ⟨_, rfl⟩
            have Q0 := (P0.out.alloc #[.int .i64 0] 3).alloc #[.int .i64 0] 3
            simp only [World.size_alloc, hkb] at Q0
            have HKb := Lib.hid hkb
            clear hkb
            refine wpIn_loop_rounds_succ ?_
            gi_wp2
            simp only [World.size_alloc, HKb.out]
            clear c18 HKb
            refine wpIn_rangeOwn (Rest := SP.blk q 22 #[.slice A4 b.length c4] :: SP.row 5 1 (.slice A4 b.length c4) (bts b) :: SP.blk g10 40 #[.slice A3 F.length c3] :: SP.mat 22 5 (.slice A3 F.length c3) (F.map bts) :: SP.blk (s + 1) 4 #[.bool false] :: SP.blk s 3 #[.int .i64 a] :: SP.blk g0 3 #[.int .i64 0] :: []) (enc := Fr.enc) (give := Fr.give) rfl (by omega) (gf := 40) (lb := #[.pointer (some ⟨q, 0, none⟩)]) rfl trivial (enters_of Try.func40 (by kernel_rfl) rfl)
              (whole1_iter _ (by omega) (HRe.out _) (by have := HC4.out.1; omega) (by have h := HC4.out.2; unfold maxLen at h; exact h) (by omega)) (fun x => rfl) (allsI kb0 (kb0 + 1) (fun _ => True)) (allsX kb0 (kb0 + 1) (fun _ => False)) ?start0_1 ?a0_1 ?assign0_1 ?body0_1 ?done0_1 ?stop0_1
            case assign0_1 =>
              intro l x W K hK
              dsimp only [Fr.enc]
              gi_wp2
              exact hK
            case start0_1 =>
              refine Own.unflat (L := [_, _, _]) (Own.pur ?_ trivial)
              exact Q0.pick (L := [_, _]) [1, 0]
            case body0_1 =>
              rintro l pre x W B1 hok hown
              obtain ⟨hcond, own2⟩ := (Own.flat (L := [_, _, _]) hown).unpur
              obtain ⟨hFk, hsp2, hpos⟩ := frok_facts hok
              rw [HF.out.1] at hFk
              have hkF : pre.length < F.length := (List.getElem?_eq_some_iff.1 hFk).1
              have e1 : ((span (pays (pre ++ [x])) : Nat) : Int) = ((span (pays pre) : Nat) : Int) + 8 + (x.p.length : Int) := by rw [pays_snoc, span_snoc]; omega
              have e2 : (((pre ++ [x]).length : Nat) : Int) = ((pre.length : Nat) : Int) + 1 := by rw [List.length_append]; rfl
              have HE := Lib.hid (And.intro e1 e2)
              obtain ⟨k, hk⟩ : ∃ k, pre.length = k := ⟨_, rfl⟩
              obtain ⟨sn, hsn⟩ : ∃ k, span (pays pre) = k := ⟨_, rfl⟩
              rw [hk, hsn] at own2 HE
              rw [hk] at hFk hkF
              rw [hsn] at hsp2 hpos
              have HKs := Lib.hid (And.intro hk (And.intro hsn hcond))
              clear hk hsn e1 e2 hown hok hcond
              have ck := own2.blk_cell 0
              have ca := (own2.pick (L := [_, _]) [1]).blk_cell 0
              have cg := (own2.pick (L := [_, _, _, _, _, _, _]) [6]).blk_cell 0
              have cs := (own2.pick (L := [_, _, _, _, _, _, _, _, _, _]) [9]).blk_cell 0
              have cr := (own2.pick (L := [_, _, _, _, _, _, _, _, _, _, _]) [10]).blk_cell 0
              obtain ⟨b7, o7, A7, c7, hA7, hc7, -, -, hr7⟩ := (own2.pick (L := [_, _, _, _, _, _, _, _]) [7]).mat_rdm k x.p hFk
              subst hA7
              have HS := Lib.hid (same_own (ca := x.c) (cb := c7) own2 ((own2.pick (L := [_, _, _]) [2]).rd) hr7 (by omega))
              simp only [List.getElem?_toArray, List.getElem?_cons_zero] at ck ca cg cs cr
              have hq : ((x.pos : Int) != (sn : Int)) = false := by simp; omega
              have k0 : (0 : Int) ≤ (k : Int) := by omega
              have k1 : (k : Int) < (F.length : Int) := by omega
              clear own2 hr7 hFk hpos
              gi_wp2_with fail
              refine ⟨trivial, (CallsIn.inRound l (callsIn_wide.2 HS.out)).mono ?_⟩
              rintro e W3 ⟨rfl, own3⟩
              have O3 := Lib.hid own3
              have ck := own3.blk_cell 0
              have fk := own3.blk_free 0
              have ca := (own3.pick (L := [_, _]) [1]).blk_cell 0
              have fa := (own3.pick (L := [_, _]) [1]).blk_free 0
              have cs := (own3.pick (L := [_, _, _, _, _, _, _, _, _, _]) [9]).blk_cell 0
              have cr := (own3.pick (L := [_, _, _, _, _, _, _, _, _, _, _]) [10]).blk_cell 0
              simp only [List.getElem?_toArray, List.getElem?_cons_zero] at ck ca cs cr
              clear own3 HS
              have O4 := (O3.out.pick (L := [_, _]) [1, 0]).blk_set 0 (.int .i64 ((sn : Int) + 8 + (x.p.length : Int)))
              have O5 := Lib.hid ((O4.pick (L := [_, _]) [1, 0]).blk_set 0 (.int .i64 ((k : Int) + 1)))
              have ck5 := O5.out.blk_cell 0
              have cs5 := (O5.out.pick (L := [_, _, _, _, _, _, _, _, _, _]) [9]).blk_cell 0
              have cr5 := (O5.out.pick (L := [_, _, _, _, _, _, _, _, _, _, _]) [10]).blk_cell 0
              simp only [List.setIfInBounds_toArray, List.set_cons_zero, List.getElem?_toArray, List.getElem?_cons_zero] at ck5 cs5 cr5
              clear O4
              gi_wp2
              refine Own.unflat (L := [_, _, _]) (Own.pur ?_ trivial)
              rw [HE.out.1, HE.out.2]
              exact O5.out.pick (L := [_, _, _]) [0, 1]
            case done0_1 =>
              intro D0 xs W hxs hown
              obtain ⟨hcond, own2⟩ := (Own.flat (L := [_, _, _]) hown).unpur
              have hxl : xs.length = F.length := by rw [← pays_length, hxs, HF.out.1]
              rw [hxl] at own2
              clear hxs hown hxl
              have hq : ((F.length : Int) != (F.length : Int)) = false := by simp
              have ck := own2.blk_cell 0
              have cg := (own2.pick (L := [_, _, _, _, _, _]) [5]).blk_cell 0
              have cs := (own2.pick (L := [_, _, _, _, _, _, _, _, _]) [8]).blk_cell 0
              have cr := (own2.pick (L := [_, _, _, _, _, _, _, _, _, _]) [9]).blk_cell 0
              simp only [List.getElem?_toArray, List.getElem?_cons_zero] at ck cg cs cr
              obtain ⟨g1, hg⟩ : ∃ k, W.heap.size = k := ⟨_, rfl⟩
              have own3 := own2.alloc #[.int .i64 1] 3
              rw [hg] at own3
              have P1 := Lib.hid (own3.pick (L := [_, _, _, _, _, _, _, _, _, _, _]) [4, 5, 6, 7, 8, 9, 0, 3])
              have HG := Lib.hid hg
              clear own2 own3 hg

              gi_wp2
              obtain ⟨W1, hW⟩ : ∃ V, W.alloc (.cells #[.int .i64 1] 3) = V := ⟨_, rfl⟩
              rw [hW] at P1
              simp only [HG.out, hW]
              clear hW HG ck cg cs cr
              have c18 := (P1.out.pick (L := [_, _, _, _, _, _, _]) [6]).blk_cell 0
              simp only [List.getElem?_toArray, List.getElem?_cons_zero] at c18
              obtain ⟨kb1, hkb⟩ : ∃ k, W1.heap.size = k := ⟨_, rfl⟩
              have Q1 := (P1.out.alloc #[.int .i64 0] 3).alloc #[.int .i64 0] 3
              simp only [World.size_alloc, hkb] at Q1
              have HKb := Lib.hid hkb
              clear hkb
              refine wpIn_loop_rounds_succ ?_
              gi_wp2
              simp only [World.size_alloc, HKb.out]
              clear c18 HKb
              refine wpIn_rangeOwn (Rest := SP.blk q 22 #[.slice A4 b.length c4] :: SP.row 5 1 (.slice A4 b.length c4) (bts b) :: SP.blk g10 40 #[.slice A3 F.length c3] :: SP.mat 22 5 (.slice A3 F.length c3) (F.map bts) :: SP.blk (s + 1) 4 #[.bool false] :: SP.blk s 3 #[.int .i64 a] :: SP.blk g1 3 #[.int .i64 1] :: markObj D0 :: []) (enc := Fr.enc) (give := Fr.give) rfl (by omega) (gf := 40) (lb := #[.pointer (some ⟨q, 0, none⟩)]) rfl trivial (enters_of Try.func40 (by kernel_rfl) rfl)
                (whole1_iter _ (by omega) (HRe.out _) (by have := HC4.out.1; omega) (by have h := HC4.out.2; unfold maxLen at h; exact h) (by omega)) (fun x => rfl) (allsI kb1 (kb1 + 1) (fun n => ¬ (1 ≤ a ∧ a ≤ (n : Int)))) (allsX kb1 (kb1 + 1) (fun n => a = (n : Int))) ?start1_2 ?a1_2 ?assign1_2 ?body1_2 ?done1_2 ?stop1_2
              case assign1_2 =>
                intro l x W K hK
                dsimp only [Fr.enc]
                gi_wp2
                exact hK
              case start1_2 =>
                refine Own.unflat (L := [_, _, _]) (Own.pur ?_ (by simp; omega))
                exact Q1.pick (L := [_, _]) [1, 0]
              case body1_2 =>
                rintro l pre x W B1 hok hown
                obtain ⟨hcond, own2⟩ := (Own.flat (L := [_, _, _]) hown).unpur
                obtain ⟨hFk, hsp2, hpos⟩ := frok_facts hok
                rw [HF.out.1] at hFk
                have hkF : pre.length < F.length := (List.getElem?_eq_some_iff.1 hFk).1
                have e1 : ((span (pays (pre ++ [x])) : Nat) : Int) = ((span (pays pre) : Nat) : Int) + 8 + (x.p.length : Int) := by rw [pays_snoc, span_snoc]; omega
                have e2 : (((pre ++ [x]).length : Nat) : Int) = ((pre.length : Nat) : Int) + 1 := by rw [List.length_append]; rfl
                have HE := Lib.hid (And.intro e1 e2)
                obtain ⟨k, hk⟩ : ∃ k, pre.length = k := ⟨_, rfl⟩
                obtain ⟨sn, hsn⟩ : ∃ k, span (pays pre) = k := ⟨_, rfl⟩
                rw [hk, hsn] at own2 HE
                rw [hk] at hFk hkF hcond
                rw [hsn] at hsp2 hpos
                have HKs := Lib.hid (And.intro hk (And.intro hsn hcond))
                clear hk hsn e1 e2 hown hok hcond
                have ck := own2.blk_cell 0
                have ca := (own2.pick (L := [_, _]) [1]).blk_cell 0
                have cg := (own2.pick (L := [_, _, _, _, _, _, _]) [6]).blk_cell 0
                have cs := (own2.pick (L := [_, _, _, _, _, _, _, _, _, _]) [9]).blk_cell 0
                have cr := (own2.pick (L := [_, _, _, _, _, _, _, _, _, _, _]) [10]).blk_cell 0
                obtain ⟨b7, o7, A7, c7, hA7, hc7, -, -, hr7⟩ := (own2.pick (L := [_, _, _, _, _, _, _, _]) [7]).mat_rdm k x.p hFk
                subst hA7
                have HS := Lib.hid (same_own (ca := x.c) (cb := c7) own2 ((own2.pick (L := [_, _, _]) [2]).rd) hr7 (by omega))
                simp only [List.getElem?_toArray, List.getElem?_cons_zero] at ck ca cg cs cr
                have hq : ((x.pos : Int) != (sn : Int)) = false := by simp; omega
                have k0 : (0 : Int) ≤ (k : Int) := by omega
                have k1 : (k : Int) < (F.length : Int) := by omega
                clear own2 hr7 hFk hpos
                gi_wp2_with fail
                refine ⟨trivial, (CallsIn.inRound l (callsIn_wide.2 HS.out)).mono ?_⟩
                rintro e W3 ⟨rfl, own3⟩
                have O3 := Lib.hid own3
                have ck := own3.blk_cell 0
                have fk := own3.blk_free 0
                have ca := (own3.pick (L := [_, _]) [1]).blk_cell 0
                have fa := (own3.pick (L := [_, _]) [1]).blk_free 0
                have cs := (own3.pick (L := [_, _, _, _, _, _, _, _, _, _]) [9]).blk_cell 0
                have cr := (own3.pick (L := [_, _, _, _, _, _, _, _, _, _, _]) [10]).blk_cell 0
                simp only [List.getElem?_toArray, List.getElem?_cons_zero] at ck ca cs cr
                clear own3 HS
                have O4 := (O3.out.pick (L := [_, _]) [1, 0]).blk_set 0 (.int .i64 ((sn : Int) + 8 + (x.p.length : Int)))
                have O5 := Lib.hid ((O4.pick (L := [_, _]) [1, 0]).blk_set 0 (.int .i64 ((k : Int) + 1)))
                have ck5 := O5.out.blk_cell 0
                have cs5 := (O5.out.pick (L := [_, _, _, _, _, _, _, _, _, _]) [9]).blk_cell 0
                have cr5 := (O5.out.pick (L := [_, _, _, _, _, _, _, _, _, _, _]) [10]).blk_cell 0
                simp only [List.setIfInBounds_toArray, List.set_cons_zero, List.getElem?_toArray, List.getElem?_cons_zero] at ck5 cs5 cr5
                clear O4
                by_cases hst : ((k : Int) + 1) = a
                · have hb1 : (((k : Int) + 1) == a) = true := by simp; omega
                  have HSt := Lib.hid hst
                  clear hst
                  gi_wp2
                  refine Own.unflat (L := [_, _, _]) (Own.pur ?_ ⟨rfl, by show a = (((pre ++ [x]).length : Nat) : Int); rw [HE.out.2]; exact HSt.out.symm⟩)
                  rw [HE.out.1, HE.out.2]
                  exact O5.out.pick (L := [_, _, _]) [0, 1]
                · have hb1 : (((k : Int) + 1) == a) = false := by simp; omega
                  have HSt := Lib.hid hst
                  clear hst
                  gi_wp2
                  refine Own.unflat (L := [_, _, _]) (Own.pur ?_ (by have h1 := HKs.out.2.2; have h2 := HSt.out; have h3 := HE.out.2; show ¬ (1 ≤ a ∧ a ≤ (((pre ++ [x]).length : Nat) : Int)); rw [h3]; omega))
                  rw [HE.out.1, HE.out.2]
                  exact O5.out.pick (L := [_, _, _]) [0, 1]
              case done1_2 =>
                intro D1 xs W hxs hown
                obtain ⟨hcond, own2⟩ := (Own.flat (L := [_, _, _]) hown).unpur
                have hxl : xs.length = F.length := by rw [← pays_length, hxs, HF.out.1]
                rw [hxl] at own2 hcond
                clear hxs hown hxl
                have hq : ((F.length : Int) != (F.length : Int)) = false := by simp
                by_cases hpos : 0 < a
                · have hmin : (F.length : Int) < a := by omega
                  clear hcond
                  have ck := own2.blk_cell 0
                  have cg := (own2.pick (L := [_, _, _, _, _, _]) [5]).blk_cell 0
                  have cs := (own2.pick (L := [_, _, _, _, _, _, _, _, _]) [8]).blk_cell 0
                  have cr := (own2.pick (L := [_, _, _, _, _, _, _, _, _, _]) [9]).blk_cell 0
                  simp only [List.getElem?_toArray, List.getElem?_cons_zero] at ck cg cs cr
                  obtain ⟨g2, hg⟩ : ∃ k, W.heap.size = k := ⟨_, rfl⟩
                  have own3 := own2.alloc #[.int .i64 2] 3
                  rw [hg] at own3
                  have P2 := Lib.hid (own3.pick (L := [_, _, _, _, _, _, _, _, _, _, _, _]) [4, 5, 6, 7, 8, 9, 0, 3, 11])
                  have HG := Lib.hid hg
                  clear own2 own3 hg

                  gi_wp2
                  obtain ⟨W2, hW⟩ : ∃ V, W.alloc (.cells #[.int .i64 2] 3) = V := ⟨_, rfl⟩
                  rw [hW] at P2
                  simp only [HG.out, hW]
                  clear hW HG ck cg cs cr
                  have c18 := (P2.out.pick (L := [_, _, _, _, _, _, _]) [6]).blk_cell 0
                  simp only [List.getElem?_toArray, List.getElem?_cons_zero] at c18
                  obtain ⟨kb2, hkb⟩ : ∃ k, W2.heap.size = k := ⟨_, rfl⟩
                  have Q2 := (P2.out.alloc #[.int .i64 0] 3).alloc #[.int .i64 0] 3
                  simp only [World.size_alloc, hkb] at Q2
                  have HKb := Lib.hid hkb
                  clear hkb
                  refine wpIn_loop_rounds_succ ?_
                  gi_wp2
                  simp only [World.size_alloc, HKb.out]
                  clear c18 HKb
                  refine wpIn_rangeOwn (Rest := SP.blk q 22 #[.slice A4 b.length c4] :: SP.row 5 1 (.slice A4 b.length c4) (bts b) :: SP.blk g10 40 #[.slice A3 F.length c3] :: SP.mat 22 5 (.slice A3 F.length c3) (F.map bts) :: SP.blk (s + 1) 4 #[.bool false] :: SP.blk s 3 #[.int .i64 a] :: SP.blk g2 3 #[.int .i64 2] :: markObj D1 :: markObj D0 :: []) (enc := Fr.enc) (give := Fr.give) rfl (by omega) (gf := 40) (lb := #[.pointer (some ⟨q, 0, none⟩)]) rfl trivial (enters_of Try.func40 (by kernel_rfl) rfl)
                    (whole1_iter _ (by omega) (HRe.out _) (by have := HC4.out.1; omega) (by have h := HC4.out.2; unfold maxLen at h; exact h) (by omega)) (fun x => rfl) (allsI kb2 (kb2 + 1) (fun _ => True)) (allsX kb2 (kb2 + 1) (fun _ => False)) ?start2_3 ?a2_3 ?assign2_3 ?body2_3 ?done2_3 ?stop2_3
                  case assign2_3 =>
                    intro l x W K hK
                    dsimp only [Fr.enc]
                    gi_wp2
                    exact hK
                  case start2_3 =>
                    refine Own.unflat (L := [_, _, _]) (Own.pur ?_ trivial)
                    exact Q2.pick (L := [_, _]) [1, 0]
                  case body2_3 =>
                    rintro l pre x W B1 hok hown
                    obtain ⟨hcond, own2⟩ := (Own.flat (L := [_, _, _]) hown).unpur
                    obtain ⟨hFk, hsp2, hpos⟩ := frok_facts hok
                    rw [HF.out.1] at hFk
                    have hkF : pre.length < F.length := (List.getElem?_eq_some_iff.1 hFk).1
                    have e1 : ((span (pays (pre ++ [x])) : Nat) : Int) = ((span (pays pre) : Nat) : Int) + 8 + (x.p.length : Int) := by rw [pays_snoc, span_snoc]; omega
                    have e2 : (((pre ++ [x]).length : Nat) : Int) = ((pre.length : Nat) : Int) + 1 := by rw [List.length_append]; rfl
                    have HE := Lib.hid (And.intro e1 e2)
                    obtain ⟨k, hk⟩ : ∃ k, pre.length = k := ⟨_, rfl⟩
                    obtain ⟨sn, hsn⟩ : ∃ k, span (pays pre) = k := ⟨_, rfl⟩
                    rw [hk, hsn] at own2 HE
                    rw [hk] at hFk hkF
                    rw [hsn] at hsp2 hpos
                    have HKs := Lib.hid (And.intro hk (And.intro hsn hcond))
                    clear hk hsn e1 e2 hown hok hcond
                    have ck := own2.blk_cell 0
                    have ca := (own2.pick (L := [_, _]) [1]).blk_cell 0
                    have cg := (own2.pick (L := [_, _, _, _, _, _, _]) [6]).blk_cell 0
                    have cs := (own2.pick (L := [_, _, _, _, _, _, _, _, _, _]) [9]).blk_cell 0
                    have cr := (own2.pick (L := [_, _, _, _, _, _, _, _, _, _, _]) [10]).blk_cell 0
                    obtain ⟨b7, o7, A7, c7, hA7, hc7, -, -, hr7⟩ := (own2.pick (L := [_, _, _, _, _, _, _, _]) [7]).mat_rdm k x.p hFk
                    subst hA7
                    have HS := Lib.hid (same_own (ca := x.c) (cb := c7) own2 ((own2.pick (L := [_, _, _]) [2]).rd) hr7 (by omega))
                    simp only [List.getElem?_toArray, List.getElem?_cons_zero] at ck ca cg cs cr
                    have hq : ((x.pos : Int) != (sn : Int)) = false := by simp; omega
                    have k0 : (0 : Int) ≤ (k : Int) := by omega
                    have k1 : (k : Int) < (F.length : Int) := by omega
                    clear own2 hr7 hFk hpos
                    gi_wp2_with fail
                    refine ⟨trivial, (CallsIn.inRound l (callsIn_wide.2 HS.out)).mono ?_⟩
                    rintro e W3 ⟨rfl, own3⟩
                    have O3 := Lib.hid own3
                    have ck := own3.blk_cell 0
                    have fk := own3.blk_free 0
                    have ca := (own3.pick (L := [_, _]) [1]).blk_cell 0
                    have fa := (own3.pick (L := [_, _]) [1]).blk_free 0
                    have cs := (own3.pick (L := [_, _, _, _, _, _, _, _, _, _]) [9]).blk_cell 0
                    have cr := (own3.pick (L := [_, _, _, _, _, _, _, _, _, _, _]) [10]).blk_cell 0
                    simp only [List.getElem?_toArray, List.getElem?_cons_zero] at ck ca cs cr
                    clear own3 HS
                    have O4 := (O3.out.pick (L := [_, _]) [1, 0]).blk_set 0 (.int .i64 ((sn : Int) + 8 + (x.p.length : Int)))
                    have O5 := Lib.hid ((O4.pick (L := [_, _]) [1, 0]).blk_set 0 (.int .i64 ((k : Int) + 1)))
                    have ck5 := O5.out.blk_cell 0
                    have cs5 := (O5.out.pick (L := [_, _, _, _, _, _, _, _, _, _]) [9]).blk_cell 0
                    have cr5 := (O5.out.pick (L := [_, _, _, _, _, _, _, _, _, _, _]) [10]).blk_cell 0
                    simp only [List.setIfInBounds_toArray, List.set_cons_zero, List.getElem?_toArray, List.getElem?_cons_zero] at ck5 cs5 cr5
                    clear O4
                    gi_wp2
                    refine Own.unflat (L := [_, _, _]) (Own.pur ?_ trivial)
                    rw [HE.out.1, HE.out.2]
                    exact O5.out.pick (L := [_, _, _]) [0, 1]
                  case done2_3 =>
                    intro D2 xs W hxs hown
                    obtain ⟨hcond, own2⟩ := (Own.flat (L := [_, _, _]) hown).unpur
                    have hxl : xs.length = F.length := by rw [← pays_length, hxs, HF.out.1]
                    rw [hxl] at own2
                    clear hxs hown hxl
                    have hq : ((F.length : Int) != (F.length : Int)) = false := by simp
                    have ck := own2.blk_cell 0
                    have cg := (own2.pick (L := [_, _, _, _, _, _]) [5]).blk_cell 0
                    have cs := (own2.pick (L := [_, _, _, _, _, _, _, _, _]) [8]).blk_cell 0
                    have cr := (own2.pick (L := [_, _, _, _, _, _, _, _, _, _]) [9]).blk_cell 0
                    simp only [List.getElem?_toArray, List.getElem?_cons_zero] at ck cg cs cr
                    obtain ⟨g3, hg⟩ : ∃ k, W.heap.size = k := ⟨_, rfl⟩
                    have own3 := own2.alloc #[.int .i64 3] 3
                    rw [hg] at own3
                    have P3 := Lib.hid (own3.pick (L := [_, _, _, _, _, _, _, _, _, _, _, _, _]) [4, 5, 6, 7, 8, 9, 0, 3, 11, 12])
                    have HG := Lib.hid hg
                    clear own2 own3 hg

                    gi_wp2
                    obtain ⟨W3, hW⟩ : ∃ V, W.alloc (.cells #[.int .i64 3] 3) = V := ⟨_, rfl⟩
                    rw [hW] at P3
                    simp only [HG.out, hW]
                    clear hW HG ck cg cs cr
                    have c18 := (P3.out.pick (L := [_, _, _, _, _, _, _]) [6]).blk_cell 0
                    have cr := (P3.out.pick (L := [_, _, _, _, _]) [4]).blk_cell 0
                    have fr := (P3.out.pick (L := [_, _, _, _, _]) [4]).blk_free 0
                    simp only [List.getElem?_toArray, List.getElem?_cons_zero] at c18 cr
                    have own4 := (P3.out.pick (L := [_, _, _, _, _, _, _, _, _, _]) [4, 7, 8, 9]).blk_set 0 (.bool true)
                    have OE := Lib.hid (own4.pick (L := [_, _, _, _]) [1, 2, 3, 0])
                    clear own4
                    refine wpIn_loop_rounds_succ ?_
                    gi_wp2
                    refine leaves_marks (R := [SP.blk (s + 1) 4 #[.bool true]]) (fun V hV => ?_) [D2, D1, D0] _ OE.out
                    have c5 := hV.blk_cell 0
                    simp only [List.getElem?_toArray, List.getElem?_cons_zero] at c5
                    exact ⟨.bool true, by simp [results, Try.results7, go_sem, c5], rfl, hV.below⟩
                  case stop2_3 =>
                    rintro D c pre W ⟨hne, hcome⟩ hown
                    exact absurd (Own.flat (L := [_, _, _]) hown).unpur.1.2 (fun h => h)
                · clear hcond
                  have ck := own2.blk_cell 0
                  have cg := (own2.pick (L := [_, _, _, _, _, _]) [5]).blk_cell 0
                  have cs := (own2.pick (L := [_, _, _, _, _, _, _, _, _]) [8]).blk_cell 0
                  have cr := (own2.pick (L := [_, _, _, _, _, _, _, _, _, _]) [9]).blk_cell 0
                  simp only [List.getElem?_toArray, List.getElem?_cons_zero] at ck cg cs cr
                  obtain ⟨g2, hg⟩ : ∃ k, W.heap.size = k := ⟨_, rfl⟩
                  have own3 := own2.alloc #[.int .i64 2] 3
                  rw [hg] at own3
                  have P2 := Lib.hid (own3.pick (L := [_, _, _, _, _, _, _, _, _, _, _, _]) [4, 5, 6, 7, 8, 9, 0, 3, 11])
                  have HG := Lib.hid hg
                  clear own2 own3 hg

                  gi_wp2
                  obtain ⟨W2, hW⟩ : ∃ V, W.alloc (.cells #[.int .i64 2] 3) = V := ⟨_, rfl⟩
                  rw [hW] at P2
                  simp only [HG.out, hW]
                  clear hW HG ck cg cs cr
                  have c18 := (P2.out.pick (L := [_, _, _, _, _, _, _]) [6]).blk_cell 0
                  simp only [List.getElem?_toArray, List.getElem?_cons_zero] at c18
                  obtain ⟨kb2, hkb⟩ : ∃ k, W2.heap.size = k := ⟨_, rfl⟩
                  have Q2 := (P2.out.alloc #[.int .i64 0] 3).alloc #[.int .i64 0] 3
                  simp only [World.size_alloc, hkb] at Q2
                  have HKb := Lib.hid hkb
                  clear hkb
                  refine wpIn_loop_rounds_succ ?_
                  gi_wp2
                  simp only [World.size_alloc, HKb.out]
                  clear c18 HKb
                  refine wpIn_rangeOwn (Rest := SP.blk q 22 #[.slice A4 b.length c4] :: SP.row 5 1 (.slice A4 b.length c4) (bts b) :: SP.blk g10 40 #[.slice A3 F.length c3] :: SP.mat 22 5 (.slice A3 F.length c3) (F.map bts) :: SP.blk (s + 1) 4 #[.bool false] :: SP.blk s 3 #[.int .i64 a] :: SP.blk g2 3 #[.int .i64 2] :: markObj D1 :: markObj D0 :: []) (enc := Fr.enc) (give := Fr.give) rfl (by omega) (gf := 40) (lb := #[.pointer (some ⟨q, 0, none⟩)]) rfl trivial (enters_of Try.func40 (by kernel_rfl) rfl)
                    (whole1_iter _ (by omega) (HRe.out _) (by have := HC4.out.1; omega) (by have h := HC4.out.2; unfold maxLen at h; exact h) (by omega)) (fun x => rfl) (allsI kb2 (kb2 + 1) (fun _ => True)) (allsX kb2 (kb2 + 1) (fun _ => False)) ?start2_4 ?a2_4 ?assign2_4 ?body2_4 ?done2_4 ?stop2_4
                  case assign2_4 =>
                    intro l x W K hK
                    dsimp only [Fr.enc]
                    gi_wp2
                    exact hK
                  case start2_4 =>
                    refine Own.unflat (L := [_, _, _]) (Own.pur ?_ trivial)
                    exact Q2.pick (L := [_, _]) [1, 0]
                  case body2_4 =>
                    rintro l pre x W B1 hok hown
                    obtain ⟨hcond, own2⟩ := (Own.flat (L := [_, _, _]) hown).unpur
                    obtain ⟨hFk, hsp2, hpos⟩ := frok_facts hok
                    rw [HF.out.1] at hFk
                    have hkF : pre.length < F.length := (List.getElem?_eq_some_iff.1 hFk).1
                    have e1 : ((span (pays (pre ++ [x])) : Nat) : Int) = ((span (pays pre) : Nat) : Int) + 8 + (x.p.length : Int) := by rw [pays_snoc, span_snoc]; omega
                    have e2 : (((pre ++ [x]).length : Nat) : Int) = ((pre.length : Nat) : Int) + 1 := by rw [List.length_append]; rfl
                    have HE := Lib.hid (And.intro e1 e2)
                    obtain ⟨k, hk⟩ : ∃ k, pre.length = k := ⟨_, rfl⟩
                    obtain ⟨sn, hsn⟩ : ∃ k, span (pays pre) = k := ⟨_, rfl⟩
                    rw [hk, hsn] at own2 HE
                    rw [hk] at hFk hkF
                    rw [hsn] at hsp2 hpos
                    have HKs := Lib.hid (And.intro hk (And.intro hsn hcond))
                    clear hk hsn e1 e2 hown hok hcond
                    have ck := own2.blk_cell 0
                    have ca := (own2.pick (L := [_, _]) [1]).blk_cell 0
                    have cg := (own2.pick (L := [_, _, _, _, _, _, _]) [6]).blk_cell 0
                    have cs := (own2.pick (L := [_, _, _, _, _, _, _, _, _, _]) [9]).blk_cell 0
                    have cr := (own2.pick (L := [_, _, _, _, _, _, _, _, _, _, _]) [10]).blk_cell 0
                    obtain ⟨b7, o7, A7, c7, hA7, hc7, -, -, hr7⟩ := (own2.pick (L := [_, _, _, _, _, _, _, _]) [7]).mat_rdm k x.p hFk
                    subst hA7
                    have HS := Lib.hid (same_own (ca := x.c) (cb := c7) own2 ((own2.pick (L := [_, _, _]) [2]).rd) hr7 (by omega))
                    simp only [List.getElem?_toArray, List.getElem?_cons_zero] at ck ca cg cs cr
                    have hq : ((x.pos : Int) != (sn : Int)) = false := by simp; omega
                    have k0 : (0 : Int) ≤ (k : Int) := by omega
                    have k1 : (k : Int) < (F.length : Int) := by omega
                    clear own2 hr7 hFk hpos
                    gi_wp2_with fail
                    refine ⟨trivial, (CallsIn.inRound l (callsIn_wide.2 HS.out)).mono ?_⟩
                    rintro e W3 ⟨rfl, own3⟩
                    have O3 := Lib.hid own3
                    have ck := own3.blk_cell 0
                    have fk := own3.blk_free 0
                    have ca := (own3.pick (L := [_, _]) [1]).blk_cell 0
                    have fa := (own3.pick (L := [_, _]) [1]).blk_free 0
                    have cs := (own3.pick (L := [_, _, _, _, _, _, _, _, _, _]) [9]).blk_cell 0
                    have cr := (own3.pick (L := [_, _, _, _, _, _, _, _, _, _, _]) [10]).blk_cell 0
                    simp only [List.getElem?_toArray, List.getElem?_cons_zero] at ck ca cs cr
                    clear own3 HS
                    have O4 := (O3.out.pick (L := [_, _]) [1, 0]).blk_set 0 (.int .i64 ((sn : Int) + 8 + (x.p.length : Int)))
                    have O5 := Lib.hid ((O4.pick (L := [_, _]) [1, 0]).blk_set 0 (.int .i64 ((k : Int) + 1)))
                    have ck5 := O5.out.blk_cell 0
                    have cs5 := (O5.out.pick (L := [_, _, _, _, _, _, _, _, _, _]) [9]).blk_cell 0
                    have cr5 := (O5.out.pick (L := [_, _, _, _, _, _, _, _, _, _, _]) [10]).blk_cell 0
                    simp only [List.setIfInBounds_toArray, List.set_cons_zero, List.getElem?_toArray, List.getElem?_cons_zero] at ck5 cs5 cr5
                    clear O4
                    gi_wp2
                    refine Own.unflat (L := [_, _, _]) (Own.pur ?_ trivial)
                    rw [HE.out.1, HE.out.2]
                    exact O5.out.pick (L := [_, _, _]) [0, 1]
                  case done2_4 =>
                    intro D2 xs W hxs hown
                    obtain ⟨hcond, own2⟩ := (Own.flat (L := [_, _, _]) hown).unpur
                    have hxl : xs.length = F.length := by rw [← pays_length, hxs, HF.out.1]
                    rw [hxl] at own2
                    clear hxs hown hxl
                    have hq : ((F.length : Int) != (F.length : Int)) = false := by simp
                    have ck := own2.blk_cell 0
                    have cg := (own2.pick (L := [_, _, _, _, _, _]) [5]).blk_cell 0
                    have cs := (own2.pick (L := [_, _, _, _, _, _, _, _, _]) [8]).blk_cell 0
                    have cr := (own2.pick (L := [_, _, _, _, _, _, _, _, _, _]) [9]).blk_cell 0
                    simp only [List.getElem?_toArray, List.getElem?_cons_zero] at ck cg cs cr
                    obtain ⟨g3, hg⟩ : ∃ k, W.heap.size = k := ⟨_, rfl⟩
                    have own3 := own2.alloc #[.int .i64 3] 3
                    rw [hg] at own3
                    have P3 := Lib.hid (own3.pick (L := [_, _, _, _, _, _, _, _, _, _, _, _, _]) [4, 5, 6, 7, 8, 9, 0, 3, 11, 12])
                    have HG := Lib.hid hg
                    clear own2 own3 hg

                    gi_wp2
                    obtain ⟨W3, hW⟩ : ∃ V, W.alloc (.cells #[.int .i64 3] 3) = V := ⟨_, rfl⟩
                    rw [hW] at P3
                    simp only [HG.out, hW]
                    clear hW HG ck cg cs cr
                    have c18 := (P3.out.pick (L := [_, _, _, _, _, _, _]) [6]).blk_cell 0
                    have cr := (P3.out.pick (L := [_, _, _, _, _]) [4]).blk_cell 0
                    have fr := (P3.out.pick (L := [_, _, _, _, _]) [4]).blk_free 0
                    simp only [List.getElem?_toArray, List.getElem?_cons_zero] at c18 cr
                    have own4 := (P3.out.pick (L := [_, _, _, _, _, _, _, _, _, _]) [4, 7, 8, 9]).blk_set 0 (.bool true)
                    have OE := Lib.hid (own4.pick (L := [_, _, _, _]) [1, 2, 3, 0])
                    clear own4
                    refine wpIn_loop_rounds_succ ?_
                    gi_wp2
                    refine leaves_marks (R := [SP.blk (s + 1) 4 #[.bool true]]) (fun V hV => ?_) [D2, D1, D0] _ OE.out
                    have c5 := hV.blk_cell 0
                    simp only [List.getElem?_toArray, List.getElem?_cons_zero] at c5
                    exact ⟨.bool true, by simp [results, Try.results7, go_sem, c5], rfl, hV.below⟩
                  case stop2_4 =>
                    rintro D c pre W ⟨hne, hcome⟩ hown
                    exact absurd (Own.flat (L := [_, _, _]) hown).unpur.1.2 (fun h => h)
              case stop1_2 =>

                rintro D1 c pre W ⟨hne, hcome⟩ hown
                obtain ⟨⟨rfl, hst⟩, own2⟩ := (Own.flat (L := [_, _, _]) hown).unpur
                have hpl : pre.length ≤ F.length := by
                  have h1 := hcome.1
                  rw [HF.out.1] at h1
                  rw [h1, List.length_append, pays_length]
                  omega
                have hp0 : 0 < pre.length := List.length_pos_iff.2 hne
                obtain ⟨k, hk⟩ : ∃ k, pre.length = k := ⟨_, rfl⟩
                rw [hk] at own2 hst hpl hp0
                have hmin : ¬ (F.length : Int) < a := by omega
                have hpos : 0 < a := by omega
                have hq : ((k : Int) != a) = false := by simp; omega
                clear hne hcome hown hk hst
                have ck := own2.blk_cell 0
                have cg := (own2.pick (L := [_, _, _, _, _, _]) [5]).blk_cell 0
                have cs := (own2.pick (L := [_, _, _, _, _, _, _, _, _]) [8]).blk_cell 0
                have cr := (own2.pick (L := [_, _, _, _, _, _, _, _, _, _]) [9]).blk_cell 0
                simp only [List.getElem?_toArray, List.getElem?_cons_zero] at ck cg cs cr
                obtain ⟨g2, hg⟩ : ∃ k, W.heap.size = k := ⟨_, rfl⟩
                have own3 := own2.alloc #[.int .i64 2] 3
                rw [hg] at own3
                have P2 := Lib.hid (own3.pick (L := [_, _, _, _, _, _, _, _, _, _, _, _]) [4, 5, 6, 7, 8, 9, 0, 3, 11])
                have HG := Lib.hid hg
                clear own2 own3 hg

                gi_wp2
                obtain ⟨W2, hW⟩ : ∃ V, W.alloc (.cells #[.int .i64 2] 3) = V := ⟨_, rfl⟩
                rw [hW] at P2
                simp only [HG.out, hW]
                clear hW HG ck cg cs cr
                have c18 := (P2.out.pick (L := [_, _, _, _, _, _, _]) [6]).blk_cell 0
                simp only [List.getElem?_toArray, List.getElem?_cons_zero] at c18
                obtain ⟨kb2, hkb⟩ : ∃ k, W2.heap.size = k := ⟨_, rfl⟩
                have Q2 := (P2.out.alloc #[.int .i64 0] 3).alloc #[.int .i64 0] 3
                simp only [World.size_alloc, hkb] at Q2
                have HKb := Lib.hid hkb
                clear hkb
                refine wpIn_loop_rounds_succ ?_
                gi_wp2
                simp only [World.size_alloc, HKb.out]
                clear c18 HKb
                refine wpIn_rangeOwn (Rest := SP.blk q 22 #[.slice A4 b.length c4] :: SP.row 5 1 (.slice A4 b.length c4) (bts b) :: SP.blk g10 40 #[.slice A3 F.length c3] :: SP.mat 22 5 (.slice A3 F.length c3) (F.map bts) :: SP.blk (s + 1) 4 #[.bool false] :: SP.blk s 3 #[.int .i64 a] :: SP.blk g2 3 #[.int .i64 2] :: markObj D1 :: markObj D0 :: []) (enc := Fr.enc) (give := Fr.give) rfl (by omega) (gf := 40) (lb := #[.pointer (some ⟨q, 0, none⟩)]) rfl trivial (enters_of Try.func40 (by kernel_rfl) rfl)
                  (whole1_iter _ (by omega) (HRe.out _) (by have := HC4.out.1; omega) (by have h := HC4.out.2; unfold maxLen at h; exact h) (by omega)) (fun x => rfl) (allsI kb2 (kb2 + 1) (fun _ => True)) (allsX kb2 (kb2 + 1) (fun _ => False)) ?start2_5 ?a2_5 ?assign2_5 ?body2_5 ?done2_5 ?stop2_5
                case assign2_5 =>
                  intro l x W K hK
                  dsimp only [Fr.enc]
                  gi_wp2
                  exact hK
                case start2_5 =>
                  refine Own.unflat (L := [_, _, _]) (Own.pur ?_ trivial)
                  exact Q2.pick (L := [_, _]) [1, 0]
                case body2_5 =>
                  rintro l pre x W B1 hok hown
                  obtain ⟨hcond, own2⟩ := (Own.flat (L := [_, _, _]) hown).unpur
                  obtain ⟨hFk, hsp2, hpos⟩ := frok_facts hok
                  rw [HF.out.1] at hFk
                  have hkF : pre.length < F.length := (List.getElem?_eq_some_iff.1 hFk).1
                  have e1 : ((span (pays (pre ++ [x])) : Nat) : Int) = ((span (pays pre) : Nat) : Int) + 8 + (x.p.length : Int) := by rw [pays_snoc, span_snoc]; omega
                  have e2 : (((pre ++ [x]).length : Nat) : Int) = ((pre.length : Nat) : Int) + 1 := by rw [List.length_append]; rfl
                  have HE := Lib.hid (And.intro e1 e2)
                  obtain ⟨k, hk⟩ : ∃ k, pre.length = k := ⟨_, rfl⟩
                  obtain ⟨sn, hsn⟩ : ∃ k, span (pays pre) = k := ⟨_, rfl⟩
                  rw [hk, hsn] at own2 HE
                  rw [hk] at hFk hkF
                  rw [hsn] at hsp2 hpos
                  have HKs := Lib.hid (And.intro hk (And.intro hsn hcond))
                  clear hk hsn e1 e2 hown hok hcond
                  have ck := own2.blk_cell 0
                  have ca := (own2.pick (L := [_, _]) [1]).blk_cell 0
                  have cg := (own2.pick (L := [_, _, _, _, _, _, _]) [6]).blk_cell 0
                  have cs := (own2.pick (L := [_, _, _, _, _, _, _, _, _, _]) [9]).blk_cell 0
                  have cr := (own2.pick (L := [_, _, _, _, _, _, _, _, _, _, _]) [10]).blk_cell 0
                  obtain ⟨b7, o7, A7, c7, hA7, hc7, -, -, hr7⟩ := (own2.pick (L := [_, _, _, _, _, _, _, _]) [7]).mat_rdm k x.p hFk
                  subst hA7
                  have HS := Lib.hid (same_own (ca := x.c) (cb := c7) own2 ((own2.pick (L := [_, _, _]) [2]).rd) hr7 (by omega))
                  simp only [List.getElem?_toArray, List.getElem?_cons_zero] at ck ca cg cs cr
                  have hq : ((x.pos : Int) != (sn : Int)) = false := by simp; omega
                  have k0 : (0 : Int) ≤ (k : Int) := by omega
                  have k1 : (k : Int) < (F.length : Int) := by omega
                  clear own2 hr7 hFk hpos
                  gi_wp2_with fail
                  refine ⟨trivial, (CallsIn.inRound l (callsIn_wide.2 HS.out)).mono ?_⟩
                  rintro e W3 ⟨rfl, own3⟩
                  have O3 := Lib.hid own3
                  have ck := own3.blk_cell 0
                  have fk := own3.blk_free 0
                  have ca := (own3.pick (L := [_, _]) [1]).blk_cell 0
                  have fa := (own3.pick (L := [_, _]) [1]).blk_free 0
                  have cs := (own3.pick (L := [_, _, _, _, _, _, _, _, _, _]) [9]).blk_cell 0
                  have cr := (own3.pick (L := [_, _, _, _, _, _, _, _, _, _, _]) [10]).blk_cell 0
                  simp only [List.getElem?_toArray, List.getElem?_cons_zero] at ck ca cs cr
                  clear own3 HS
                  have O4 := (O3.out.pick (L := [_, _]) [1, 0]).blk_set 0 (.int .i64 ((sn : Int) + 8 + (x.p.length : Int)))
                  have O5 := Lib.hid ((O4.pick (L := [_, _]) [1, 0]).blk_set 0 (.int .i64 ((k : Int) + 1)))
                  have ck5 := O5.out.blk_cell 0
                  have cs5 := (O5.out.pick (L := [_, _, _, _, _, _, _, _, _, _]) [9]).blk_cell 0
                  have cr5 := (O5.out.pick (L := [_, _, _, _, _, _, _, _, _, _, _]) [10]).blk_cell 0
                  simp only [List.setIfInBounds_toArray, List.set_cons_zero, List.getElem?_toArray, List.getElem?_cons_zero] at ck5 cs5 cr5
                  clear O4
                  gi_wp2
                  refine Own.unflat (L := [_, _, _]) (Own.pur ?_ trivial)
                  rw [HE.out.1, HE.out.2]
                  exact O5.out.pick (L := [_, _, _]) [0, 1]
                case done2_5 =>
                  intro D2 xs W hxs hown
                  obtain ⟨hcond, own2⟩ := (Own.flat (L := [_, _, _]) hown).unpur
                  have hxl : xs.length = F.length := by rw [← pays_length, hxs, HF.out.1]
                  rw [hxl] at own2
                  clear hxs hown hxl
                  have hq : ((F.length : Int) != (F.length : Int)) = false := by simp
                  have ck := own2.blk_cell 0
                  have cg := (own2.pick (L := [_, _, _, _, _, _]) [5]).blk_cell 0
                  have cs := (own2.pick (L := [_, _, _, _, _, _, _, _, _]) [8]).blk_cell 0
                  have cr := (own2.pick (L := [_, _, _, _, _, _, _, _, _, _]) [9]).blk_cell 0
                  simp only [List.getElem?_toArray, List.getElem?_cons_zero] at ck cg cs cr
                  obtain ⟨g3, hg⟩ : ∃ k, W.heap.size = k := ⟨_, rfl⟩
                  have own3 := own2.alloc #[.int .i64 3] 3
                  rw [hg] at own3
                  have P3 := Lib.hid (own3.pick (L := [_, _, _, _, _, _, _, _, _, _, _, _, _]) [4, 5, 6, 7, 8, 9, 0, 3, 11, 12])
                  have HG := Lib.hid hg
                  clear own2 own3 hg

                  gi_wp2
                  obtain ⟨W3, hW⟩ : ∃ V, W.alloc (.cells #[.int .i64 3] 3) = V := ⟨_, rfl⟩
                  rw [hW] at P3
                  simp only [HG.out, hW]
                  clear hW HG ck cg cs cr
                  have c18 := (P3.out.pick (L := [_, _, _, _, _, _, _]) [6]).blk_cell 0
                  have cr := (P3.out.pick (L := [_, _, _, _, _]) [4]).blk_cell 0
                  have fr := (P3.out.pick (L := [_, _, _, _, _]) [4]).blk_free 0
                  simp only [List.getElem?_toArray, List.getElem?_cons_zero] at c18 cr
                  have own4 := (P3.out.pick (L := [_, _, _, _, _, _, _, _, _, _]) [4, 7, 8, 9]).blk_set 0 (.bool true)
                  have OE := Lib.hid (own4.pick (L := [_, _, _, _]) [1, 2, 3, 0])
                  clear own4
                  refine wpIn_loop_rounds_succ ?_
                  gi_wp2
                  refine leaves_marks (R := [SP.blk (s + 1) 4 #[.bool true]]) (fun V hV => ?_) [D2, D1, D0] _ OE.out
                  have c5 := hV.blk_cell 0
                  simp only [List.getElem?_toArray, List.getElem?_cons_zero] at c5
                  exact ⟨.bool true, by simp [results, Try.results7, go_sem, c5], rfl, hV.below⟩
                case stop2_5 =>
                  rintro D c pre W ⟨hne, hcome⟩ hown
                  exact absurd (Own.flat (L := [_, _, _]) hown).unpur.1.2 (fun h => h)
            case stop0_1 =>
              rintro D c pre W ⟨hne, hcome⟩ hown
              exact absurd (Own.flat (L := [_, _, _]) hown).unpur.1.2 (fun h => h)
end Go.Proofs.Ytonomljdljcmaaa
