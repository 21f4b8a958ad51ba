/-
  All: the payloads of the frames from the beginning on.
  Conditions: the bytes can be read in whatever world comes while no memory of theirs is turned.
-/
import Derived.Test.YtonomljdljcmaaaWhole
import Derived.Test.YtonomljdljcmaaaLists
namespace Go.Proofs.Ytonomljdljcmaaa
set_option linter.unusedVariables false
set_option linter.unusedSimpArgs false
open Go.RowKit Go.Shelf
attribute [local go_sem] Oper.semAt_some

theorem Try.info22 : (Try.prog.info? 22).map (fun i => (i.zero, i.size, i.bytes)) = some (some (.slice none 0 0), 1, 24) := by kernel_rfl

section
variable {S : Nat → Prop} {w0 w : World} {R : List SP}
theorem Own.mat_nil (h : Own S w0 w R) (te e : TypeId) : Own S w0 w (SP.mat te e (.slice none 0 0) [] :: R) := by
  refine Own.mat_shut (vs := []) rfl ?_
  exact ((h.add (B := SP.stars (inner e [] [])) trivial).add (SP.row_nil _ _ _ _))
theorem inner_snoc {e : TypeId} {vs : List Value} {L : List (List Value)} (h : vs.length = L.length) (u : Value) (ys : List Value) : inner e (vs ++ [u]) (L ++ [ys]) = inner e vs L ++ [SP.row e 1 u ys] := by
  simp [inner, List.zipWith_append h]
theorem Own.mat_snoc {te e : TypeId} {v u : Value} {vs : List Value} {L : List (List Value)} {ys : List Value} (hl : vs.length = L.length) (h : Own S w0 w (SP.row te 1 v (vs ++ [u]) :: SP.stars (inner e vs L) :: SP.row e 1 u ys :: R)) : Own S w0 w (SP.mat te e v (L ++ [ys]) :: R) := by
  refine Own.mat_shut (vs := vs ++ [u]) (by simp [hl]) ?_
  rw [inner_snoc hl]
  have h1 : Own S w0 w (inner e vs L ++ (SP.row e 1 u ys :: SP.row te 1 v (vs ++ [u]) :: R)) := (h.swap.flat).perm (List.Perm.append_left _ (List.Perm.swap _ _ _))
  have h2 := Own.unflat (L := inner e vs L ++ [SP.row e 1 u ys]) (R := SP.row te 1 v (vs ++ [u]) :: R) (by simpa using h1)
  exact h2.swap
end

def outI (ob eb : Nat) (pre : List Fr) : SP := SP.ex fun v : Value => SP.stars [SP.blk ob 40 #[v], SP.blk eb 3 #[.int .i64 (span (pays pre) : Nat)], SP.mat 22 5 v ((pays pre).map bts)]

set_option maxRecDepth 100000 in
set_option maxHeartbeats 4000000 in
theorem all_own {S : Nat → Prop} {w0 w : World} {R : List SP} {B : Option Addr} {cb : Nat} {b : List UInt8} (h : Own S w0 w R) (hb : Reads S w0 R B b) (hcb : b.length ≤ cb) (hcb2 : cb ≤ 9223372036854775807) (hbl : b.length ≤ 1000000000) :
    Calls Try.prog 24 #[.slice B b.length cb] w fun e w' => ∃ A' c', e = .returned (.tuple #[.slice A' (frs b).length c', .int .i64 (span (frs b) : Nat), .int .i64 (allErr b : Nat)]) ∧ Own S w0 w' (SP.mat 22 5 (.slice A' (frs b).length c') ((frs b).map bts) :: R) := by
  refine (callsIn_wide (n := 5)).1 ?_
  refine callsIn_of_wp_marks Try.func24 rfl trivial ?_ rfl
  simp only [Try.ntmps24, List.size_toArray, List.length_cons, List.length_nil, Nat.reduceAdd, Nat.reduceSub, Array.replicate_succ, Array.replicate_zero, List.push_toArray, List.append_toArray, List.nil_append, List.cons_append]
  have H := Lib.hid (And.intro h hb)
  clear h hb
  gi_wp2_with fail
  refine ⟨trivial, (callsIn_wide.2 (whole_calls _ _ _ _)).mono ?_⟩
  rintro e w' ⟨rfl, rfl⟩
  gi_wp2
  obtain ⟨q, hq⟩ : ∃ q, w.heap.size = q := ⟨_, rfl⟩
  have o1 := ((((H.out.1.mat_nil 22 5).alloc #[.slice none 0 0] 40).alloc #[.int .i64 0] 3).alloc #[.slice B b.length cb] 22)
  simp only [World.size_alloc, hq] at o1 ⊢
  refine wpIn_rangeOwn (enc := Fr.enc) (give := Fr.give) rfl (by omega) (gf := 40) (lb := #[.pointer (some ⟨q + 1 + 1, 0, none⟩)]) rfl trivial (enters_of Try.func40 (by kernel_rfl) rfl)
    (whole1_iter (R := R) _ (by omega) (Reads.more H.out.2 [_]) hcb hcb2 hbl) (fun x => rfl) (outI q (q + 1)) (fun _ _ => SP.pur False) ?start (fun x => { tmps := #[.slice B b.length cb, undef, .slice none 0 0, .int .i64 0, .int .i64 0, .pointer (some ⟨q, 0, none⟩), .pointer (some ⟨q + 1, 0, none⟩), .int .i64 (x.pos : Nat), .slice x.A x.p.length x.c, undef, undef, undef, .slice B b.length cb, .func (.func 40) #[] #[.pointer (some ⟨q + 1 + 1, 0, none⟩)], .int .i64 (x.pos : Nat), .slice x.A x.p.length x.c, undef, undef, undef, undef, undef, undef, undef, undef, undef, undef, undef, undef, undef, undef, undef, undef, undef, undef, undef, undef, undef, undef, undef, undef, undef], defers := [] }) ?assign ?body ?done ?stop
  case start =>
    refine Own.mkex (.slice none 0 0) (Own.unflat (L := [_, _, _]) ?_)
    exact o1.perm (List.Perm.trans (List.Perm.swap _ _ _) ((List.Perm.cons _ (List.Perm.swap _ _ _)).trans (List.Perm.swap _ _ _) |>.trans (List.Perm.cons _ (List.Perm.cons _ (List.Perm.swap _ _ _)))))
  case assign =>
    intro l x W K hK
    dsimp only [Fr.enc]
    gi_wp2
    exact hK
  case body =>
    rintro l pre x W B1 ⟨hp1, hp2, hp3, hp4⟩ hown
    obtain ⟨v, hown⟩ := hown.unex
    obtain ⟨vs, hvl, hrow⟩ := (hown.flat.pick (L := [_, _, _]) [2, 0, 1]).mat_open
    obtain ⟨A, c, rfl, hc, hm⟩ := SP.row_shape1 hrow.head
    have hl8 : vs.length * 8 ≤ 1000000000 := by
      have h1 := span_length (pays pre)
      have h2 := hp2.2
      rw [hvl, List.length_map]
      omega
    obtain ⟨k, hk⟩ : ∃ k, vs.length = k := ⟨_, rfl⟩
    rw [hk] at hc hrow hl8
    obtain ⟨T, hr, hback⟩ := hrow.grow1 #[.slice x.A x.p.length x.c] 22
    have G := Lib.hid (And.intro hr hback)
    have c0 := (hrow.pick (L := [_, _, _, _]) [2]).blk_cell 0
    simp only [List.getElem?_toArray, List.getElem?_cons_zero] at c0
    have HV := Lib.hid (And.intro hvl hk)
    clear hr hback hrow hvl hk hown
    have hxp : x.pos + 8 + x.p.length ≤ 1000000000 := by
      have h1 := getErr_ok hp3
      rw [hp4]
      rw [List.length_drop] at h1
      omega
    have HX := Lib.hid (And.intro hp1 (And.intro hp2 (And.intro hp3 hp4)))
    clear hp1 hp2 hp3 hp4
    gi_wp2_with (gi_at_builtin; refine wpListIn_append_row rfl (.tmp 16) (.tmp 18) 40 rfl 22 (.slice none 0 0) 1 24 Try.underlying40 Try.info22 rfl (by decide) rfl (by rw [HV.out.2, Nat.mul_one]) G.out.1 _ 1 1 [.slice x.A x.p.length x.c] rfl rfl (rd_one _ _ _) (by simp [Value.oneCell']) (by unfold maxLen; omega) (by omega) ?_)
    rintro A3 c3 w3 - hk3 hr3
    have O3 := Lib.hid (G.out.2 _ _ hk3 hr3)
    clear hk3 hr3
    have c1 := (O3.out.pick (L := [_, _, _, _]) [2]).blk_cell 0
    have c2 := (O3.out.pick (L := [_, _, _, _]) [3]).blk_cell 0
    have f1 := (O3.out.pick (L := [_, _, _, _]) [2]).blk_free 0
    have f2 := (O3.out.pick (L := [_, _, _, _]) [3]).blk_free 0
    simp only [List.getElem?_toArray, List.getElem?_cons_zero] at c1 c2
    gi_wp2
    have O4 := (O3.out.pick (L := [_, _, _, _]) [2, 3, 0, 1]).blk_set 0 (.slice A3 (k + 1) c3)
    have O5 := (O4.pick (L := [_, _, _, _]) [1, 0, 2, 3]).blk_set 0 (.int .i64 ((x.pos : Int) + 8 + (x.p.length : Int)))
    have O6 := Own.mat_snoc (ys := bts x.p) HV.out.1 (O5.pick (L := [_, _, _, _, _]) [2, 3, 4, 0, 1])
    have O7 := O6.pick (L := [_, _, _]) [2, 1, 0]
    refine Own.mkex (.slice A3 (k + 1) c3) (Own.unflat (L := [_, _, _]) ?_)
    have e1 : (span (pays (pre ++ [x])) : Int) = (x.pos : Int) + 8 + (x.p.length : Int) := by rw [pays_snoc, span_snoc, ← HX.out.1]; omega
    have e2 : (pays (pre ++ [x])).map bts = (pays pre).map bts ++ [bts x.p] := by rw [pays_snoc, List.map_append]; rfl
    rw [e1, e2]
    exact O7
  case done =>
    intro D xs W hxs hown
    obtain ⟨v, hown⟩ := hown.unex
    have hown := hown.flat
    rw [hxs] at hown
    obtain ⟨A, c, rfl, hc, hm⟩ : ∃ A c, v = .slice A (frs b).length c ∧ (frs b).length ≤ c ∧ c ≤ maxLen := by
      obtain ⟨vs, hvl, hrow⟩ := (hown.pick (L := [_, _, _]) [2]).mat_open
      obtain ⟨A, c, hv, hc, hm⟩ := SP.row_shape1 hrow.head
      rw [hvl, List.length_map] at hv hc
      exact ⟨A, c, hv, hc, hm⟩
    have c1 := hown.blk_cell 0
    have c2 := (hown.pick (L := [_, _]) [1]).blk_cell 0
    simp only [List.getElem?_toArray, List.getElem?_cons_zero] at c1 c2
    have hsl := span_le b
    have HO := Lib.hid hown
    clear hown hxs hc hm
    obtain ⟨n, hn⟩ : ∃ n, span (frs b) = n := ⟨_, rfl⟩
    have HN := Lib.hid hn
    rw [hn] at hsl c2
    clear hn
    by_cases heq : n = b.length
    · have hne : ((n : Int) == (b.length : Int)) = true := by simp; omega
      have HE := Lib.hid heq
      clear heq
      gi_wp2
      gi_region
      all_goals gi_wp2
      all_goals
        have OD := Lib.hid (Own.drewN (HO.out.pick (L := [_, _, _, _]) [3, 2]) 1)
        refine ⟨by simp, .inl ⟨_, _, rfl, run_takeDeferred (OD.out.obj), ?_⟩⟩
        refine ⟨.tuple #[.slice A (frs b).length c, .int .i64 (n : Nat), .int .i64 0], by simp [results, Try.results24, go_sem], A, c, ?_, ?_⟩
        · rw [HN.out, allErr, if_pos (by rw [HN.out]; exact HE.out)]
          rfl
        · exact ((OD.out.putObj (.deferred none)).pick (L := [_, _, _]) [1])
    · have hne : ((n : Int) == (b.length : Int)) = false := by simp; omega
      have HE := Lib.hid heq
      clear heq
      have HL := Lib.hid (frs_last b)
      have HF := Lib.hid (show allErr b = getErr (b.drop n) by rw [allErr, if_neg (by rw [HN.out]; exact HE.out), HN.out])
      rw [HN.out] at HL
      by_cases h4 : n + 4 ≤ b.length
      · have HG := Lib.hid (get_own (cb := cb) (a := n) HO.out (Reads.more H.out.2 [_, _, _, _, _]) hcb hcb2 hbl h4)
        gi_wp2_with fail
        refine ⟨trivial, (callsIn_wide.2 HG.out).mono ?_⟩
        rintro e w1 (⟨he, -⟩ | ⟨he, rfl, own1⟩)
        · exact absurd he HL.out
        · have c1 := own1.blk_cell 0
          have c2 := (own1.pick (L := [_, _]) [1]).blk_cell 0
          simp only [List.getElem?_toArray, List.getElem?_cons_zero, HN.out] at c1 c2
          have O1 := Lib.hid own1
          rw [← HF.out]
          clear own1 he
          gi_wp2
          gi_region
          all_goals gi_wp2
          all_goals
            have OD := Lib.hid (Own.drewN (O1.out.pick (L := [_, _, _, _]) [3, 2]) 1)
            refine ⟨by simp, .inl ⟨_, _, rfl, run_takeDeferred (OD.out.obj), ?_⟩⟩
            refine ⟨.tuple #[.slice A (frs b).length c, .int .i64 (n : Nat), .int .i64 (allErr b : Nat)], by simp [results, Try.results24, go_sem], A, c, ?_, ?_⟩
            · rw [HN.out]
            · exact ((OD.out.putObj (.deferred none)).pick (L := [_, _, _]) [1])
      · have HG := Lib.hid (get_out (w := W) (B := B) (cb := cb) (n := b.length) (a := (n : Int)) (by omega) (by omega) hbl)
        have HS := Lib.hid (show allErr b = 2 by rw [HF.out, getErr_short (by rw [List.length_drop]; omega)])
        gi_wp2_with fail
        refine ⟨trivial, (callsIn_wide.2 HG.out).mono ?_⟩
        rintro e w1 ⟨rfl, rfl⟩
        gi_wp2
        gi_region
        all_goals gi_wp2
        all_goals
          have OD := Lib.hid (Own.drewN (HO.out.pick (L := [_, _, _, _]) [3, 2]) 1)
          refine ⟨by simp, .inl ⟨_, _, rfl, run_takeDeferred (OD.out.obj), ?_⟩⟩
          refine ⟨.tuple #[.slice A (frs b).length c, .int .i64 (n : Nat), .int .i64 2], by simp [results, Try.results24, go_sem], A, c, ?_, ?_⟩
          · rw [HN.out, HS.out]
            rfl
          · exact ((OD.out.putObj (.deferred none)).pick (L := [_, _, _]) [1])
  case stop =>
    intro D c pre W _ hown
    exact hown.head.elim
end Go.Proofs.Ytonomljdljcmaaa
