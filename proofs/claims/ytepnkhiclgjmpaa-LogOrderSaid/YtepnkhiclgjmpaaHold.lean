/-
  ordered: do a log's marks keep their order; holds: are entries in a log, as far as they are not gone.
  Conditions: the log is in order; each entry that is not gone is what Entries tells of its index.
-/
import Derived.Test.YtepnkhiclgjmpaaLog11
import Derived.Test.YtepnkhiclgjmpaaOrderPure
import Derived.Test.YtepnkhiclgjmpaaRegionNeed
namespace Go.Proofs.Ytepnkhiclgjmpaa
set_option linter.unusedVariables false
set_option linter.unusedSimpArgs false
open Go.RowKit

section
variable {S : Nat → Prop} {w0 w : World} {R : List SP} {g : Nat} {x : Lg}
set_option maxRecDepth 100000 in
set_option maxHeartbeats 3200000 in
theorem ordered_own (hx : x.Ok) (h : Own S w0 w (SP.log 85 g x :: R)) :
    Calls Try.prog 42 #[.pointer (some ⟨g, 0, none⟩)] w fun e w' => e = .returned (.bool true) ∧ Own S w0 w' (SP.log 85 g x :: R) := by
  have hmk := marks_own h
  unfold marksV at hmk
  have HMk := Lib.hid hmk
  obtain ⟨l, hl⟩ : ∃ l, x.lastI = l := ⟨_, rfl⟩
  have HLa := Lib.hid (fun (W : World) (R' : List SP) (o : Own S w0 W (SP.log 85 g x :: R')) => show Calls Try.prog 21 #[.pointer (some ⟨g, 0, none⟩)] W fun e w' => e = .returned (.tuple #[.int .i64 l, .int .i64 x.lastT]) ∧ Own S w0 w' (SP.log 85 g x :: R') by
    have := last_own (by have := hx.len; omega) o (fun j e h => (hx.idx j e h).1)
    rw [hl] at this
    exact this)
  have a0 := hx.a0
  have a1 := hx.a1
  have a2 := hx.a2
  have a3 := hx.a3
  have b2 := hx.b2
  have b3 := hx.b3
  have b4 := hx.b4
  rw [hl] at a3 b4
  clear hmk h hx hl
  go_enter Try.func42, Try.ntmps42
  go_wp2_with fail
  refine (HMk.out).mono ?_
  rintro e w1 ⟨rfl, o1⟩
  have o2 := o1.alloc #[.int .i64 x.h, .int .i64 x.s, .int .i64 x.c, .int .i64 x.ap, .int .i64 x.ad] 65
  obtain ⟨q, hq⟩ : ∃ q, w1.heap.size = q := ⟨_, rfl⟩
  have HQ := Lib.hid hq
  rw [hq] at o2
  have HB := Lib.hid (base_own (o2.pick (L := [_, _]) [1, 0]))
  clear o1 o2 hq HMk
  go_wp2_with fail
  refine (HB.out).mono ?_
  rintro e w2 ⟨rfl, o2⟩
  have HL2 := Lib.hid (HLa.out _ _ o2)
  clear o2 HB HLa
  go_wp2_with fail
  refine (HL2.out).mono ?_
  rintro e w3 ⟨rfl, o3⟩
  simp only [HQ.out]
  have O3 := Lib.hid o3
  have d0 := (o3.pick (L := [_, _]) [1]).blk_cell 0
  have d1 := (o3.pick (L := [_, _]) [1]).blk_cell 1
  have d2 := (o3.pick (L := [_, _]) [1]).blk_cell 2
  have d3 := (o3.pick (L := [_, _]) [1]).blk_cell 3
  have d4 := (o3.pick (L := [_, _]) [1]).blk_cell 4
  simp only [List.getElem?_toArray, List.getElem?_cons_zero, List.getElem?_cons_succ] at d0 d1 d2 d3 d4
  clear o3 HL2
  go_wp2
  go_ret
  exact ⟨rfl, O3.out.pick (L := [_, _]) [0]⟩

set_option maxRecDepth 100000 in
set_option maxHeartbeats 6400000 in
theorem holds_own {A : Option Addr} {c : Nat} {old : List E} (hx : x.Ok) (hl : old.length ≤ 10000) (hok : ∀ m, m ∈ old → x.index < m.index → x.entries m.index 1 = ([m], 0)) (hi64 : ∀ m, m ∈ old → In64 m.index) (hdl : ∀ m, m ∈ old → m.dat.length ≤ 4096)
    (h : Own S w0 w (SP.log 85 g x :: SP.ents 26 (.slice A old.length c) old :: R)) :
    Calls Try.prog 43 #[.pointer (some ⟨g, 0, none⟩), .slice A old.length c] w fun e w' => e = .returned (.bool true) ∧ Own S w0 w' (SP.log 85 g x :: SP.ents 26 (.slice A old.length c) old :: R) := by
  have HB := Lib.hid (base_own h)
  have HX := Lib.hid (And.intro hx (And.intro hok (And.intro hi64 hdl)))
  clear h hx hok hi64 hdl
  go_enter Try.func43, Try.ntmps43
  go_wp2_with fail
  refine (HB.out).mono ?_
  rintro e w1 ⟨rfl, o1⟩
  have O1 := Lib.hid o1
  clear o1 HB
  go_wp2
  go_loopw [7] (fun ti wr => ∃ i : Nat, i ≤ old.length ∧ ti = .int .i64 i ∧ Own S w0 wr (SP.log 85 g x :: SP.ents 26 (.slice A old.length c) old :: R)) (fun ti _ => old.length - (intOf ti).toNat)
  case atStart => exact ⟨0, Nat.zero_le _, rfl, O1.out⟩
  case round =>
    obtain ⟨i, hi, rfl, hown⟩ := hrel
    clear O1
    by_cases hin : i < old.length
    · have i1 : (i : Int) < (old.length : Int) := by omega
      obtain ⟨m, hm⟩ : ∃ m, old[i]? = some m := ⟨_, List.getElem?_eq_getElem hin⟩
      obtain ⟨b, off, Ad, cd, rfl, hb, k0, k1, k2, k3, hc1, hc2, hrd⟩ := (hown.swap.erd) i m hm
      have HO := Lib.hid hown
      have HM := Lib.hid hm
      by_cases hg : m.index ≤ x.index
      · clear hown hm hrd k0 k2 k3
        go_wp2
        go_roundw
        case rel => exact ⟨i + 1, by omega, by go_num, HO.out⟩
        case measure => simp [intOf]; omega
      · have hmem := List.mem_of_getElem? hm
        have hE := entries_own HX.out.1 hown m.index 1 (HX.out.2.2.1 m hmem) ⟨by decide, by decide⟩
        rw [HX.out.2.1 m hmem (by omega)] at hE
        have HE := Lib.hid hE
        have HN := Lib.hid (fun W => num_calls W 0 ⟨by decide, by decide⟩)
        have HD := Lib.hid (HX.out.2.2.2 m hmem)
        clear hown hm hrd hE hmem k0 k2 k3
        go_wp2_with fail
        refine (HE.out).mono ?_
        rintro e w2 ⟨A2, c2, rfl, o2⟩
        have O2 := Lib.hid o2
        have hlen1 : ([m] : List E).length = 1 := rfl
        obtain ⟨b2, off2, Ad2, cd2, rfl, hb2, e0, e1, e2, e3, -, -, hrd2⟩ := (o2.erd) 0 m rfl
        rw [Nat.zero_mul, Nat.add_zero] at e0 e1 e2 e3
        have HRD2 := Lib.hid hrd2
        simp only [List.length_cons, List.length_nil, Nat.zero_add]
        clear o2 HE hrd2
        go_wp2_with fail
        refine (HN.out _).mono ?_
        rintro e w3 ⟨rfl, rfl⟩
        obtain ⟨b3, off3, Ad3, cd3, z, hb3, g0, g1, g2, g3, -, -, hrd3⟩ := ((O2.out.pick (L := [_, _, _]) [2]).erd) i m HM.out
        cases z
        have HSm := Lib.hid (sameent_own (ca := cd2) (cb := cd3) O2.out.drew (a := m) (b := m) HRD2.out.drew hrd3.drew (by have := HD.out; omega))
        rw [show decide (m = m) = true from decide_eq_true rfl] at HSm
        have S8 := Lib.hid (fun (W : World) (o : Own S w0 W (SP.ents 26 (.slice (some ⟨b2, off2, none⟩) 1 c2) [m] :: SP.log 85 g x :: SP.ents 26 (.slice (some ⟨b, off, none⟩) old.length c) old :: R)) => show True from trivial)
        clear hrd3 HN k1 S8
        go_upto_region 9 with (fail)
        refine wp_region_need (fun W => W.cell? ⟨b2, off2, none⟩ = some (.int .i64 m.term) ∧ W.cell? ⟨b2, off2 + 1, none⟩ = some (.int .i64 m.index) ∧ W.cell? ⟨b2, off2 + 2, none⟩ = some (.int .i64 m.kind) ∧ W.cell? ⟨b2, off2 + 3, none⟩ = some (.slice Ad2 m.dat.length cd2) ∧ W.cell? ⟨b, off + i * 4, none⟩ = some (.int .i64 m.term) ∧ W.cell? ⟨b, off + i * 4 + 1, none⟩ = some (.int .i64 m.index) ∧ W.cell? ⟨b, off + i * 4 + 2, none⟩ = some (.int .i64 m.kind) ∧ W.cell? ⟨b, off + i * 4 + 3, none⟩ = some (.slice Ad3 m.dat.length cd3)) (fun j => decide (j < 7)) (by kernel_rfl) ?_
        have HS := Lib.hid (show w2.drew.cell? ⟨b2, off2, none⟩ = some (.int .i64 m.term) ∧ w2.drew.cell? ⟨b2, off2 + 1, none⟩ = some (.int .i64 m.index) ∧ w2.drew.cell? ⟨b2, off2 + 2, none⟩ = some (.int .i64 m.kind) ∧ w2.drew.cell? ⟨b2, off2 + 3, none⟩ = some (.slice Ad2 m.dat.length cd2) ∧ w2.drew.cell? ⟨b, off + i * 4, none⟩ = some (.int .i64 m.term) ∧ w2.drew.cell? ⟨b, off + i * 4 + 1, none⟩ = some (.int .i64 m.index) ∧ w2.drew.cell? ⟨b, off + i * 4 + 2, none⟩ = some (.int .i64 m.kind) ∧ w2.drew.cell? ⟨b, off + i * 4 + 3, none⟩ = some (.slice Ad3 m.dat.length cd3) from ⟨e0, e1, e2, e3, g0, g1, g2, g3⟩)
        obtain ⟨W0, hW0⟩ : ∃ W0, w2.drew = W0 := ⟨_, rfl⟩
        rw [hW0] at HS HSm ⊢
        clear hW0 e0 e1 e2 e3 g0 g1 g2 g3
        refine wpAnyN_take (i := 0) (v := ?v0) (by simp only [List.getElem?_toArray, List.getElem?_cons_succ, List.getElem?_cons_zero]; rfl) (by kernel_rfl) (by intro _ _ _ h; exact h) (Or.inl ⟨by rfl, ?y0⟩) HS.out ?r0
        case y0 =>
          intro W hSW
          try dsimp only at hSW
          obtain ⟨s0, s1, s2, s3, s4, s5, s6, s7⟩ := hSW
          go_simp
          try with_reducible rfl
        simp only [Act.put, List.setIfInBounds_toArray, List.set_cons_zero, List.set_cons_succ]
        refine wpAnyN_take (i := 1) (v := ?v1) (by simp only [List.getElem?_toArray, List.getElem?_cons_succ, List.getElem?_cons_zero]; rfl) (by kernel_rfl) (by intro _ _ _ h; exact h) (Or.inl ⟨by rfl, ?y1⟩) HS.out ?r1
        case y1 =>
          intro W hSW
          try dsimp only at hSW
          obtain ⟨s0, s1, s2, s3, s4, s5, s6, s7⟩ := hSW
          go_simp
          try with_reducible rfl
        simp only [Act.put, List.setIfInBounds_toArray, List.set_cons_zero, List.set_cons_succ]
        refine wpAnyN_take (i := 2) (v := ?v2) (by simp only [List.getElem?_toArray, List.getElem?_cons_succ, List.getElem?_cons_zero]; rfl) (by kernel_rfl) (by intro _ _ _ h; exact h) (Or.inl ⟨by rfl, ?y2⟩) HS.out ?r2
        case y2 =>
          intro W hSW
          try dsimp only at hSW
          obtain ⟨s0, s1, s2, s3, s4, s5, s6, s7⟩ := hSW
          go_simp
          try with_reducible rfl
        simp only [Act.put, List.setIfInBounds_toArray, List.set_cons_zero, List.set_cons_succ]
        refine wpAnyN_take (i := 3) (v := ?v3) (by simp only [List.getElem?_toArray, List.getElem?_cons_succ, List.getElem?_cons_zero]; rfl) (by kernel_rfl) (by intro _ _ _ h; exact h) (Or.inl ⟨by rfl, ?y3⟩) HS.out ?r3
        case y3 =>
          intro W hSW
          try dsimp only at hSW
          obtain ⟨s0, s1, s2, s3, s4, s5, s6, s7⟩ := hSW
          go_simp
          try with_reducible rfl
        simp only [Act.put, List.setIfInBounds_toArray, List.set_cons_zero, List.set_cons_succ]
        refine wpAnyN_take (i := 4) (v := ?v4) (by simp only [List.getElem?_toArray, List.getElem?_cons_succ, List.getElem?_cons_zero]; rfl) (by kernel_rfl) (by intro _ _ _ h; exact h) (Or.inl ⟨by rfl, ?y4⟩) HS.out ?r4
        case y4 =>
          intro W hSW
          try dsimp only at hSW
          obtain ⟨s0, s1, s2, s3, s4, s5, s6, s7⟩ := hSW
          go_simp
          try with_reducible rfl
        simp only [Act.put, List.setIfInBounds_toArray, List.set_cons_zero, List.set_cons_succ]
        refine wpAnyN_take (i := 5) (v := ?v5) (by simp only [List.getElem?_toArray, List.getElem?_cons_succ, List.getElem?_cons_zero]; rfl) (by kernel_rfl) (by intro _ _ _ h; exact h) (Or.inl ⟨by rfl, ?y5⟩) HS.out ?r5
        case y5 =>
          intro W hSW
          try dsimp only at hSW
          obtain ⟨s0, s1, s2, s3, s4, s5, s6, s7⟩ := hSW
          go_simp
          try with_reducible rfl
        simp only [Act.put, List.setIfInBounds_toArray, List.set_cons_zero, List.set_cons_succ]
        refine wpAnyN_take (i := 6) (v := ?v6) (by simp only [List.getElem?_toArray, List.getElem?_cons_succ, List.getElem?_cons_zero]; rfl) (by kernel_rfl) (by intro _ _ _ h; exact h) (Or.inl ⟨by rfl, ?y6⟩) HS.out ?r6
        case y6 =>
          intro W hSW
          try dsimp only at hSW
          obtain ⟨s0, s1, s2, s3, s4, s5, s6, s7⟩ := hSW
          go_simp
          try with_reducible rfl
        simp only [Act.put, List.setIfInBounds_toArray, List.set_cons_zero, List.set_cons_succ]
        refine wpAnyN_one (i := 7) (by kernel_rfl) (by simp only [List.getElem?_toArray, List.getElem?_cons_succ, List.getElem?_cons_zero]; rfl) (fun K hK => ?_)
        refine step_call rfl 60 _ _ rfl Try.func60 (by kernel_rfl) (by kernel_rfl) #[.agg #[.int .i64 m.term, .int .i64 m.index, .int .i64 m.kind, .slice Ad2 m.dat.length cd2], .agg #[.int .i64 m.term, .int .i64 m.index, .int .i64 m.kind, .slice Ad3 m.dat.length cd3]] (by simp [Act.eval]) ?_
        refine (HSm.out).mono ?_
        rintro e w5 ⟨rfl, o5⟩
        have O5 := Lib.hid (o5.pick (L := [_, _, _]) [1, 2])
        refine ⟨_, rfl, ?_⟩
        refine hK _ _ ⟨fun h => (by cases h), ?_⟩
        clear hK K o5 HS HSm
        try simp only [Act.put, List.setIfInBounds_toArray, List.set_cons_zero, List.set_cons_succ]
        refine wpAnyN_one (i := 8) (by kernel_rfl) (by simp only [List.getElem?_toArray, List.getElem?_cons_succ, List.getElem?_cons_zero]; rfl) (fun K hK => ?_)
        go_simp
        refine hK _ _ ⟨fun h => (by cases h), ?_⟩
        clear hK K
        try simp only [Act.put, List.setIfInBounds_toArray, List.set_cons_zero, List.set_cons_succ]
        refine wpAnyN_done (by kernel_rfl) ?_ _
        go_wp2
        go_roundw
        case rel => exact ⟨i + 1, by omega, by go_num, O5.out⟩
        case measure => simp [intOf]; omega
    · have i1 : ¬ (i : Int) < (old.length : Int) := by omega
      have HO := Lib.hid hown
      clear hown
      go_wp2
      go_ret
      exact ⟨rfl, HO.out⟩
end
end Go.Proofs.Ytepnkhiclgjmpaa
