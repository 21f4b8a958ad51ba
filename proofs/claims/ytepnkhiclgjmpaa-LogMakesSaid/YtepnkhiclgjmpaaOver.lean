/-
  over: entries that were answered are written over; the document's marks.
  Conditions: none beyond each theorem's own.
-/
import Derived.Test.YtepnkhiclgjmpaaRef8
import Derived.Test.YtepnkhiclgjmpaaMat
namespace Go.Proofs.Ytepnkhiclgjmpaa
set_option linter.unusedVariables false
set_option linter.unusedSimpArgs false
open Go.RowKit

def dats (L : List E) : List (List Value) := L.map fun m => bts m.dat
theorem mdata_inner (L : List E) (ds : List Value) : mdata L ds = inner 5 ds (dats L) := by
  apply List.ext_getElem?
  intro i
  simp only [mdata, inner, dats, List.getElem?_zipWith, List.getElem?_map]
  cases L[i]? <;> cases ds[i]? <;> rfl
/-- Rows as long as the data of entries. -/
structure AsLong (L : List E) (YS : List (List Value)) : Prop where
  len : YS.length = L.length
  each : ∀ (k : Nat) (m : E) (ys : List Value), L[k]? = some m → YS[k]? = some ys → ys.length = m.dat.length
theorem AsLong.start (L : List E) : AsLong L (dats L) := ⟨by simp [dats], fun k m ys hm hy => by
  simp only [dats, List.getElem?_map, hm, Option.map_some, Option.some.injEq] at hy
  rw [← hy, bts_length]⟩
theorem AsLong.set {L : List E} {YS : List (List Value)} (h : AsLong L YS) {i : Nat} {ys : List Value} (hy : YS[i]? = some ys) (k : Nat) (u : Value) : AsLong L (YS.set i (ys.set k u)) := by
  refine ⟨by rw [List.length_set, h.len], fun j m zs hm hz => ?_⟩
  rw [List.getElem?_set] at hz
  by_cases hij : i = j
  · subst hij
    rw [if_pos rfl] at hz
    split at hz
    · injection hz with hz
      rw [← hz, List.length_set]
      exact h.each _ m ys hm hy
    · cases hz
  · rw [if_neg hij] at hz
    exact h.each j m zs hm hz

section
variable {S : Nat → Prop} {w0 w : World} {R : List SP}
theorem Own.inner_one {ds : List Value} {YS : List (List Value)} {i : Nat} {d : Value} {ys : List Value} (h : Own S w0 w (SP.stars (inner 5 ds YS) :: R)) (hl : ds.length = YS.length) (hd : ds[i]? = some d) (hy : YS[i]? = some ys) :
    Own S w0 w (SP.row 5 1 d ys :: SP.stars ((inner 5 ds YS).eraseIdx i) :: R) ∧ ∀ w' zs, Own S w0 w' (SP.row 5 1 d zs :: SP.stars ((inner 5 ds YS).eraseIdx i) :: R) → Own S w0 w' (SP.stars (inner 5 ds (YS.set i zs)) :: R) := by
  refine ⟨h.focus i (inner_get hd hy), fun w' zs h' => ?_⟩
  have := h'.unfocus (by rw [inner_length hl]; exact (List.getElem?_eq_some_iff.1 hy).1)
  rw [inner_set _ _ hl] at this
  rw [show ds.set i d = ds by
    apply List.ext_getElem?
    intro k
    rw [List.getElem?_set]
    by_cases hk : i = k
    · subst hk; rw [if_pos rfl, if_pos (List.getElem?_eq_some_iff.1 hd).1, hd]
    · rw [if_neg hk]] at this
  exact this

set_option maxRecDepth 100000 in
set_option maxHeartbeats 6400000 in
theorem over_own {A : Option Addr} {n c : Nat} {L : List E} (hn : L.length = n) (hl : n ≤ 1000000) (hdl : ∀ m, m ∈ L → m.dat.length ≤ 140737488351232) (h : Own S w0 w (SP.ents 26 (.slice A n c) L :: R)) :
    Calls Try.prog 46 #[.slice A n c] w fun e w' => (∃ v, e = .returned v) ∧ Own S w0 w' R := by
  obtain ⟨A', c', ds, z, hds, -, -, o1⟩ := h.ents_open
  rw [hn] at z o1
  cases z
  rw [mdata_inner] at o1
  have HD := Lib.hid (And.intro hn (And.intro (show ds.length = n by rw [hds, hn]) hdl))
  have HL := Lib.hid (AsLong.start L)
  have O1 := Lib.hid o1
  clear h hds o1 hdl hn
  go_enter Try.func46, Try.ntmps46
  go_wp2
  go_loopw [2] (fun ti wr => ∃ (i : Nat) (YS : List (List Value)), i ≤ n ∧ ti = .int .i64 i ∧ Hid (AsLong L YS) ∧ Own S w0 wr (SP.row 26 4 (.slice A n c) (mrow L ds) :: SP.stars (inner 5 ds YS) :: R)) (fun ti _ => n - (intOf ti).toNat)
  case atStart => exact ⟨0, _, Nat.zero_le _, rfl, HL.out, O1.out⟩
  case round =>
    obtain ⟨i, YS, hi, rfl, hY, hown⟩ := hrel
    clear O1 HL
    by_cases hin : i < n
    · have i1 : (i : Int) < (n : Int) := by omega
      obtain ⟨m, hm⟩ : ∃ m, L[i]? = some m := ⟨_, List.getElem?_eq_getElem (by rw [HD.out.1]; exact hin)⟩
      obtain ⟨d, hd⟩ : ∃ d, ds[i]? = some d := ⟨_, List.getElem?_eq_getElem (by rw [HD.out.2.1]; exact hin)⟩
      obtain ⟨ys, hys⟩ : ∃ d, YS[i]? = some d := ⟨_, List.getElem?_eq_getElem (by rw [hY.out.len, HD.out.1]; exact hin)⟩
      obtain ⟨b, off, rfl, -, -⟩ := hown.cell (mrow_get (j := 3) hm hd (by omega))
      obtain ⟨Ad, cd, hdv, hc1, hc2⟩ := SP.row_shape1 (hown.swap.focus i (inner_get hd hys)).head
      rw [hY.out.each i m ys hm hys] at hdv hc1
      obtain ⟨dl, hdl⟩ : ∃ dl, m.dat.length = dl := ⟨_, rfl⟩
      have hdl2 := HD.out.2.2 m (List.mem_of_getElem? hm)
      rw [hdl] at hdv hc1 hdl2
      subst hdv
      have HM := Lib.hid (And.intro hm (And.intro hd hdl))
      have HO := Lib.hid hown
      clear hown hm hd hys hdl
      go_wp2
      go_loopw [3] (fun tk wr => ∃ (k : Nat) (ZS : List (List Value)), k ≤ dl ∧ tk = .int .i64 k ∧ Hid (AsLong L ZS) ∧ Own S w0 wr (SP.row 26 4 (.slice (some ⟨b, off, none⟩) n c) (mrow L ds) :: SP.stars (inner 5 ds ZS) :: R)) (fun tk _ => dl - (intOf tk).toNat)
      case atStart => exact ⟨0, _, Nat.zero_le _, rfl, hY.out, HO.out⟩
      case round =>
        obtain ⟨k, ZS, hk, rfl, hZ, hown⟩ := hrel
        clear HO
        obtain ⟨_, _, z, l3, -⟩ := hown.cell (mrow_get (j := 3) HM.out.1 HM.out.2.1 (by omega))
        cases z
        simp only [mcells, List.getElem?_cons_zero, List.getElem?_cons_succ, ← Nat.add_assoc] at l3
        by_cases hkd : k < dl
        · have k1 : (k : Int) < (dl : Int) := by omega
          obtain ⟨zs, hzs⟩ : ∃ d, ZS[i]? = some d := ⟨_, List.getElem?_eq_getElem (by rw [hZ.out.len, HD.out.1]; exact hin)⟩
          have hzl := hZ.out.each i m zs HM.out.1 hzs
          obtain ⟨u, hu⟩ : ∃ u, zs[k]? = some u := ⟨_, List.getElem?_eq_getElem (by rw [hzl, HM.out.2.2]; exact hkd)⟩
          obtain ⟨h1, back⟩ := hown.swap.inner_one (by rw [HD.out.2.1, hZ.out.len, HD.out.1]) HM.out.2.1 hzs
          obtain ⟨gb, go, z, q1, q2⟩ := h1.cell hu
          cases z
          have O5 := Lib.hid ((back _ _ (h1.store (j := k) (by rw [hzl, HM.out.2.2]; exact hkd) (.int .u8 76))).swap)
          have HZ := Lib.hid (hZ.out.set hzs k (.int .u8 76))
          clear hown h1 back hzs hzl hu
          go_wp2
          go_roundw
          case rel => exact ⟨k + 1, _, by omega, by go_num, HZ.out, O5.out⟩
          case measure => simp [intOf]; omega
        · have k1 : ¬ (k : Int) < (dl : Int) := by omega
          have HO := Lib.hid hown
          clear hown
          go_wp2
          go_roundw
          case rel => exact ⟨i + 1, ZS, by omega, by go_num, hZ.out, HO.out⟩
          case measure => simp [intOf]; omega
    · have i1 : ¬ (i : Int) < (n : Int) := by omega
      have HO := Lib.hid hown
      clear hown
      go_wp2
      go_end0
      exact ⟨⟨_, rfl⟩, HO.out.pop.pop⟩

set_option maxRecDepth 100000 in
set_option maxHeartbeats 6400000 in
theorem rmarks_own {g : Nat} {x : Lg} (h : Own S w0 w (SP.log 88 g x :: R)) :
    Calls Try.prog 77 #[.pointer (some ⟨g, 0, none⟩)] w fun e w' => e = .returned (marksV x) ∧ Own S w0 w' (SP.log 88 g x :: R) := by
  unfold marksV
  have O1 := Lib.hid (h.alloc #[.int .i64 0, .int .i64 0, .int .i64 0, .int .i64 0, .int .i64 0] 65)
  obtain ⟨q, hq⟩ : ∃ q, w.heap.size = q := ⟨_, rfl⟩
  have HQ := Lib.hid hq
  rw [hq] at O1
  clear h hq
  go_enter Try.func77, Try.ntmps77
  go_upto_region 1 with (fail)
  simp only [HQ.out]
  obtain ⟨w1, hw1⟩ : ∃ W, w.alloc (.cells #[.int .i64 0, .int .i64 0, .int .i64 0, .int .i64 0, .int .i64 0] 65) = W := ⟨_, rfl⟩
  rw [hw1] at O1 ⊢
  clear hw1
  refine wp_region_need (fun W => W.cell? ⟨g, 3, none⟩ = some (.int .i64 x.h) ∧ W.cell? ⟨g, 4, none⟩ = some (.int .i64 x.s) ∧ W.cell? ⟨g, 5, none⟩ = some (.int .i64 x.c) ∧ W.cell? ⟨g, 6, none⟩ = some (.int .i64 x.ap) ∧ W.cell? ⟨g, 7, none⟩ = some (.int .i64 x.ad)) (fun j => decide (j < 21)) (by kernel_rfl) ?_
  obtain ⟨W0, hW0⟩ : ∃ W0, w1.drew = W0 := ⟨_, rfl⟩
  have o2 := O1.out.drew
  rw [hW0] at o2 ⊢
  clear hW0 O1
  obtain ⟨A3, k4, -, -, o3, -, -, -, -, e3, e4, e5, e6, e7⟩ := (o2.swap).log_cells
  have HS := Lib.hid (show W0.cell? ⟨g, 3, none⟩ = some (.int .i64 x.h) ∧ W0.cell? ⟨g, 4, none⟩ = some (.int .i64 x.s) ∧ W0.cell? ⟨g, 5, none⟩ = some (.int .i64 x.c) ∧ W0.cell? ⟨g, 6, none⟩ = some (.int .i64 x.ap) ∧ W0.cell? ⟨g, 7, none⟩ = some (.int .i64 x.ad) from ⟨e3, e4, e5, e6, e7⟩)
  have f0 := o2.blk_free 0
  have s0 := o2.blk_set 0 (.int .i64 x.h)
  have f1 := s0.blk_free 1
  have s1 := s0.blk_set 1 (.int .i64 x.s)
  have f2 := s1.blk_free 2
  have s2 := s1.blk_set 2 (.int .i64 x.c)
  have f3 := s2.blk_free 3
  have s3 := s2.blk_set 3 (.int .i64 x.ap)
  have f4 := s3.blk_free 4
  have O5 := Lib.hid (s3.blk_set 4 (.int .i64 x.ad))
  have b0 := o2.blk_cell 0
  have b1 := s0.blk_cell 1
  have b2 := s1.blk_cell 2
  have b3 := s2.blk_cell 3
  have b4 := s3.blk_cell 4
  simp only [List.getElem?_toArray, List.setIfInBounds_toArray, List.set_cons_zero, List.set_cons_succ, List.getElem?_cons_zero, List.getElem?_cons_succ] at b0 b1 b2 b3 b4
  clear o2 o3 s0 s1 s2 s3 e3 e4 e5 e6 e7
  refine wpAnyN_take (i := 0) (v := ?v0) (by simp only [List.getElem?_toArray, List.getElem?_cons_succ, List.getElem?_cons_zero]; rfl) (by kernel_rfl) (by intro _ _ _ h; exact h) (Or.inl ⟨by rfl, ?y0⟩) HS.out ?r0
  case y0 =>
    intro W hSW
    try dsimp only at hSW
    obtain ⟨s0, s1, s2, s3, s4⟩ := hSW
    go_simp
    try with_reducible rfl
  simp only [Act.put, List.setIfInBounds_toArray, List.set_cons_zero, List.set_cons_succ]
  refine wpAnyN_take (i := 1) (v := ?v1) (by simp only [List.getElem?_toArray, List.getElem?_cons_succ, List.getElem?_cons_zero]; rfl) (by kernel_rfl) (by intro _ _ _ h; exact h) (Or.inl ⟨by rfl, ?y1⟩) HS.out ?r1
  case y1 =>
    intro W hSW
    try dsimp only at hSW
    obtain ⟨s0, s1, s2, s3, s4⟩ := hSW
    go_simp
    try with_reducible rfl
  simp only [Act.put, List.setIfInBounds_toArray, List.set_cons_zero, List.set_cons_succ]
  refine wpAnyN_take (i := 2) (v := ?v2) (by simp only [List.getElem?_toArray, List.getElem?_cons_succ, List.getElem?_cons_zero]; rfl) (by kernel_rfl) (by intro _ _ _ h; exact h) (Or.inl ⟨by rfl, ?y2⟩) HS.out ?r2
  case y2 =>
    intro W hSW
    try dsimp only at hSW
    obtain ⟨s0, s1, s2, s3, s4⟩ := hSW
    go_simp
    try with_reducible rfl
  simp only [Act.put, List.setIfInBounds_toArray, List.set_cons_zero, List.set_cons_succ]
  refine wpAnyN_take (i := 3) (v := ?v3) (by simp only [List.getElem?_toArray, List.getElem?_cons_succ, List.getElem?_cons_zero]; rfl) (by kernel_rfl) (by intro _ _ _ h; exact h) (Or.inl ⟨by rfl, ?y3⟩) HS.out ?r3
  case y3 =>
    intro W hSW
    try dsimp only at hSW
    obtain ⟨s0, s1, s2, s3, s4⟩ := hSW
    go_simp
    try with_reducible rfl
  simp only [Act.put, List.setIfInBounds_toArray, List.set_cons_zero, List.set_cons_succ]
  refine wpAnyN_take (i := 4) (v := ?v4) (by simp only [List.getElem?_toArray, List.getElem?_cons_succ, List.getElem?_cons_zero]; rfl) (by kernel_rfl) (by intro _ _ _ h; exact h) (Or.inl ⟨by rfl, ?y4⟩) HS.out ?r4
  case y4 =>
    intro W hSW
    try dsimp only at hSW
    obtain ⟨s0, s1, s2, s3, s4⟩ := hSW
    go_simp
    try with_reducible rfl
  simp only [Act.put, List.setIfInBounds_toArray, List.set_cons_zero, List.set_cons_succ]
  refine wpAnyN_take (i := 5) (v := ?v5) (by simp only [List.getElem?_toArray, List.getElem?_cons_succ, List.getElem?_cons_zero]; rfl) (by kernel_rfl) (by intro _ _ _ h; exact h) (Or.inl ⟨by rfl, ?y5⟩) HS.out ?r5
  case y5 =>
    intro W hSW
    try dsimp only at hSW
    obtain ⟨s0, s1, s2, s3, s4⟩ := hSW
    go_simp
    try with_reducible rfl
  simp only [Act.put, List.setIfInBounds_toArray, List.set_cons_zero, List.set_cons_succ]
  refine wpAnyN_take (i := 6) (v := ?v6) (by simp only [List.getElem?_toArray, List.getElem?_cons_succ, List.getElem?_cons_zero]; rfl) (by kernel_rfl) (by intro _ _ _ h; exact h) (Or.inl ⟨by rfl, ?y6⟩) HS.out ?r6
  case y6 =>
    intro W hSW
    try dsimp only at hSW
    obtain ⟨s0, s1, s2, s3, s4⟩ := hSW
    go_simp
    try with_reducible rfl
  simp only [Act.put, List.setIfInBounds_toArray, List.set_cons_zero, List.set_cons_succ]
  refine wpAnyN_take (i := 7) (v := ?v7) (by simp only [List.getElem?_toArray, List.getElem?_cons_succ, List.getElem?_cons_zero]; rfl) (by kernel_rfl) (by intro _ _ _ h; exact h) (Or.inl ⟨by rfl, ?y7⟩) HS.out ?r7
  case y7 =>
    intro W hSW
    try dsimp only at hSW
    obtain ⟨s0, s1, s2, s3, s4⟩ := hSW
    go_simp
    try with_reducible rfl
  simp only [Act.put, List.setIfInBounds_toArray, List.set_cons_zero, List.set_cons_succ]
  refine wpAnyN_take (i := 8) (v := ?v8) (by simp only [List.getElem?_toArray, List.getElem?_cons_succ, List.getElem?_cons_zero]; rfl) (by kernel_rfl) (by intro _ _ _ h; exact h) (Or.inl ⟨by rfl, ?y8⟩) HS.out ?r8
  case y8 =>
    intro W hSW
    try dsimp only at hSW
    obtain ⟨s0, s1, s2, s3, s4⟩ := hSW
    go_simp
    try with_reducible rfl
  simp only [Act.put, List.setIfInBounds_toArray, List.set_cons_zero, List.set_cons_succ]
  refine wpAnyN_take (i := 9) (v := ?v9) (by simp only [List.getElem?_toArray, List.getElem?_cons_succ, List.getElem?_cons_zero]; rfl) (by kernel_rfl) (by intro _ _ _ h; exact h) (Or.inl ⟨by rfl, ?y9⟩) HS.out ?r9
  case y9 =>
    intro W hSW
    try dsimp only at hSW
    obtain ⟨s0, s1, s2, s3, s4⟩ := hSW
    go_simp
    try with_reducible rfl
  simp only [Act.put, List.setIfInBounds_toArray, List.set_cons_zero, List.set_cons_succ]
  refine wpAnyN_take (i := 10) (v := ?v10) (by simp only [List.getElem?_toArray, List.getElem?_cons_succ, List.getElem?_cons_zero]; rfl) (by kernel_rfl) (by intro _ _ _ h; exact h) (Or.inl ⟨by rfl, ?y10⟩) HS.out ?r10
  case y10 =>
    intro W hSW
    try dsimp only at hSW
    obtain ⟨s0, s1, s2, s3, s4⟩ := hSW
    go_simp
    try with_reducible rfl
  simp only [Act.put, List.setIfInBounds_toArray, List.set_cons_zero, List.set_cons_succ]
  refine wpAnyN_take (i := 11) (v := ?v11) (by simp only [List.getElem?_toArray, List.getElem?_cons_succ, List.getElem?_cons_zero]; rfl) (by kernel_rfl) (by intro _ _ _ h; exact h) (Or.inl ⟨by rfl, ?y11⟩) HS.out ?r11
  case y11 =>
    intro W hSW
    try dsimp only at hSW
    obtain ⟨s0, s1, s2, s3, s4⟩ := hSW
    go_simp
    try with_reducible rfl
  simp only [Act.put, List.setIfInBounds_toArray, List.set_cons_zero, List.set_cons_succ]
  refine wpAnyN_take (i := 12) (v := ?v12) (by simp only [List.getElem?_toArray, List.getElem?_cons_succ, List.getElem?_cons_zero]; rfl) (by kernel_rfl) (by intro _ _ _ h; exact h) (Or.inl ⟨by rfl, ?y12⟩) HS.out ?r12
  case y12 =>
    intro W hSW
    try dsimp only at hSW
    obtain ⟨s0, s1, s2, s3, s4⟩ := hSW
    go_simp
    try with_reducible rfl
  simp only [Act.put, List.setIfInBounds_toArray, List.set_cons_zero, List.set_cons_succ]
  refine wpAnyN_take (i := 13) (v := ?v13) (by simp only [List.getElem?_toArray, List.getElem?_cons_succ, List.getElem?_cons_zero]; rfl) (by kernel_rfl) (by intro _ _ _ h; exact h) (Or.inl ⟨by rfl, ?y13⟩) HS.out ?r13
  case y13 =>
    intro W hSW
    try dsimp only at hSW
    obtain ⟨s0, s1, s2, s3, s4⟩ := hSW
    go_simp
    try with_reducible rfl
  simp only [Act.put, List.setIfInBounds_toArray, List.set_cons_zero, List.set_cons_succ]
  refine wpAnyN_take (i := 14) (v := ?v14) (by simp only [List.getElem?_toArray, List.getElem?_cons_succ, List.getElem?_cons_zero]; rfl) (by kernel_rfl) (by intro _ _ _ h; exact h) (Or.inl ⟨by rfl, ?y14⟩) HS.out ?r14
  case y14 =>
    intro W hSW
    try dsimp only at hSW
    obtain ⟨s0, s1, s2, s3, s4⟩ := hSW
    go_simp
    try with_reducible rfl
  simp only [Act.put, List.setIfInBounds_toArray, List.set_cons_zero, List.set_cons_succ]
  refine wpAnyN_take (i := 15) (v := ?v15) (by simp only [List.getElem?_toArray, List.getElem?_cons_succ, List.getElem?_cons_zero]; rfl) (by kernel_rfl) (by intro _ _ _ h; exact h) (Or.inl ⟨by rfl, ?y15⟩) HS.out ?r15
  case y15 =>
    intro W hSW
    try dsimp only at hSW
    obtain ⟨s0, s1, s2, s3, s4⟩ := hSW
    go_simp
    try with_reducible rfl
  simp only [Act.put, List.setIfInBounds_toArray, List.set_cons_zero, List.set_cons_succ]
  refine wpAnyN_take (i := 16) (v := ?v16) (by simp only [List.getElem?_toArray, List.getElem?_cons_succ, List.getElem?_cons_zero]; rfl) (by kernel_rfl) (by intro _ _ _ h; exact h) (Or.inl ⟨by rfl, ?y16⟩) HS.out ?r16
  case y16 =>
    intro W hSW
    try dsimp only at hSW
    obtain ⟨s0, s1, s2, s3, s4⟩ := hSW
    go_simp
    try with_reducible rfl
  simp only [Act.put, List.setIfInBounds_toArray, List.set_cons_zero, List.set_cons_succ]
  refine wpAnyN_take (i := 17) (v := ?v17) (by simp only [List.getElem?_toArray, List.getElem?_cons_succ, List.getElem?_cons_zero]; rfl) (by kernel_rfl) (by intro _ _ _ h; exact h) (Or.inl ⟨by rfl, ?y17⟩) HS.out ?r17
  case y17 =>
    intro W hSW
    try dsimp only at hSW
    obtain ⟨s0, s1, s2, s3, s4⟩ := hSW
    go_simp
    try with_reducible rfl
  simp only [Act.put, List.setIfInBounds_toArray, List.set_cons_zero, List.set_cons_succ]
  refine wpAnyN_take (i := 18) (v := ?v18) (by simp only [List.getElem?_toArray, List.getElem?_cons_succ, List.getElem?_cons_zero]; rfl) (by kernel_rfl) (by intro _ _ _ h; exact h) (Or.inl ⟨by rfl, ?y18⟩) HS.out ?r18
  case y18 =>
    intro W hSW
    try dsimp only at hSW
    obtain ⟨s0, s1, s2, s3, s4⟩ := hSW
    go_simp
    try with_reducible rfl
  simp only [Act.put, List.setIfInBounds_toArray, List.set_cons_zero, List.set_cons_succ]
  refine wpAnyN_take (i := 19) (v := ?v19) (by simp only [List.getElem?_toArray, List.getElem?_cons_succ, List.getElem?_cons_zero]; rfl) (by kernel_rfl) (by intro _ _ _ h; exact h) (Or.inl ⟨by rfl, ?y19⟩) HS.out ?r19
  case y19 =>
    intro W hSW
    try dsimp only at hSW
    obtain ⟨s0, s1, s2, s3, s4⟩ := hSW
    go_simp
    try with_reducible rfl
  simp only [Act.put, List.setIfInBounds_toArray, List.set_cons_zero, List.set_cons_succ]
  refine wpAnyN_take (i := 20) (v := ?v20) (by simp only [List.getElem?_toArray, List.getElem?_cons_succ, List.getElem?_cons_zero]; rfl) (by kernel_rfl) (by intro _ _ _ h; exact h) (Or.inl ⟨by rfl, ?y20⟩) HS.out ?r20
  case y20 =>
    intro W hSW
    try dsimp only at hSW
    obtain ⟨s0, s1, s2, s3, s4⟩ := hSW
    go_simp
    try with_reducible rfl
  simp only [Act.put, List.setIfInBounds_toArray, List.set_cons_zero, List.set_cons_succ]
  refine wpAnyN_one (i := 21) (by kernel_rfl) (by simp only [List.getElem?_toArray, List.getElem?_cons_succ, List.getElem?_cons_zero]; rfl) (fun K hK => ?_)
  go_simp
  refine hK _ _ ⟨fun h => (by cases h), ?_⟩
  clear hK K
  try simp only [Act.put, List.setIfInBounds_toArray, List.set_cons_zero, List.set_cons_succ]
  refine wpAnyN_done (by kernel_rfl) ?_ _
  obtain ⟨w2, hw2⟩ : ∃ W, (((((W0.setCell ⟨q, 0, none⟩ (.int .i64 x.h)).setCell ⟨q, 1, none⟩ (.int .i64 x.s)).setCell ⟨q, 2, none⟩ (.int .i64 x.c)).setCell ⟨q, 3, none⟩ (.int .i64 x.ap)).setCell ⟨q, 4, none⟩ (.int .i64 x.ad)) = W := ⟨_, rfl⟩
  rw [hw2] at O5
  simp only [hw2]
  clear hw2 f0 f1 f2 f3 f4 b0 b1 b2 b3 b4
  have d0 := O5.out.blk_cell 0
  have d1 := O5.out.blk_cell 1
  have d2 := O5.out.blk_cell 2
  have d3 := O5.out.blk_cell 3
  have d4 := O5.out.blk_cell 4
  simp only [List.getElem?_toArray, List.setIfInBounds_toArray, List.set_cons_zero, List.set_cons_succ, List.getElem?_cons_zero, List.getElem?_cons_succ] at d0 d1 d2 d3 d4
  go_wp2
  refine bodyPost_ret (v := .agg #[.int .i64 x.h, .int .i64 x.s, .int .i64 x.c, .int .i64 x.ap, .int .i64 x.ad]) ?_ rfl ⟨rfl, O5.out.pop⟩
  simp [results, go_sem, Try.results77, d0, d1, d2, d3, d4]
end
end Go.Proofs.Ytepnkhiclgjmpaa
