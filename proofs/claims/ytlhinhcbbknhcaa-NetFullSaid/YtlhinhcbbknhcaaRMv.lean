/-
  The document's network: Move.
  Conditions: none beyond each theorem's own.
-/
import Derived.Test.YtlhinhcbbknhcaaRTk
import Derived.Test.YtlhinhcbbknhcaaMove
import Derived.Test.YtlhinhcbbknhcaaAppOwn
import Derived.Test.YtlhinhcbbknhcaaRegionNeed
namespace Go.Proofs.Ytlhinhcbbknhcaa
set_option linter.unusedVariables false
set_option linter.unusedSimpArgs false
open Go.RowKit

section
variable {S : Nat → Prop} {w0 w : World} {R : List SP} {g : Nat} {nodes many : Int} {L : List M} {C : List (Int × Int)}
theorem rd1_ {n c k : Nat} {A : Option Addr} {xs : List Value} {R : List SP} {w : World} (h : Own S w0 w (SP.row 60 5 (.slice A n c) xs :: R)) : Rd w A (xs.take k) := by
  have := h.rd
  rw [← List.take_append_drop k xs] at this
  exact this.front

set_option maxHeartbeats 800000 in
theorem rmove_no (h : Own S w0 w (SP.rnet g nodes many L C :: R)) (i t : Int) (hi : ¬ ((0 ≤ i ∧ i < (L.length : Int)) ∧ 0 ≤ t ∧ t < (L.length : Int))) :
    Calls Try.prog 38 #[.pointer (some ⟨g, 0, none⟩), .int .i64 i, .int .i64 t] w fun e w' => e = .returned (.bool false) ∧ Own S w0 w' (SP.rnet g nodes many L C :: R) := by
  have HT := Lib.hid (rthere_own h i)
  have HU := Lib.hid (rthere_own h t)
  have H := Lib.hid h
  by_cases h1 : 0 ≤ i ∧ i < (L.length : Int)
  · have h2 : ¬ (0 ≤ t ∧ t < (L.length : Int)) := fun h2 => hi ⟨h1, h2⟩
    rw [show thereB i L.length = true from decide_eq_true h1] at HT
    rw [show thereB t L.length = false from decide_eq_false h2] at HU
    clear h hi h1 h2
    go_enter Try.func38, Try.ntmps38
    go_wp2_with fail
    refine (HT.out).mono ?_
    rintro e w1 ⟨rfl, rfl⟩
    go_wp2_with fail
    refine (HU.out).mono ?_
    rintro e w1 ⟨rfl, rfl⟩
    go_wp2
    go_ret
    exact ⟨rfl, H.out⟩
  · rw [show thereB i L.length = false from decide_eq_false h1] at HT
    clear h hi h1
    go_enter Try.func38, Try.ntmps38
    go_wp2_with fail
    refine (HT.out).mono ?_
    rintro e w1 ⟨rfl, rfl⟩
    go_wp2
    go_ret
    exact ⟨rfl, H.out⟩


set_option maxRecDepth 100000 in
set_option maxHeartbeats 6400000 in
theorem rmove_yes (hL : L.length ≤ 1000000) (h : Own S w0 w (SP.rnet g nodes many L C :: R)) (i t : Nat) (m : M) (hm : L[i]? = some m) (ht : t < L.length) :
    Calls Try.prog 38 #[.pointer (some ⟨g, 0, none⟩), .int .i64 i, .int .i64 t] w fun e w' => e = .returned (.bool true) ∧ Own S w0 w' (SP.rnet g nodes many (moved L i t m) C :: R) := by
  have hi : i < L.length := (List.getElem?_eq_some_iff.1 hm).1
  have HT := Lib.hid (rthere_own h (i : Int))
  have HU := Lib.hid (rthere_own h (t : Int))
  have HS := Lib.hid (rtake_yes hL h i m hm)
  rw [show thereB (i : Int) L.length = true from decide_eq_true (by omega)] at HT
  rw [show thereB (t : Int) L.length = true from decide_eq_true (by omega)] at HU
  have hle : (L.eraseIdx i).length + 1 = L.length := by rw [List.length_eraseIdx, if_pos hi]; omega
  obtain ⟨L', hL'⟩ : ∃ L', L.eraseIdx i = L' := ⟨_, rfl⟩
  have hmv : moved L i t m = L'.take t ++ m :: L'.drop t := by rw [moved, hL']
  rw [hmv]
  rw [hL'] at HS hle
  obtain ⟨n, hn⟩ : ∃ n, L'.length = n := ⟨_, rfl⟩
  have htn : t ≤ n := by omega
  have hnb : n ≤ 1000000 := by omega
  have HN := Lib.hid hn
  unfold mailV at HS
  clear h hm hle hi ht hL hL' hmv hn
  obtain ⟨dl, hdl⟩ : ∃ dl, m.dat.length = dl := ⟨_, rfl⟩
  have HDL := Lib.hid hdl
  rw [hdl] at HS
  clear hdl
  go_enter Try.func38, Try.ntmps38
  go_wp2_with fail
  refine (HT.out).mono ?_
  rintro e w1 ⟨rfl, rfl⟩
  go_wp2_with fail
  refine (HU.out).mono ?_
  rintro e w1 ⟨rfl, rfl⟩
  go_wp2_with fail
  refine (HS.out).mono ?_
  rintro e w2 ⟨Ad, cd, rfl, o2⟩
  obtain ⟨A3, c3, B1, k, -, -, o3⟩ := o2.rnet_open
  obtain ⟨A', c', ds, z, hds, hc1, hc2, o4⟩ := (o3.pick (L := [_, _, _, _]) [1, 0, 2, 3]).mails_open
  cases z
  rw [HN.out] at hc1 o4
  have o5 := o4.alloc #[.int .i64 m.num, .int .i64 m.frm, .int .i64 m.to, .slice Ad dl cd, .bool m.sp] 60
  obtain ⟨W1, hW1⟩ : ∃ W1, w2.alloc (.cells #[.int .i64 m.num, .int .i64 m.frm, .int .i64 m.to, .slice Ad dl cd, .bool m.sp] 60) = W1 := ⟨_, rfl⟩
  obtain ⟨q, hq⟩ : ∃ q, w2.heap.size = q := ⟨_, rfl⟩
  have HW := Lib.hid (And.intro hW1 hq)
  rw [hW1, hq] at o5
  obtain ⟨xs, hxs⟩ : ∃ xs, mrow L' ds = xs := ⟨_, rfl⟩
  have HX1 := Lib.hid (show ∀ u ∈ xs, u.oneCell' = true from fun u hu => by rw [← hxs] at hu; exact mrow_one u hu ((o5.pick (L := [_, _, _]) [2]).mdata_one hds))
  have HXL := Lib.hid (show xs.length = n * 5 by rw [← hxs, mrow_length hds, HN.out])
  have HONE := Lib.hid (show ∀ u ∈ [Value.int .i64 m.num, .int .i64 m.frm, .int .i64 m.to, .slice Ad dl cd, .bool m.sp], u.oneCell' = true from fun u hu => by
    simp only [List.mem_cons, List.not_mem_nil, or_false] at hu
    rcases hu with rfl | rfl | rfl | rfl | rfl <;> rfl)
  have HFIN := Lib.hid (fun (W : World) (A7 : Option Addr) (n7 c7 : Nat) (hn7 : n7 = n + 1) (o : Own S w0 W (SP.blk g 49 ((rnetA nodes (.slice A3 n c3) many (.slice B1 C.length k)).setIfInBounds 1 (.slice A7 n7 c7)) :: SP.row 60 5 (.slice A7 n7 c7) ((xs.take (t * 5) ++ [Value.int .i64 m.num, .int .i64 m.frm, .int .i64 m.to, .slice Ad dl cd, .bool m.sp]) ++ xs.drop (t * 5)) :: SP.stars (mdata L' ds) :: SP.row 66 2 (.slice B1 C.length k) (prow C) :: SP.row 5 1 (.slice Ad dl cd) (bts m.dat) :: R)) => show Own S w0 W (SP.rnet g nodes many (L'.take t ++ m :: L'.drop t) C :: R) from by
    subst hn7
    have o6 := (o.pick (L := [_, _, _, _, _]) [2, 4, 1, 0, 3]).insAt t
    have hR : mrow (L'.take t ++ m :: L'.drop t) (ds.take t ++ Value.slice Ad dl cd :: ds.drop t) = xs.take (t * 5) ++ [Value.int .i64 m.num, .int .i64 m.frm, .int .i64 m.to, .slice Ad dl cd, .bool m.sp] ++ xs.drop (t * 5) := by
      rw [← hxs, mrow_append (by rw [List.length_take, List.length_take, hds]), mrow_cons, mrow_take, mrow_drop, List.append_assoc]; rfl
    have hD : mdata (L'.take t ++ m :: L'.drop t) (ds.take t ++ Value.slice Ad dl cd :: ds.drop t) = (mdata L' ds).take t ++ SP.row 5 1 (.slice Ad dl cd) (bts m.dat) :: (mdata L' ds).drop t := by
      rw [mdata_append (by rw [List.length_take, List.length_take, hds])]
      unfold mdata
      rw [List.take_zipWith, List.drop_zipWith]; rfl
    rw [← hR, ← hD] at o6
    refine Own.rnet_shut (v := .slice A7 (n + 1) c7) (u := .slice B1 C.length k) ?_
    exact Own.swap (Own.mails_shut (by simp only [List.length_append, List.length_cons, List.length_take, List.length_drop, hds]) (o6.pick (L := [_, _, _, _]) [1, 0, 2, 3])))
  have O3 := Lib.hid (show Own S w0 W1 (SP.blk q 60 #[.int .i64 m.num, .int .i64 m.frm, .int .i64 m.to, .slice Ad dl cd, .bool m.sp] :: SP.blk g 49 (rnetA nodes (.slice A3 n c3) many (.slice B1 C.length k)) :: SP.row 60 5 (.slice A3 n c3) xs :: SP.stars (mdata L' ds) :: SP.row 66 2 (.slice B1 C.length k) (prow C) :: SP.row 5 1 (.slice Ad dl cd) (bts m.dat) :: R) from by
    rw [hxs] at o5
    exact o5.pick (L := [_, _, _, _, _, _]) [0, 3, 1, 2, 4, 5])
  have d10 := (O3.out.pick (L := [_, _]) [1]).blk_cell 1
  simp only [rnetA, List.getElem?_toArray, List.getElem?_cons_zero, List.getElem?_cons_succ] at d10
  have hr4 := o4.row_addr
  clear o2 o3 o4 o5 hW1 hq HT HU HS hds hxs
  go_upto_region 4 with (fail)
  simp only [HW.out.1, HW.out.2]
  have i0 : (0 : Int) ≤ (t : Int) := by omega
  have i1 : (t : Int) ≤ (n : Int) := by omega
  have i2 : (n : Int) ≤ (c3 : Int) := by omega
  have i3 : (t : Int) ≤ (c3 : Int) := by omega
  have i4 : t ≤ c3 := by omega
  unfold maxLen at hc2
  rcases hr4 with ⟨h1, h2⟩ | ⟨b3, off3, n', c', h1⟩
  · injection h1 with h1 h3 h4
    subst h1 h3 h4
    obtain rfl : t = 0 := by omega
    clear h2
    have O4 := Lib.hid (O3.out.emptyN 60 5)
    have d11 := (O4.out.pick (L := [_, _, _]) [2]).blk_cell 1
    simp only [rnetA, List.getElem?_toArray, List.getElem?_cons_zero, List.getElem?_cons_succ] at d11
    have lg := (O3.out.pick (L := [_, _]) [1]).blk_lt
    go_wp2_with (at_builtin; refine wpList_append_own rfl (.tmp 26) (.tmp 32) 46 rfl 60 mailZero 5 56 Try.underlying46 Try.info60 mailZero_size (by decide) rfl (rfl) O4.out (Below.refl _ _) (none) (0) (0) (xs.take (0 * 5)) rfl (by rw [List.length_take, HXL.out]; omega) (rd1_ (O4.out.pick (L := [_, _, _, _]) [3])) (fun u hu => HX1.out u (List.mem_of_mem_take hu)) (by unfold maxLen; omega) (by omega) ?_)
    rintro A5 c5 w5 o5
    first | rw [Nat.zero_add, List.nil_append] at o5 | change Own S w0 w5 (SP.row 60 5 (.slice A5 0 c5) (xs.take (0 * 5)) :: _) at o5 | skip
    have O5 := Lib.hid o5
    have d0 := (o5.pick (L := [_, _]) [1]).blk_cell 0
    have d1 := (o5.pick (L := [_, _]) [1]).blk_cell 1
    have d2 := (o5.pick (L := [_, _]) [1]).blk_cell 2
    have d3 := (o5.pick (L := [_, _]) [1]).blk_cell 3
    have d4 := (o5.pick (L := [_, _]) [1]).blk_cell 4
    simp only [List.getElem?_toArray, List.getElem?_cons_zero, List.getElem?_cons_succ] at d0 d1 d2 d3 d4
    clear o5 O4 d10 d11 lg
    go_wp2_with (at_builtin; refine wpList_append_own rfl (.tmp 34) (.tmp 36) 46 rfl 60 mailZero 5 56 Try.underlying46 Try.info60 mailZero_size (by decide) rfl (by rw [List.length_take, HXL.out]; omega) O5.out ((Below.refl _ _).alloc (Nat.le_refl _) _) _ 1 1 [Value.int .i64 m.num, .int .i64 m.frm, .int .i64 m.to, .slice Ad dl cd, .bool m.sp] rfl rfl (rd_list _ _ _) HONE.out (by unfold maxLen; omega) (by omega) ?_)
    rintro A6 c6 w6 o6
    have O6 := Lib.hid o6
    obtain ⟨b6, off6, rfl⟩ : ∃ b off, A6 = some ⟨b, off, none⟩ := by
      rcases o6.row_addr with ⟨h1, -⟩ | ⟨g', off', n', c', h1⟩
      · exact absurd (congrArg (fun v => match v with | .slice _ n _ => n | _ => 0) h1) (by simp)
      · injection h1 with h1; exact ⟨_, _, h1⟩
    have hc6 := (o6.row_le (n := 0 + 1) (by decide) (by first | rfl | (rw [List.length_append, List.length_take, HXL.out]; simp only [List.length_cons, List.length_nil]; omega))).1
    have g1 := (o6.pick (L := [_, _, _]) [2]).blk_cell 1
    have f1 := (o6.pick (L := [_, _, _]) [2]).blk_free 1
    have O8 := Lib.hid ((o6.pick (L := [_, _, _, _, _, _, _]) [2, 0, 4, 5, 6]).blk_set 1 (.slice (some ⟨b6, off6, none⟩) (0 + 1) c6))
    simp only [rnetA, List.getElem?_toArray, List.getElem?_cons_zero, List.getElem?_cons_succ] at g1
    clear o6 O5 O6 d0 d1 d2 d3 d4
    go_wp2
    go_ret
    refine ⟨rfl, ?_⟩
    refine HFIN.out _ (some ⟨b6, off6, none⟩) (0 + 1) c6 rfl ?_
    rw [show xs.drop (0 * 5) = [] from List.drop_eq_nil_of_le (by rw [HXL.out]; omega), List.append_nil]
    exact O8.out
  · injection h1 with h1 h3 h4
    subst h1
    clear h3 h4
    by_cases hc0 : c3 = 0
    · subst hc0
      obtain rfl : n = 0 := by omega
      obtain rfl : t = 0 := by omega
      have O4 := Lib.hid (O3.out.emptyN 60 5)
      have d11 := (O4.out.pick (L := [_, _, _]) [2]).blk_cell 1
      simp only [rnetA, List.getElem?_toArray, List.getElem?_cons_zero, List.getElem?_cons_succ] at d11
      have lg := (O3.out.pick (L := [_, _]) [1]).blk_lt
      go_wp2_with (at_builtin; refine wpList_append_own rfl (.tmp 26) (.tmp 32) 46 rfl 60 mailZero 5 56 Try.underlying46 Try.info60 mailZero_size (by decide) rfl (rfl) O4.out (Below.refl _ _) (some ⟨b3, off3, none⟩) (0) (0) (xs.take (0 * 5)) rfl (by rw [List.length_take, HXL.out]; omega) (rd1_ (O4.out.pick (L := [_, _, _, _]) [3])) (fun u hu => HX1.out u (List.mem_of_mem_take hu)) (by unfold maxLen; omega) (by omega) ?_)
      rintro A5 c5 w5 o5
      first | rw [Nat.zero_add, List.nil_append] at o5 | change Own S w0 w5 (SP.row 60 5 (.slice A5 0 c5) (xs.take (0 * 5)) :: _) at o5 | skip
      have O5 := Lib.hid o5
      have d0 := (o5.pick (L := [_, _]) [1]).blk_cell 0
      have d1 := (o5.pick (L := [_, _]) [1]).blk_cell 1
      have d2 := (o5.pick (L := [_, _]) [1]).blk_cell 2
      have d3 := (o5.pick (L := [_, _]) [1]).blk_cell 3
      have d4 := (o5.pick (L := [_, _]) [1]).blk_cell 4
      simp only [List.getElem?_toArray, List.getElem?_cons_zero, List.getElem?_cons_succ] at d0 d1 d2 d3 d4
      clear o5 O4 d10 d11 lg
      go_wp2_with (at_builtin; refine wpList_append_own rfl (.tmp 34) (.tmp 36) 46 rfl 60 mailZero 5 56 Try.underlying46 Try.info60 mailZero_size (by decide) rfl (by rw [List.length_take, HXL.out]; omega) O5.out ((Below.refl _ _).alloc (Nat.le_refl _) _) _ 1 1 [Value.int .i64 m.num, .int .i64 m.frm, .int .i64 m.to, .slice Ad dl cd, .bool m.sp] rfl rfl (rd_list _ _ _) HONE.out (by unfold maxLen; omega) (by omega) ?_)
      rintro A6 c6 w6 o6
      have O6 := Lib.hid o6
      obtain ⟨b6, off6, rfl⟩ : ∃ b off, A6 = some ⟨b, off, none⟩ := by
        rcases o6.row_addr with ⟨h1, -⟩ | ⟨g', off', n', c', h1⟩
        · exact absurd (congrArg (fun v => match v with | .slice _ n _ => n | _ => 0) h1) (by simp)
        · injection h1 with h1; exact ⟨_, _, h1⟩
      have hc6 := (o6.row_le (n := 0 + 1) (by decide) (by first | rfl | (rw [List.length_append, List.length_take, HXL.out]; simp only [List.length_cons, List.length_nil]; omega))).1
      have g1 := (o6.pick (L := [_, _, _]) [2]).blk_cell 1
      have f1 := (o6.pick (L := [_, _, _]) [2]).blk_free 1
      have O8 := Lib.hid ((o6.pick (L := [_, _, _, _, _, _, _]) [2, 0, 4, 5, 6]).blk_set 1 (.slice (some ⟨b6, off6, none⟩) (0 + 1) c6))
      simp only [rnetA, List.getElem?_toArray, List.getElem?_cons_zero, List.getElem?_cons_succ] at g1
      clear o6 O5 O6 d0 d1 d2 d3 d4
      go_wp2
      go_ret
      refine ⟨rfl, ?_⟩
      refine HFIN.out _ (some ⟨b6, off6, none⟩) (0 + 1) c6 rfl ?_
      rw [show xs.drop (0 * 5) = [] from List.drop_eq_nil_of_le (by rw [HXL.out]; omega), List.append_nil]
      exact O8.out
    · have hc0' : ¬ (c3 : Int) = 0 := by omega
      by_cases hcj : c3 = t
      · obtain rfl : n = t := by omega
        subst hcj
        have O4 := Lib.hid (O3.out.emptyN 60 5)
        have d11 := (O4.out.pick (L := [_, _, _]) [2]).blk_cell 1
        simp only [rnetA, List.getElem?_toArray, List.getElem?_cons_zero, List.getElem?_cons_succ] at d11
        have lg := (O3.out.pick (L := [_, _]) [1]).blk_lt
        go_wp2_with (at_builtin; refine wpList_append_own rfl (.tmp 26) (.tmp 32) 46 rfl 60 mailZero 5 56 Try.underlying46 Try.info60 mailZero_size (by decide) rfl (rfl) O4.out (Below.refl _ _) (some ⟨b3, off3, none⟩) (c3) (c3) (xs.take (c3 * 5)) rfl (by rw [List.length_take, HXL.out]; omega) (rd1_ (O4.out.pick (L := [_, _, _, _]) [3])) (fun u hu => HX1.out u (List.mem_of_mem_take hu)) (by unfold maxLen; omega) (by omega) ?_)
        rintro A5 c5 w5 o5
        first | rw [Nat.zero_add, List.nil_append] at o5 | change Own S w0 w5 (SP.row 60 5 (.slice A5 0 c5) (xs.take (0 * 5)) :: _) at o5 | skip
        have O5 := Lib.hid o5
        have d0 := (o5.pick (L := [_, _]) [1]).blk_cell 0
        have d1 := (o5.pick (L := [_, _]) [1]).blk_cell 1
        have d2 := (o5.pick (L := [_, _]) [1]).blk_cell 2
        have d3 := (o5.pick (L := [_, _]) [1]).blk_cell 3
        have d4 := (o5.pick (L := [_, _]) [1]).blk_cell 4
        simp only [List.getElem?_toArray, List.getElem?_cons_zero, List.getElem?_cons_succ] at d0 d1 d2 d3 d4
        clear o5 O4 d10 d11 lg
        go_wp2_with (at_builtin; refine wpList_append_own rfl (.tmp 34) (.tmp 36) 46 rfl 60 mailZero 5 56 Try.underlying46 Try.info60 mailZero_size (by decide) rfl (by rw [List.length_take, HXL.out]; omega) O5.out ((Below.refl _ _).alloc (Nat.le_refl _) _) _ 1 1 [Value.int .i64 m.num, .int .i64 m.frm, .int .i64 m.to, .slice Ad dl cd, .bool m.sp] rfl rfl (rd_list _ _ _) HONE.out (by unfold maxLen; omega) (by omega) ?_)
        rintro A6 c6 w6 o6
        have O6 := Lib.hid o6
        obtain ⟨b6, off6, rfl⟩ : ∃ b off, A6 = some ⟨b, off, none⟩ := by
          rcases o6.row_addr with ⟨h1, -⟩ | ⟨g', off', n', c', h1⟩
          · exact absurd (congrArg (fun v => match v with | .slice _ n _ => n | _ => 0) h1) (by simp)
          · injection h1 with h1; exact ⟨_, _, h1⟩
        have hc6 := (o6.row_le (n := c3 + 1) (by decide) (by first | rfl | (rw [List.length_append, List.length_take, HXL.out]; simp only [List.length_cons, List.length_nil]; omega))).1
        have g1 := (o6.pick (L := [_, _, _]) [2]).blk_cell 1
        have f1 := (o6.pick (L := [_, _, _]) [2]).blk_free 1
        have O8 := Lib.hid ((o6.pick (L := [_, _, _, _, _, _, _]) [2, 0, 4, 5, 6]).blk_set 1 (.slice (some ⟨b6, off6, none⟩) (c3 + 1) c6))
        simp only [rnetA, List.getElem?_toArray, List.getElem?_cons_zero, List.getElem?_cons_succ] at g1
        clear o6 O5 O6 d0 d1 d2 d3 d4
        go_wp2
        go_ret
        refine ⟨rfl, ?_⟩
        refine HFIN.out _ (some ⟨b6, off6, none⟩) (c3 + 1) c6 rfl ?_
        rw [show xs.drop (c3 * 5) = [] from List.drop_eq_nil_of_le (by rw [HXL.out]; omega), List.append_nil]
        exact O8.out
      · have i5 : t ≤ n := htn
        have O4 := Lib.hid (O3.out.emptyN 60 5)
        have d11 := (O4.out.pick (L := [_, _, _]) [2]).blk_cell 1
        simp only [rnetA, List.getElem?_toArray, List.getElem?_cons_zero, List.getElem?_cons_succ] at d11
        have lg := (O3.out.pick (L := [_, _]) [1]).blk_lt
        go_wp2_with (at_builtin; refine wpList_append_own rfl (.tmp 26) (.tmp 32) 46 rfl 60 mailZero 5 56 Try.underlying46 Try.info60 mailZero_size (by decide) rfl (rfl) O4.out (Below.refl _ _) (some ⟨b3, off3, none⟩) (t) (c3) (xs.take (t * 5)) rfl (by rw [List.length_take, HXL.out]; omega) (rd1_ (O4.out.pick (L := [_, _, _, _]) [3])) (fun u hu => HX1.out u (List.mem_of_mem_take hu)) (by unfold maxLen; omega) (by omega) ?_)
        rintro A5 c5 w5 o5
        first | rw [Nat.zero_add, List.nil_append] at o5 | change Own S w0 w5 (SP.row 60 5 (.slice A5 0 c5) (xs.take (0 * 5)) :: _) at o5 | skip
        have O5 := Lib.hid o5
        have d0 := (o5.pick (L := [_, _]) [1]).blk_cell 0
        have d1 := (o5.pick (L := [_, _]) [1]).blk_cell 1
        have d2 := (o5.pick (L := [_, _]) [1]).blk_cell 2
        have d3 := (o5.pick (L := [_, _]) [1]).blk_cell 3
        have d4 := (o5.pick (L := [_, _]) [1]).blk_cell 4
        simp only [List.getElem?_toArray, List.getElem?_cons_zero, List.getElem?_cons_succ] at d0 d1 d2 d3 d4
        clear o5 O4 d10 d11 lg
        go_wp2_with (at_builtin; refine wpList_append_own rfl (.tmp 34) (.tmp 36) 46 rfl 60 mailZero 5 56 Try.underlying46 Try.info60 mailZero_size (by decide) rfl (by rw [List.length_take, HXL.out]; omega) O5.out ((Below.refl _ _).alloc (Nat.le_refl _) _) _ 1 1 [Value.int .i64 m.num, .int .i64 m.frm, .int .i64 m.to, .slice Ad dl cd, .bool m.sp] rfl rfl (rd_list _ _ _) HONE.out (by unfold maxLen; omega) (by omega) ?_)
        rintro A6 c6 w6 o6
        have O6 := Lib.hid o6
        have g1 := (o6.pick (L := [_, _, _]) [2]).blk_cell 1
        simp only [rnetA, List.getElem?_toArray, List.getElem?_cons_zero, List.getElem?_cons_succ] at g1
        clear o6 O5 d0 d1 d2 d3 d4
        go_wp2_with (at_builtin; refine wpList_append_own rfl (.tmp 39) (.tmp 45) 46 rfl 60 mailZero 5 56 Try.underlying46 Try.info60 mailZero_size (by decide) rfl (by rw [List.length_append, List.length_take, HXL.out]; simp only [List.length_cons, List.length_nil]; omega) O6.out (Below.refl _ _) (some ⟨b3, off3 + t * 5, none⟩) ((n - t)) ((c3 - t)) (xs.drop (t * 5)) rfl (by rw [List.length_drop, HXL.out]; omega) (by have := ((O6.out.pick (L := [_, _, _, _]) [3]).cutRow (k := t) (by omega) (by omega) HXL.out).rd; rw [if_neg hcj] at this; exact this) (fun u hu => HX1.out u (List.mem_of_mem_drop hu)) (by unfold maxLen; omega) (by omega) ?_)
        rintro A7 c7 w7 o7
        have f1 := (o7.pick (L := [_, _, _]) [2]).blk_free 1
        have b1 := (o7.pick (L := [_, _, _]) [2]).blk_cell 1
        have O7 := Lib.hid o7
        have O8 := Lib.hid ((o7.pick (L := [_, _, _, _, _, _, _]) [2, 0, 4, 5, 6]).blk_set 1 (.slice A7 (t + 1 + (n - t)) c7))
        clear o7 O6 g1
        go_wp2
        go_ret
        refine ⟨rfl, ?_⟩
        refine HFIN.out _ A7 (t + 1 + (n - t)) c7 (by omega) ?_
        rw [List.append_assoc]
        exact O8.out
end
end Go.Proofs.Ytlhinhcbbknhcaa
