/-
  Move: a mail lets itself stand at another place.
  Conditions: none beyond each theorem's own.
-/
import Derived.Test.YtlhinhcbbknhcaaIns
import Derived.Test.YtlhinhcbbknhcaaRegionNeed
import Derived.WalkSpells
namespace Go.Proofs.Ytlhinhcbbknhcaa
set_option linter.unusedVariables false
set_option linter.unusedSimpArgs false
open Go.RowKit

section
variable {S : Nat → Prop} {w0 w : World} {R : List SP} {g : Nat} {nodes last : Int} {cut : List Bool} {L : List M}

set_option maxHeartbeats 800000 in
theorem move_no (h : Own S w0 w (SP.net g nodes cut last L :: R)) (i t : Int) (hi : ¬ ((0 ≤ i ∧ i < (L.length : Int)) ∧ 0 ≤ t ∧ t < (L.length : Int))) :
    Calls Try.prog 24 #[.pointer (some ⟨g, 0, none⟩), .int .i64 i, .int .i64 t] w fun e w' => e = .returned (.bool false) ∧ Own S w0 w' (SP.net g nodes cut last L :: R) := by
  have HT := Lib.hid (there_own h i)
  have HU := Lib.hid (there_own h t)
  have H := Lib.hid h
  by_cases h1 : 0 ≤ i ∧ i < (L.length : Int)
  · have h2 : ¬ (0 ≤ t ∧ t < (L.length : Int)) := fun h2 => hi ⟨h1, h2⟩
    rw [show thereB i L.length = true from decide_eq_true h1] at HT
    rw [show thereB t L.length = false from decide_eq_false h2] at HU
    clear h hi h1 h2
    go_enter Try.func24, Try.ntmps24
    go_wp2_with fail
    refine (HT.out).mono ?_
    rintro e w1 ⟨rfl, rfl⟩
    go_wp2_with fail
    refine (HU.out).mono ?_
    rintro e w1 ⟨rfl, rfl⟩
    go_wp2
    go_ret
    exact ⟨rfl, H.out⟩
  · rw [show thereB i L.length = false from decide_eq_false h1] at HT
    clear h hi h1
    go_enter Try.func24, Try.ntmps24
    go_wp2_with fail
    refine (HT.out).mono ?_
    rintro e w1 ⟨rfl, rfl⟩
    go_wp2
    go_ret
    exact ⟨rfl, H.out⟩

theorem Own.insAt {X : List SP} {A : SP} (h : Own S w0 w (SP.stars X :: A :: R)) (t : Nat) : Own S w0 w (SP.stars (X.take t ++ A :: X.drop t) :: R) := by
  have h1 := h.flat
  have h2 : Own S w0 w ((X.take t ++ A :: X.drop t) ++ R) := h1.perm (by
    rw [List.append_assoc, List.cons_append]
    refine List.perm_middle.trans (List.Perm.trans ?_ (List.perm_middle.symm))
    rw [← List.append_assoc, List.take_append_drop])
  exact h2.unflat
def moved (L : List M) (i t : Nat) (m : M) : List M := (L.eraseIdx i).take t ++ m :: (L.eraseIdx i).drop t

theorem insert_own {b off n c vb vc i : Nat} {xs news : List Value} (hi : i ≤ n) (hn : xs.length = n * 5) (hroom : n + 1 ≤ c) (hnl : news.length = 5) (hbig : n ≤ 1000000) (h1x : ∀ u ∈ xs, u.oneCell' = true) (h1n : ∀ u ∈ news, u.oneCell' = true)
    (h : Own S w0 w (SP.row 34 5 (.slice (some ⟨b, off, none⟩) n c) xs :: SP.blk vb 34 news.toArray :: R)) :
    Calls Try.prog 43 #[.slice (some ⟨b, off, none⟩) n c, .int .i64 i, .slice (some ⟨vb, 0, none⟩) 1 vc] w fun e w' =>
      ∃ A' c', e = .returned (.slice A' (n + 1) c') ∧ Own S w0 w' (SP.row 34 5 (.slice A' (n + 1) c') (xs.take (i * 5) ++ news ++ xs.drop (i * 5)) :: R) := by
  rcases Nat.lt_or_ge i n with h1 | h1
  · refine (insert_mid h1 hn hroom hnl hbig h1x h1n h).mono ?_
    rintro e w' ⟨he, o⟩
    exact ⟨_, _, he, o⟩
  · obtain rfl : i = n := by omega
    refine (insert_end hn hroom hnl hbig h1n h).mono ?_
    rintro e w' ⟨A', c', he, o⟩
    refine ⟨A', c', he, ?_⟩
    rw [List.take_of_length_le (by omega), List.drop_eq_nil_of_le (by omega), List.append_nil]
    exact o

set_option maxRecDepth 100000 in
set_option maxHeartbeats 3200000 in
theorem move_yes (hL : L.length ≤ 1000000) (h : Own S w0 w (SP.net g nodes cut last L :: R)) (i t : Nat) (m : M) (hm : L[i]? = some m) (ht : t < L.length) :
    Calls Try.prog 24 #[.pointer (some ⟨g, 0, none⟩), .int .i64 i, .int .i64 t] w fun e w' => e = .returned (.bool true) ∧ Own S w0 w' (SP.net g nodes cut last (moved L i t m) :: R) := by
  have hi : i < L.length := (List.getElem?_eq_some_iff.1 hm).1
  have HT := Lib.hid (there_own h (i : Int))
  have HU := Lib.hid (there_own h (t : Int))
  have HS := Lib.hid (take_open hL h i m hm)
  rw [show thereB (i : Int) L.length = true from decide_eq_true (by omega)] at HT
  rw [show thereB (t : Int) L.length = true from decide_eq_true (by omega)] at HU
  have hle : (L.eraseIdx i).length + 1 = L.length := by rw [List.length_eraseIdx, if_pos hi]; omega
  obtain ⟨n, hn⟩ : ∃ n, (L.eraseIdx i).length = n := ⟨_, rfl⟩
  have HM := Lib.hid (And.intro hm hn)
  have htn : t ≤ n := by omega
  have hnb : n ≤ 1000000 := by omega
  have hLn : L.length = n + 1 := by omega
  rw [hn, hLn] at HS
  unfold mailV at HS
  clear h hm hn hle hi ht hL hLn
  obtain ⟨dl, hdl⟩ : ∃ dl, m.dat.length = dl := ⟨_, rfl⟩
  have HDL := Lib.hid hdl
  rw [hdl] at HS
  clear hdl
  go_enter Try.func24, Try.ntmps24
  go_wp2_with fail
  refine (HT.out).mono ?_
  rintro e w1 ⟨rfl, rfl⟩
  go_wp2_with fail
  refine (HU.out).mono ?_
  rintro e w1 ⟨rfl, rfl⟩
  go_wp2_with fail
  refine (HS.out).mono ?_
  rintro e w2 ⟨Ad, cd, A3, c3, ds', hc3, hds, hcut, rfl, o2⟩
  have hrow := o2.row_le (by decide) (by rw [mrow_length (by rw [hds, HM.out.2]), HM.out.2])
  obtain ⟨b3, off3, rfl⟩ : ∃ b off, A3 = some ⟨b, off, none⟩ := by
    rcases o2.row_addr with ⟨h1, -⟩ | ⟨g', off', n', c', h1⟩
    · injection h1 with _ _ h1; omega
    · injection h1 with h1; exact ⟨_, _, h1⟩
  have o3 := o2.alloc #[.int .i64 m.num, .int .i64 m.frm, .int .i64 m.to, .slice Ad dl cd, .bool m.sp] 34
  obtain ⟨q, hq⟩ : ∃ q, w2.heap.size = q := ⟨_, rfl⟩
  rw [hq] at o3
  have HG := Lib.hid (And.intro hcut (And.intro hds hq))
  have O3 := Lib.hid (o3.pick (L := [_, _, _, _, _]) [1, 3, 0, 2, 4])
  clear o2 o3 hcut hds hq HT HU HS
  go_upto_region 4 with (fail)
  obtain ⟨W1, hW1⟩ : ∃ W1, w2.alloc (.cells #[.int .i64 m.num, .int .i64 m.frm, .int .i64 m.to, .slice Ad dl cd, .bool m.sp] 34) = W1 := ⟨_, rfl⟩
  rw [hW1] at O3
  simp only [hW1, HG.out.2.2]
  clear hW1
  have d65 := ((O3.out.pick (L := [_, _]) [1]).blk_cell 65).trans (netList_row HG.out.1)
  have dq := fun j => (O3.out.pick (L := [_, _, _]) [2]).blk_cell j
  have d0 := dq 0
  have d1 := dq 1
  have d2 := dq 2
  have d3 := dq 3
  have d4 := dq 4
  simp only [List.getElem?_toArray, List.getElem?_cons_zero, List.getElem?_cons_succ] at d0 d1 d2 d3 d4
  clear dq
  refine wp_region_need (fun W => W.cell? ⟨g, 65, none⟩ = some (.slice (some ⟨b3, off3, none⟩) n c3) ∧ W.cell? ⟨q, 0, none⟩ = some (.int .i64 m.num) ∧ W.cell? ⟨q, 1, none⟩ = some (.int .i64 m.frm) ∧ W.cell? ⟨q, 2, none⟩ = some (.int .i64 m.to) ∧ W.cell? ⟨q, 3, none⟩ = some (.slice Ad dl cd) ∧ W.cell? ⟨q, 4, none⟩ = some (.bool m.sp)) (fun j => decide (j < 9)) (by kernel_rfl) ?_
  have hS : ∀ T : World, T.heap = W1.heap → (T.cell? ⟨g, 65, none⟩ = some (.slice (some ⟨b3, off3, none⟩) n c3) ∧ T.cell? ⟨q, 0, none⟩ = some (.int .i64 m.num) ∧ T.cell? ⟨q, 1, none⟩ = some (.int .i64 m.frm) ∧ T.cell? ⟨q, 2, none⟩ = some (.int .i64 m.to) ∧ T.cell? ⟨q, 3, none⟩ = some (.slice Ad dl cd) ∧ T.cell? ⟨q, 4, none⟩ = some (.bool m.sp)) := fun T hT => by
    simp only [World.cell?, hT] at d0 d1 d2 d3 d4 d65 ⊢
    exact ⟨d65, d0, d1, d2, d3, d4⟩
  have HS := Lib.hid (hS W1.drew rfl)
  clear hS
  refine wpAnyN_take (i := 0) (v := ?v0) (by simp only [List.getElem?_toArray, List.getElem?_cons_succ, List.getElem?_cons_zero]; rfl) (by kernel_rfl) (by intro _ _ _ h; exact h) (Or.inl ⟨by rfl, ?y0⟩) HS.out ?r0
  case y0 =>
    intro W hSW
    try dsimp only at hSW
    obtain ⟨s65, s0, s1, s2, s3, s4⟩ := hSW
    go_simp
    try with_reducible rfl
  simp only [Act.put, List.setIfInBounds_toArray, List.set_cons_zero, List.set_cons_succ]
  refine wpAnyN_take (i := 1) (v := ?v1) (by simp only [List.getElem?_toArray, List.getElem?_cons_succ, List.getElem?_cons_zero]; rfl) (by kernel_rfl) (by intro _ _ _ h; exact h) (Or.inl ⟨by rfl, ?y1⟩) HS.out ?r1
  case y1 =>
    intro W hSW
    try dsimp only at hSW
    obtain ⟨s65, s0, s1, s2, s3, s4⟩ := hSW
    go_simp
    try with_reducible rfl
  simp only [Act.put, List.setIfInBounds_toArray, List.set_cons_zero, List.set_cons_succ]
  refine wpAnyN_take (i := 2) (v := ?v2) (by simp only [List.getElem?_toArray, List.getElem?_cons_succ, List.getElem?_cons_zero]; rfl) (by kernel_rfl) (by intro _ _ _ h; exact h) (Or.inl ⟨by rfl, ?y2⟩) HS.out ?r2
  case y2 =>
    intro W hSW
    try dsimp only at hSW
    obtain ⟨s65, s0, s1, s2, s3, s4⟩ := hSW
    go_simp
    try with_reducible rfl
  simp only [Act.put, List.setIfInBounds_toArray, List.set_cons_zero, List.set_cons_succ]
  refine wpAnyN_take (i := 3) (v := ?v3) (by simp only [List.getElem?_toArray, List.getElem?_cons_succ, List.getElem?_cons_zero]; rfl) (by kernel_rfl) (by intro _ _ _ h; exact h) (Or.inl ⟨by rfl, ?y3⟩) HS.out ?r3
  case y3 =>
    intro W hSW
    try dsimp only at hSW
    obtain ⟨s65, s0, s1, s2, s3, s4⟩ := hSW
    go_simp
    try with_reducible rfl
  simp only [Act.put, List.setIfInBounds_toArray, List.set_cons_zero, List.set_cons_succ]
  refine wpAnyN_take (i := 4) (v := ?v4) (by simp only [List.getElem?_toArray, List.getElem?_cons_succ, List.getElem?_cons_zero]; rfl) (by kernel_rfl) (by intro _ _ _ h; exact h) (Or.inl ⟨by rfl, ?y4⟩) HS.out ?r4
  case y4 =>
    intro W hSW
    try dsimp only at hSW
    obtain ⟨s65, s0, s1, s2, s3, s4⟩ := hSW
    go_simp
    try with_reducible rfl
  simp only [Act.put, List.setIfInBounds_toArray, List.set_cons_zero, List.set_cons_succ]
  refine wpAnyN_take (i := 5) (v := ?v5) (by simp only [List.getElem?_toArray, List.getElem?_cons_succ, List.getElem?_cons_zero]; rfl) (by kernel_rfl) (by intro _ _ _ h; exact h) (Or.inl ⟨by rfl, ?y5⟩) HS.out ?r5
  case y5 =>
    intro W hSW
    try dsimp only at hSW
    obtain ⟨s65, s0, s1, s2, s3, s4⟩ := hSW
    go_simp
    try with_reducible rfl
  simp only [Act.put, List.setIfInBounds_toArray, List.set_cons_zero, List.set_cons_succ]
  refine wpAnyN_take (i := 6) (v := ?v6) (by simp only [List.getElem?_toArray, List.getElem?_cons_succ, List.getElem?_cons_zero]; rfl) (by kernel_rfl) (by intro _ _ _ h; exact h) (Or.inl ⟨by rfl, ?y6⟩) HS.out ?r6
  case y6 =>
    intro W hSW
    try dsimp only at hSW
    obtain ⟨s65, s0, s1, s2, s3, s4⟩ := hSW
    go_simp
    try with_reducible rfl
  simp only [Act.put, List.setIfInBounds_toArray, List.set_cons_zero, List.set_cons_succ]
  refine wpAnyN_one (i := 7) (by kernel_rfl) (by simp only [List.getElem?_toArray, List.getElem?_cons_succ, List.getElem?_cons_zero]; rfl) (fun K hK => ?_)
  go_simp
  refine hK _ _ ⟨fun _ => ?_, ?_⟩
  · have lg := (O3.out.pick (L := [_, _]) [1]).blk_lt
    have lq := (O3.out.pick (L := [_, _, _]) [2]).blk_lt
    obtain ⟨e65, e0, e1, e2, e3, e4⟩ := HS.out
    refine ⟨?_, ?_, ?_, ?_, ?_, ?_⟩ <;> go_simp
  clear hK K
  try simp only [Act.put, List.setIfInBounds_toArray, List.set_cons_zero, List.set_cons_succ]
  have O4 := Lib.hid ((O3.out.drew.alloc #[.int .i64 m.num, .int .i64 m.frm, .int .i64 m.to, .slice Ad dl cd, .bool m.sp] 34).swap)
  have hds : ds'.length = (L.eraseIdx i).length := by rw [HG.out.2.1, HM.out.2]
  have h1x : ∀ u ∈ mrow (L.eraseIdx i) ds', u.oneCell' = true := fun u hu => mrow_one u hu (Own.mdata_one hds (O3.out.pick (L := [_, _, _, _]) [3]))
  have HI := Lib.hid (insert_own (vc := 1) (i := t) htn (by rw [mrow_length hds, HM.out.2]) hc3 rfl hnb h1x (by
    intro u hu
    simp only [List.mem_cons, List.not_mem_nil, or_false] at hu
    rcases hu with rfl | rfl | rfl | rfl | rfl <;> rfl) O4.out)
  clear h1x hds d0 d1 d2 d3 d4 d65 HS
  refine wpAnyN_one (i := 8) (by kernel_rfl) (by simp only [List.getElem?_toArray, List.getElem?_cons_succ, List.getElem?_cons_zero]; rfl) (fun K hK => ?_)
  refine step_call rfl 43 _ _ rfl Try.func43 (by kernel_rfl) (by kernel_rfl) _ rfl ?_
  refine (HI.out).mono ?_
  rintro e w5 ⟨A5, c5, rfl, o5⟩
  refine ⟨_, rfl, ?_⟩
  have O5 := Lib.hid o5
  have e65 := ((o5.pick (L := [_, _]) [1]).blk_cell 65).trans (netList_row HG.out.1)
  have f65 := (o5.pick (L := [_, _]) [1]).blk_free 65
  have bq := fun j => (o5.pick (L := [_, _, _]) [2]).blk_cell j
  refine hK _ _ ⟨fun _ => ⟨e65, bq 0, bq 1, bq 2, bq 3, bq 4⟩, ?_⟩
  clear hK K o5 HI O4 bq
  try simp only [Act.put, List.setIfInBounds_toArray, List.set_cons_zero, List.set_cons_succ]
  refine wpAnyN_one (i := 9) (by kernel_rfl) (by simp only [List.getElem?_toArray, List.getElem?_cons_succ, List.getElem?_cons_zero]; rfl) (fun K hK => ?_)
  go_simp
  refine hK _ _ ⟨fun h => (by cases h), ?_⟩
  clear hK K
  try simp only [Act.put, List.setIfInBounds_toArray, List.set_cons_zero, List.set_cons_succ]
  refine wpAnyN_one (i := 10) (by kernel_rfl) (by simp only [List.getElem?_toArray, List.getElem?_cons_succ, List.getElem?_cons_zero]; rfl) (fun K hK => ?_)
  go_simp
  refine hK _ _ ⟨fun h => (by cases h), ?_⟩
  clear hK K
  try simp only [Act.put, List.setIfInBounds_toArray, List.set_cons_zero, List.set_cons_succ]
  refine wpAnyN_one (i := 11) (by kernel_rfl) (by simp only [List.getElem?_toArray, List.getElem?_cons_succ, List.getElem?_cons_zero]; rfl) (fun K hK => ?_)
  go_simp
  refine hK _ _ ⟨fun h => (by cases h), ?_⟩
  clear hK K
  try simp only [Act.put, List.setIfInBounds_toArray, List.set_cons_zero, List.set_cons_succ]
  refine wpAnyN_done (by kernel_rfl) ?_ _
  go_wp2
  go_ret
  obtain ⟨hcut, hds, -⟩ := HG.out
  obtain ⟨hm, hn⟩ := HM.out
  have hds2 : ds'.length = (L.eraseIdx i).length := by rw [hds, hn]
  refine ⟨rfl, Own.net_shut hcut (v := .slice A5 (n + 1) c5) ?_⟩
  have o6 := (O5.out.pick (L := [_, _]) [1, 0]).blk_set 65 (.slice A5 (n + 1) c5)
  rw [netList_set_row hcut] at o6
  have hlen : (ds'.take t ++ .slice Ad dl cd :: ds'.drop t).length = (moved L i t m).length := by
    simp only [moved, List.length_append, List.length_cons, List.length_take, List.length_drop, hds2]
  have htk : (ds'.take t).length = ((L.eraseIdx i).take t).length := by rw [List.length_take, List.length_take, hds2]
  refine (Own.mails_shut (L := moved L i t m) hlen ?_).swap
  have hM : mrow (moved L i t m) (ds'.take t ++ .slice Ad dl cd :: ds'.drop t) = (mrow (L.eraseIdx i) ds').take (t * 5) ++ [.int .i64 m.num, .int .i64 m.frm, .int .i64 m.to, .slice Ad dl cd, .bool m.sp] ++ (mrow (L.eraseIdx i) ds').drop (t * 5) := by
    rw [moved, mrow_append htk, show mrow (m :: (L.eraseIdx i).drop t) (.slice Ad dl cd :: ds'.drop t) = mcells m (.slice Ad dl cd) ++ mrow ((L.eraseIdx i).drop t) (ds'.drop t) from rfl, mrow_take, mrow_drop, ← List.append_assoc]; rfl
  have hD : mdata (moved L i t m) (ds'.take t ++ .slice Ad dl cd :: ds'.drop t) = (mdata (L.eraseIdx i) ds').take t ++ SP.row 5 1 (.slice Ad dl cd) (bts m.dat) :: (mdata (L.eraseIdx i) ds').drop t := by
    rw [moved, mdata_append htk]
    unfold mdata
    rw [List.take_zipWith, List.drop_zipWith]; rfl
  rw [hM, hD]
  have o7 := (Own.insAt (o6.pick (L := [_, _, _, _, _]) [3, 4, 1, 0]) t).pick (L := [_, _, _]) [1, 0, 2]
  exact o7
end
end Go.Proofs.Ytlhinhcbbknhcaa
