/-
  slices.DeleteFunc on a row of mails; Clear: all mails for a node lost.
  Conditions: none beyond each theorem's own.
-/
import Derived.Test.YtlhinhcbbknhcaaClr
import Derived.StillTailTactics
namespace Go.Proofs.Ytlhinhcbbknhcaa
set_option linter.unusedVariables false
set_option linter.unusedSimpArgs false
open Go.RowKit

section
variable {S : Nat → Prop} {w0 w : World} {R : List SP} {L : List M} {ds : List Value}

theorem keepM_first {t : Int} {k : Nat} {m : M} (hm : L[k]? = some m) (hmt : m.to = t) (hk : ∀ x, x ∈ L.take k → x.to ≠ t) : keepM t (L.take (k + 1)) = L.take k := by
  rw [List.take_add_one, hm]
  show keepM t (L.take k ++ [m]) = _
  rw [keepM_snoc, keepM_none t _ hk, if_pos (by simpa using hmt), List.append_nil]
theorem keepD_first {t : Int} {k : Nat} {m : M} {d : Value} (hds : ds.length = L.length) (hm : L[k]? = some m) (hd : ds[k]? = some d) (hmt : m.to = t) (hk : ∀ x, x ∈ L.take k → x.to ≠ t) : keepD t (L.take (k + 1)) (ds.take (k + 1)) = ds.take k := by
  rw [List.take_add_one, List.take_add_one, hm, hd]
  show keepD t (L.take k ++ [m]) (ds.take k ++ [d]) = _
  rw [keepD_snoc _ _ _ _ _ (by rw [List.length_take, List.length_take, hds]), keepD_none t _ _ (by rw [List.length_take, List.length_take, hds]) hk, if_pos (by simpa using hmt), List.append_nil]

/-- What the row holds at a round. -/
structure Mid (t : Int) (L : List M) (ds : List Value) (i j : Nat) (xs : List Value) : Prop where
  len : xs.length = L.length * 5
  cnt : i = (keepM t (L.take j)).length
  head : xs.take (i * 5) = mrow (keepM t (L.take j)) (keepD t (L.take j) (ds.take j))
  tail : xs.drop (j * 5) = mrow (L.drop j) (ds.drop j)
  one : ∀ u ∈ xs, u.oneCell' = true

theorem mid_next {t : Int} {i j : Nat} {xs : List Value} {m : M} {d : Value} (hds : ds.length = L.length) (h : Mid t L ds i j xs) (hij : i < j) (hm : L[j]? = some m) (hd : ds[j]? = some d) (hd1 : d.oneCell' = true) :
    if m.to == t then Mid t L ds i (j + 1) xs else Mid t L ds (i + 1) (j + 1) (xs.take (i * 5) ++ mcells m d ++ xs.drop (i * 5 + 5)) := by
  have hj : j < L.length := (List.getElem?_eq_some_iff.1 hm).1
  have hlt : (ds.take j).length = (L.take j).length := by rw [List.length_take, List.length_take, hds]
  have e1 : L.take (j + 1) = L.take j ++ [m] := by rw [List.take_add_one, hm]; rfl
  have e2 : ds.take (j + 1) = ds.take j ++ [d] := by rw [List.take_add_one, hd]; rfl
  have e3 : xs.drop ((j + 1) * 5) = mrow (L.drop (j + 1)) (ds.drop (j + 1)) := by
    rw [← mrow_drop, Nat.add_mul, Nat.one_mul, ← List.drop_drop, h.tail, mrow_drop .. |>.symm, List.drop_drop]
  have hlen := h.len
  by_cases ht : m.to == t
  · rw [if_pos ht]
    refine ⟨h.len, ?_, ?_, e3, h.one⟩
    · rw [e1, keepM_snoc, if_pos ht, List.append_nil]; exact h.cnt
    · rw [e1, e2, keepM_snoc, keepD_snoc _ _ _ _ _ hlt, if_pos ht, if_pos ht, List.append_nil, List.append_nil]; exact h.head
  · rw [if_neg ht]
    have hc : (mcells m d).length = 5 := rfl
    have hl1 : (xs.take (i * 5) ++ mcells m d).length = (i + 1) * 5 := by rw [List.length_append, List.length_take, hc]; omega
    refine ⟨?_, ?_, ?_, ?_, ?_⟩
    · rw [List.length_append, hl1, List.length_drop, hlen]; omega
    · rw [e1, keepM_snoc, if_neg ht, List.length_append, ← h.cnt]; rfl
    · rw [← hl1, List.take_left, e1, e2, keepM_snoc, keepD_snoc _ _ _ _ _ hlt, if_neg ht, if_neg ht, mrow_append (keepD_length t _ _ hlt), h.head]; rfl
    · rw [← e3, List.drop_append, List.drop_of_length_le (by rw [hl1]; omega), List.nil_append, hl1, List.drop_drop]
      congr 1; omega
    · intro u hu
      rcases List.mem_append.1 hu with hu | hu
      · rcases List.mem_append.1 hu with hu | hu
        · exact h.one u (List.mem_of_mem_take hu)
        · simp only [mcells, List.mem_cons, List.not_mem_nil, or_false] at hu
          rcases hu with rfl | rfl | rfl | rfl | rfl
          · rfl
          · rfl
          · rfl
          · exact hd1
          · rfl
      · exact h.one u (List.mem_of_mem_drop hu)
theorem mid_get {t : Int} {i j : Nat} {xs : List Value} {m : M} {d : Value} {k : Nat} (hds : ds.length = L.length) (h : Mid t L ds i j xs) (hm : L[j]? = some m) (hd : ds[j]? = some d) (hk : k < 5) : xs[j * 5 + k]? = (mcells m d)[k]? := by
  have h1 : (L.drop j)[0]? = some m := by rw [List.getElem?_drop]; exact hm
  have h2 : (ds.drop j)[0]? = some d := by rw [List.getElem?_drop]; exact hd
  have h3 := mrow_get h1 h2 hk
  rw [← h.tail, List.getElem?_drop, Nat.zero_mul, Nat.zero_add] at h3
  exact h3

set_option maxRecDepth 100000 in
set_option maxHeartbeats 3200000 in
theorem deletef_own {A : Option Addr} {c bx : Nat} {t : Int} (hL : L.length ≤ 1000000) (hds : ds.length = L.length)
    (h : Own S w0 w (SP.row 34 5 (.slice A L.length c) (mrow L ds) :: SP.stars (mdata L ds) :: SP.blk bx 3 #[.int .i64 t] :: R)) :
    Calls Try.prog 44 #[.slice A L.length c, .func (.func 45) #[] #[.pointer (some ⟨bx, 0, none⟩)]] w fun e w' => ∃ A' c', e = .returned (.slice A' (keepM t L).length c') ∧
      Own S w0 w' (SP.row 34 5 (.slice A' (keepM t L).length c') (mrow (keepM t L) (keepD t L ds)) :: SP.stars (mdata (keepM t L) (keepD t L ds)) :: R) := by
  have hcc := h.row_le (by decide) (mrow_length hds)
  have HI := Lib.hid (indexf_own hL hds h)
  have hm1 := Own.mdata_one hds (h.pick (L := [_, _]) [1])
  have h1x : ∀ u ∈ mrow L ds, u.oneCell' = true := fun u hu => mrow_one u hu hm1
  have H := Lib.hid (And.intro hds (And.intro hm1 h1x))
  obtain ⟨hc1, hc2⟩ := hcc
  unfold maxLen at hc2
  clear h hds hm1 h1x
  go_enter Try.func44, Try.ntmps44
  go_wp2_with fail
  refine (HI.out).mono ?_
  rintro e w2 ⟨r, rfl, hr, o2⟩
  have O2 := Lib.hid o2
  rcases hr with ⟨rfl, hno⟩ | ⟨k, m, rfl, hm, hmt, hk⟩
  · have HN := Lib.hid hno
    clear HI o2 hno
    go_wp2
    go_ret
    have e1 := keepM_none t L HN.out
    have e2 := keepD_none t L ds H.out.1 HN.out
    rw [e1, e2]
    exact ⟨A, c, rfl, O2.out.pick (L := [_, _, _]) [0, 1]⟩
  · have hkl : k < L.length := (List.getElem?_eq_some_iff.1 hm).1
    obtain ⟨d, hd⟩ : ∃ d, ds[k]? = some d := ⟨_, List.getElem?_eq_getElem (by rw [H.out.1]; exact hkl)⟩
    have hM : Mid t L ds k (k + 1) (mrow L ds) := ⟨mrow_length H.out.1, by rw [keepM_first hm hmt hk, List.length_take]; omega, by rw [keepM_first hm hmt hk, keepD_first H.out.1 hm hd hmt hk, mrow_take], mrow_drop _ _ _, H.out.2.2⟩
    obtain ⟨b, off, rfl⟩ : ∃ b off, A = some ⟨b, off, none⟩ := by
      obtain ⟨b, off, e1, -⟩ := o2.cell (mrow_get (j := 0) hm hd (by omega))
      exact ⟨b, off, e1⟩
    have HM := Lib.hid hM
    have hk1 : ¬ ((k : Int) = -1) := by omega
    have hk2 : ((k : Int) == -1) = false := beq_eq_false_iff_ne.2 hk1
    have hk3 : k + 1 ≤ L.length := hkl
    clear HI o2 hM hm hmt hk hd
    go_wp2
    go_loopw [5, 6] (fun ta tb wr => ∃ (i j : Nat) (xs : List Value), i < j ∧ j ≤ L.length ∧ ta = .int .i64 i ∧ tb = .int .i64 j ∧ Hid (Mid t L ds i j xs) ∧ Own S w0 wr (SP.row 34 5 (.slice (some ⟨b, off, none⟩) L.length c) xs :: SP.stars (mdata L ds) :: SP.blk bx 3 #[.int .i64 t] :: R)) (fun _ tb _ => L.length - (intOf tb).toNat)
    case atStart => exact ⟨k, k + 1, mrow L ds, by omega, hk3, rfl, by go_num, HM, O2.out⟩
    case round =>
      obtain ⟨i, j, xs, hij, hj, rfl, rfl, HX, hown⟩ := hrel
      clear O2 HM hk1 hk2 hk3 hkl
      by_cases hjn : j < L.length
      · have i1 : (j : Int) < (L.length : Int) := by omega
        obtain ⟨m, hm⟩ : ∃ m, L[j]? = some m := ⟨_, List.getElem?_eq_getElem hjn⟩
        obtain ⟨d, hd⟩ : ∃ d, ds[j]? = some d := ⟨_, List.getElem?_eq_getElem (by rw [H.out.1]; exact hjn)⟩
        have hd1 := H.out.2.1 d (List.mem_of_getElem? hd)
        obtain ⟨Ad, cd, rfl, -, -⟩ := SP.row_shape (n := m.dat.length) (by decide) ((hown.swap).focus j (mdata_get hm hd)).head (by rw [bts_length, Nat.mul_one])
        obtain ⟨dl, hdl⟩ : ∃ dl, m.dat.length = dl := ⟨_, rfl⟩
        rw [hdl] at hd hd1
        clear hdl
        have HY := Lib.hid (mid_next H.out.1 HX.out hij hm hd hd1)
        have gk := fun k (hk : k < 5) => mid_get (k := k) H.out.1 HX.out hm hd hk
        obtain ⟨_, _, e1, k0, -⟩ := hown.cell (gk 0 (by omega)); cases e1
        obtain ⟨_, _, e1, k1, -⟩ := hown.cell (gk 1 (by omega)); cases e1
        obtain ⟨_, _, e1, k2, -⟩ := hown.cell (gk 2 (by omega)); cases e1
        obtain ⟨_, _, e1, k3, -⟩ := hown.cell (gk 3 (by omega)); cases e1
        obtain ⟨_, _, e1, k4, -⟩ := hown.cell (gk 4 (by omega)); cases e1
        simp only [← Nat.add_assoc, Nat.add_zero] at k0 k1 k2 k3 k4
        have HC := Lib.hid (fun (W : World) (hx : W.cell? ⟨bx, 0, none⟩ = some (.int .i64 t)) => isto_calls W bx t m.num m.frm m.to (.slice Ad dl cd) m.sp hd1 hx)
        have o3 := hown.alloc #[.int .i64 m.num, .int .i64 m.frm, .int .i64 m.to, .slice Ad dl cd, .bool m.sp] 34
        obtain ⟨q, hq⟩ : ∃ q, wr.heap.size = q := ⟨_, rfl⟩
        rw [hq] at o3
        have hx := (o3.pick (L := [_, _, _, _]) [3]).blk_cell 0
        simp only [List.getElem?_toArray, List.getElem?_cons_zero, List.getElem?_cons_succ] at hx
        have o4 := (o3.alloc #[.int .i64 m.num, .int .i64 m.frm, .int .i64 m.to, .slice Ad dl cd, .bool m.sp] 34).pop
        have HO := Lib.hid (And.intro o4 hq)
        have hin : i < L.length := by omega
        have hX5 : xs.length = L.length * 5 := HX.out.len
        have HXL := Lib.hid hX5
        have HDM := Lib.hid hd1
        clear hown hm hd hd1 o3 gk o4 hX5 hq
        go_wp2_with fail
        simp only [HO.out.2]
        refine (HC.out _ hx).mono ?_
        rintro e w4 ⟨rfl, hw4⟩
        rw [← hw4] at HO
        have O4 := Lib.hid HO.out.1
        clear hw4 HC k0 k1 k2 k3 k4 hx HO
        by_cases ht : (m.to == t) = true
        · have HZ := Lib.hid (show Mid t L ds i (j + 1) xs by have := HY.out; rwa [if_pos ht] at this)
          clear HY
          go_wp2
          go_roundw
          case rel => exact ⟨i, j + 1, xs, by omega, by omega, rfl, by go_num, HZ, O4.out.pop⟩
          case measure => simp [intOf]; omega
        · rw [Bool.not_eq_true] at ht
          have HZ := Lib.hid (show Mid t L ds (i + 1) (j + 1) (xs.take (i * 5) ++ mcells m (.slice Ad dl cd) ++ xs.drop (i * 5 + 5)) by have := HY.out; rwa [if_neg (by simp [ht])] at this)
          clear HY
          have d0 := O4.out.blk_cell 0
          have d1 := O4.out.blk_cell 1
          have d2 := O4.out.blk_cell 2
          have d3 := O4.out.blk_cell 3
          have d4 := O4.out.blk_cell 4
          simp only [List.getElem?_toArray, List.getElem?_cons_zero, List.getElem?_cons_succ] at d0 d1 d2 d3 d4
          have gx := fun k (hk : k < 5) => (O4.out.swap).cell (j := i * 5 + k) (List.getElem?_eq_getElem (show i * 5 + k < xs.length by rw [HXL.out]; omega))
          obtain ⟨_, _, e1, g0, f0⟩ := gx 0 (by omega); cases e1
          obtain ⟨_, _, e1, g1, f1⟩ := gx 1 (by omega); cases e1
          obtain ⟨_, _, e1, g2, f2⟩ := gx 2 (by omega); cases e1
          obtain ⟨_, _, e1, g3, f3⟩ := gx 3 (by omega); cases e1
          obtain ⟨_, _, e1, g4, f4⟩ := gx 4 (by omega); cases e1
          simp only [← Nat.add_assoc, Nat.add_zero] at g0 g1 g2 g3 g4 f0 f1 f2 f3 f4
          have hl : ∀ k, k < 5 → i * 5 + k < xs.length := fun k hk => by rw [HXL.out]; omega
          have s0 := (O4.out.pick (L := [_, _, _, _]) [1, 2, 3]).store (j := i * 5) (hl 0 (by omega)) (.int .i64 m.num)
          have s1 := s0.store (j := i * 5 + 1) (by rw [List.length_set]; exact hl 1 (by omega)) (.int .i64 m.frm)
          have s2 := s1.store (j := i * 5 + 2) (by simp only [List.length_set]; exact hl 2 (by omega)) (.int .i64 m.to)
          have s3 := s2.store (j := i * 5 + 3) (by simp only [List.length_set]; exact hl 3 (by omega)) (.slice Ad dl cd)
          have s4 := s3.store (j := i * 5 + 4) (by simp only [List.length_set]; exact hl 4 (by omega)) (.bool m.sp)
          rw [five_set _ _ _ _ _ _ _ (by rw [HXL.out]; omega)] at s4
          simp only [← Nat.add_assoc] at s4
          have O5 := Lib.hid s4
          clear s0 s1 s2 s3 s4 gx hl
          go_wp2
          go_roundw
          case rel => exact ⟨i + 1, j + 1, _, by omega, by omega, by go_num, by go_num, HZ, O5.out⟩
          case measure => simp [intOf]; omega
      · have i1 : ¬ (j : Int) < (L.length : Int) := by omega
        obtain rfl : j = L.length := by omega
        have hX := HX.out
        obtain ⟨T, hr, -, hback⟩ := hown.open
        obtain ⟨w2', hclr, hk2, hr2⟩ := run_clear_row (P := Try.prog) 43 0 34 mailZero 5 56 Try.underlying43 Try.info34 mailZero_size Try.zc34 (SP.row_take hr (k := i) (by omega)) i (L.length - i) (c - i) (off + i * 5) (Nat.le_refl _) (by omega) (by omega) rfl
        have HF := Lib.hid (And.intro hX (hback _ _ hk2 ((SP.row 34 5 _ _).mono hr2 (fun k hk => .inl hk))))
        have hnc : ¬ c = i := by omega
        have hin : i ≤ L.length := by omega
        clear hX hown hr hback hk2 hr2 HX
        go_wp2
        go_ret
        obtain ⟨hX, o⟩ := HF.out
        have h1 := hX.cnt
        have h2 := hX.head
        rw [List.take_length] at h1 h2
        rw [show ds.take L.length = ds by rw [← H.out.1, List.take_length]] at h2
        rw [h2, h1] at o
        rw [h1]
        refine ⟨_, _, rfl, ?_⟩
        have o2 := o.pick (L := [_, _, _]) [1, 0]
        exact (o2.imp fun T hT => SP.stars_sub (keep_sub t L ds) hT).swap

set_option maxRecDepth 100000 in
set_option maxHeartbeats 1600000 in
theorem clear_own {g : Nat} {nodes last : Int} {cut : List Bool} (hL : L.length ≤ 1000000) (h : Own S w0 w (SP.net g nodes cut last L :: R)) (t : Int) :
    Calls Try.prog 25 #[.pointer (some ⟨g, 0, none⟩), .int .i64 t] w fun e w' => e = .returned (.int .i64 ((L.length : Int) - ((keepM t L).length : Int))) ∧ Own S w0 w' (SP.net g nodes cut last (keepM t L) :: R) := by
  obtain ⟨v, hcut, h1⟩ := h.net_open
  obtain ⟨A, c, ds, rfl, hds, -, -, h2⟩ := h1.swap.mails_open
  have o1 := h2.alloc #[.int .i64 t] 3
  obtain ⟨q, hq⟩ : ∃ q, w.heap.size = q := ⟨_, rfl⟩
  have HQ := Lib.hid hq
  rw [hq] at o1
  have HD := Lib.hid (deletef_own (t := t) (bx := q) hL hds (o1.pick (L := [_, _, _, _]) [1, 2, 0, 3]))
  have c65 := ((h2.pick (L := [_, _, _]) [2]).blk_cell 65).trans (netList_row hcut)
  have hlt := (h2.pick (L := [_, _, _]) [2]).blk_lt
  have H := Lib.hid (And.intro hcut hds)
  have hkl : (keepM t L).length ≤ L.length := List.length_filter_le _ _
  obtain ⟨n, hn⟩ : ∃ n, L.length = n := ⟨_, rfl⟩
  obtain ⟨k, hk⟩ : ∃ k, (keepM t L).length = k := ⟨_, rfl⟩
  rw [hn] at HD c65 hL hkl
  rw [hk] at HD hkl
  rw [hn, hk]
  have HN := Lib.hid hk
  clear h h1 h2 o1 hq hcut hds hn hk
  go_enter Try.func25, Try.ntmps25
  go_wp2_with fail
  simp only [HQ.out]
  refine (HD.out).mono ?_
  rintro e w2 ⟨A2, c2, rfl, o2⟩
  have f65 := (o2.pick (L := [_, _, _]) [2]).blk_free 65
  have c65b := ((o2.pick (L := [_, _, _]) [2]).blk_cell 65).trans (netList_row H.out.1)
  have o3 := (o2.pick (L := [_, _, _]) [2, 0, 1]).blk_set 65 (.slice A2 k c2)
  rw [netList_set_row H.out.1] at o3
  have O3 := Lib.hid o3
  clear o2 o3 HD c65
  go_wp2
  go_ret
  refine ⟨rfl, Own.net_shut H.out.1 (v := .slice A2 k c2) ?_⟩
  exact (Own.mails_shut (keepD_length t L ds H.out.2) (O3.out.pick (L := [_, _, _]) [1, 2, 0])).swap
end
end Go.Proofs.Ytlhinhcbbknhcaa
