/-
  LogMatching as a call: it returns true, and what was there stays.
  Conditions: the deeds lie in memory as they were handed in.
-/
import Derived.Test.YtepnkhiclgjmpaaLMatch1
import Derived.Test.YtepnkhiclgjmpaaDOpen
import Derived.Test.YtepnkhiclgjmpaaAppOwn
namespace Go.Proofs.Ytepnkhiclgjmpaa
set_option linter.unusedVariables false
set_option linter.unusedSimpArgs false
open Go.RowKit

theorem Try.info27 : (Try.prog.info? 27).map (fun i => (i.zero, i.size, i.bytes)) = some (some (.pointer none), 1, 8) := by kernel_rfl
def ptr (g : Nat) : Value := .pointer (some ⟨g, 0, none⟩)
def ptrs (gs : List Nat) : List Value := gs.map ptr
theorem ptrs_get {gs : List Nat} {k g : Nat} (h : gs[k]? = some g) : (ptrs gs)[k]? = some (.pointer (some ⟨g, 0, none⟩)) := by
  rw [ptrs, List.getElem?_map, h]; rfl
theorem ptrs_length (gs : List Nat) : (ptrs gs).length = gs.length := by simp [ptrs]
def lgs (gs : List Nat) (xs : List Lg) : List SP := List.zipWith (fun g x => SP.log 85 g x) gs xs
theorem lgs_get {gs : List Nat} {xs : List Lg} {k g : Nat} {x : Lg} (h : gs[k]? = some g) (hx : xs[k]? = some x) : (lgs gs xs)[k]? = some (SP.log 85 g x) := by
  simp [lgs, List.getElem?_zipWith, h, hx]
theorem lgs_length {gs : List Nat} {xs : List Lg} (h : gs.length = xs.length) : (lgs gs xs).length = xs.length := by simp [lgs, h]
theorem lgs_set {gs : List Nat} {xs : List Lg} {k g : Nat} (x : Lg) (h : gs[k]? = some g) : (lgs gs xs).set k (SP.log 85 g x) = lgs gs (xs.set k x) := by
  apply List.ext_getElem?
  intro i
  simp only [lgs, List.getElem?_set, List.getElem?_zipWith, List.length_zipWith]
  by_cases hi : k = i
  · subst hi
    have hk := (List.getElem?_eq_some_iff.1 h).1
    by_cases h2 : k < xs.length
    · simp [h2, h]; omega
    · simp [h2, h]; omega
  · simp [hi]

section
variable {S : Nat → Prop} {w0 w : World} {R : List SP} {gs : List Nat} {xs : List Lg}
theorem Own.lgs_one {k g : Nat} {x : Lg} (h : Own S w0 w (SP.stars (lgs gs xs) :: R)) (hl : gs.length = xs.length) (hg : gs[k]? = some g) (hx : xs[k]? = some x) :
    Own S w0 w (SP.log 85 g x :: SP.stars ((lgs gs xs).eraseIdx k) :: R) ∧ ∀ w' x', Own S w0 w' (SP.log 85 g x' :: SP.stars ((lgs gs xs).eraseIdx k) :: R) → Own S w0 w' (SP.stars (lgs gs (xs.set k x')) :: R) := by
  refine ⟨h.focus k (lgs_get hg hx), fun w' x' h' => ?_⟩
  have := h'.unfocus (by rw [lgs_length hl]; exact (List.getElem?_eq_some_iff.1 hx).1)
  rw [lgs_set _ hg] at this
  exact this
theorem set_self {α : Type} {l : List α} {k : Nat} {a : α} (h : l[k]? = some a) : l.set k a = l := by
  apply List.ext_getElem?
  intro i
  rw [List.getElem?_set]
  by_cases hi : k = i
  · subst hi; rw [if_pos rfl, if_pos (List.getElem?_eq_some_iff.1 h).1, h]
  · rw [if_neg hi]
theorem Own.lgs_two {f t gf gt : Nat} {x y : Lg} (h : Own S w0 w (SP.stars (lgs gs xs) :: R)) (hl : gs.length = xs.length) (hne : f ≠ t) (hgf : gs[f]? = some gf) (hgt : gs[t]? = some gt) (hx : xs[f]? = some x) (hy : xs[t]? = some y) :
    ∃ L', Own S w0 w (SP.log 85 gf x :: SP.log 85 gt y :: L' :: R) ∧ ∀ w' y', Own S w0 w' (SP.log 85 gf x :: SP.log 85 gt y' :: L' :: R) → Own S w0 w' (SP.stars (lgs gs (xs.set t y')) :: R) := by
  obtain ⟨h1, back⟩ := h.lgs_one hl hgt hy
  have hfl := (List.getElem?_eq_some_iff.1 hx).1
  obtain ⟨f', hf'⟩ : ∃ f', ((lgs gs xs).eraseIdx t)[f']? = some (SP.log 85 gf x) := by
    rw [show SP.log 85 gf x = SP.log 85 gf x from rfl]
    by_cases hft : f < t
    · exact ⟨f, by rw [List.getElem?_eraseIdx, if_pos hft]; exact lgs_get hgf hx⟩
    · refine ⟨f - 1, ?_⟩
      rw [List.getElem?_eraseIdx, if_neg (by omega), show f - 1 + 1 = f by omega]
      exact lgs_get hgf hx
  have h2 := h1.swap.focus f' hf'
  refine ⟨SP.stars (((lgs gs xs).eraseIdx t).eraseIdx f'), h2.perm (List.Perm.cons _ (List.Perm.swap _ _ _)), fun w' y' h' => ?_⟩
  have h3 := (h'.perm (List.Perm.cons _ (List.Perm.swap _ _ _))).unfocus (List.getElem?_eq_some_iff.1 hf').1
  rw [set_self hf'] at h3
  exact back _ _ h3.swap
end
def bdat (a b c : Int) : List UInt8 := [UInt8.ofNat (IntKind.u8.wrap a).toNat, UInt8.ofNat (IntKind.u8.wrap b).toNat, UInt8.ofNat (IntKind.u8.wrap c).toNat]
theorem bdat_cells (a b c : Int) : (bts (bdat a b c)).toArray = #[.int .u8 (IntKind.u8.wrap a), .int .u8 (IntKind.u8.wrap b), .int .u8 (IntKind.u8.wrap c)] := by
  have h : ∀ x, 0 ≤ IntKind.u8.wrap x ∧ IntKind.u8.wrap x ≤ 255 := fun x => by rw [IntKind.wrap_u8']; omega
  simp [bts, bdat, byteV_of (h a), byteV_of (h b), byteV_of (h c)]
theorem replicate_snoc (n : Nat) (x : Lg) : List.replicate n x ++ [x] = List.replicate (n + 1) x := by rw [List.replicate_succ']
theorem lgs_append {gs : List Nat} {xs : List Lg} (h : gs.length = xs.length) (g : Nat) (x : Lg) : lgs (gs ++ [g]) (xs ++ [x]) = lgs gs xs ++ [SP.log 85 g x] := by
  rw [lgs, List.zipWith_append h]; rfl

set_option maxRecDepth 100000 in
set_option maxHeartbeats 16000000 in
theorem match_calls (w : World) (A : Option Addr) (c : Nat) (l : List Deed5) (hd : Deeds w A l) :
    Calls Try.prog 6 #[.slice A l.length c] w fun e w' => e = .returned (.bool true) ∧ Below w.heap.size w w' := by
  have HF := Lib.hid (first_own (Own.start w))
  have HD := Lib.hid hd
  clear hd
  by_cases hbig : 300 < l.length
  · have hb' : (300 : Int) < (l.length : Int) := by omega
    go_enter Try.func6, Try.ntmps6
    go_wp2_with fail
    refine (HF.out).mono ?_
    rintro e w1 ⟨rfl, o1⟩
    have O1 := Lib.hid o1
    clear o1 HF
    go_wp2
    go_ret
    exact ⟨rfl, O1.out.below⟩
  · have hb' : ¬ (300 : Int) < (l.length : Int) := by omega
    have hl300 : l.length ≤ 300 := by omega
    go_enter Try.func6, Try.ntmps6
    go_wp2_with fail
    refine (HF.out).mono ?_
    rintro e w1 ⟨rfl, o1⟩
    have O1 := Lib.hid (((o1.add (B := SP.stars (lgs [] [])) trivial).add (B := SP.row 27 1 (.slice none 0 0) (ptrs [])) (SP.row_nil _ _ _ _)))
    clear o1 HF hbig
    go_wp2
    go_loopw [4, 5] (fun tl ti wr => ∃ (i : Nat) (gs : List Nat) (B : Option Addr) (cb : Nat), i ≤ 5 ∧ gs.length = i ∧ tl = .slice B i cb ∧ ti = .int .i64 i ∧ Own (fun _ => False) w wr [SP.row 27 1 (.slice B i cb) (ptrs gs), SP.stars (lgs gs (List.replicate i (bLog [])))]) (fun _ ti _ => 5 - (intOf ti).toNat)
    case atStart => exact ⟨0, [], none, 0, by omega, rfl, rfl, rfl, O1.out⟩
    case round =>
      obtain ⟨i, gs, B, cb, hi, hgs, rfl, rfl, hown⟩ := hrel
      clear O1
      by_cases hin : i < 5
      · have i1 : (i : Int) < 5 := by omega
        have hN := new_own (A := none) (c := 0) (es := []) (by decide) (by simp) hown EReads.nil 0 0 0
        rw [bLog_new] at hN
        have HN := Lib.hid hN
        have HG := Lib.hid hgs
        clear hown hN hgs
        go_wp2_with fail
        refine (HN.out).mono ?_
        rintro e w2 ⟨g, rfl, o2⟩
        have O2 := Lib.hid (o2.pick (L := [_, _, _]) [1, 2, 0])
        clear o2 HN
        go_wp2_with (at_builtin; refine wpList_append_own rfl (.tmp 40) (.tmp 42) 51 rfl 27 (.pointer none) 1 8 Try.underlying51 Try.info27 rfl (by decide) rfl (by rw [ptrs_length, HG.out, Nat.mul_one]) O2.out ((Below.refl _ _).alloc (Nat.le_refl _) _) _ 1 1 _ rfl ?_ (rd_list _ _ _) ?_ (by unfold maxLen; omega) (by omega) ?_)
        · simp [Value.oneCell']
        rintro B3 c3 w3 o3
        have O3 := Lib.hid o3
        clear o3 O2
        go_wp2
        go_roundw
        case rel =>
          refine ⟨i + 1, gs ++ [g], B3, c3, by omega, by rw [List.length_append, HG.out]; rfl, rfl, by go_num, ?_⟩
          have h1 := (O3.out.pick (L := [_, _, _]) [1, 2, 0]).snoc
          rw [← replicate_snoc, lgs_append (by rw [HG.out, List.length_replicate])]
          have h2 := h1.swap
          rw [show ptrs (gs ++ [g]) = ptrs gs ++ [ptr g] by simp [ptrs]]
          exact h2
        case measure => simp [intOf]; omega
      · have i1 : ¬ (i : Int) < 5 := by omega
        obtain rfl : i = 5 := by omega
        obtain ⟨g0, hg0⟩ : ∃ g, gs[0]? = some g := ⟨_, List.getElem?_eq_getElem (by omega)⟩
        obtain ⟨bb, ob, rfl, -, -⟩ := hown.cell (ptrs_get hg0)
        have HG := Lib.hid hgs
        have HO := Lib.hid hown
        clear hown hgs hg0
        have hinv := Lib.hid MInv.start
        have HPC := Lib.hid (fun (W : World) (R' : List SP) (o : Own (fun _ => False) w W (SP.row 27 1 (.slice (some ⟨bb, ob, none⟩) 5 cb) (ptrs gs) :: R')) (k : Nat) (hk : k < 5) => show ∃ g, gs[k]? = some g ∧ W.cell? ⟨bb, ob + k, none⟩ = some (.pointer (some ⟨g, 0, none⟩)) from by
          obtain ⟨g, hg⟩ : ∃ g, gs[k]? = some g := ⟨_, List.getElem?_eq_getElem (by rw [HG.out]; exact hk)⟩
          obtain ⟨_, _, z, h1, -⟩ := o.cell (ptrs_get hg)
          cases z
          exact ⟨g, hg, h1⟩)
        go_wp2
        go_loopw [8, 9, 10, 11] (fun t8 t9 t10 t11 wr => ∃ (i T ld : Nat) (gv : Bool) (xs : List Lg), i ≤ l.length ∧ T ≤ i ∧ ld < 5 ∧ t8 = .int .i64 T ∧ t9 = .int .i64 ld ∧ t10 = .bool gv ∧ t11 = .int .i64 i ∧ Hid (MInv xs T ld gv ∧ xs.length = 5) ∧ Own (fun _ => False) w wr [SP.row 27 1 (.slice (some ⟨bb, ob, none⟩) 5 cb) (ptrs gs), SP.stars (lgs gs xs)]) (fun _ _ _ t11 _ => l.length - (intOf t11).toNat)
        case atStart => exact ⟨0, 0, 0, true, List.replicate 5 (bLog []), by omega, by omega, by omega, rfl, rfl, rfl, rfl, ⟨hinv.out, by simp⟩, HO.out⟩
        case round =>
          obtain ⟨i, T, ld, gv, xs, hi, hT, hld, rfl, rfl, rfl, rfl, hI, hown⟩ := hrel
          clear HO hinv
          by_cases hin : i < l.length
          · have i2 : (i : Int) < (l.length : Int) := by omega
            obtain ⟨d, hd⟩ : ∃ d, l[i]? = some d := ⟨_, List.getElem?_eq_getElem hin⟩
            obtain ⟨b, off, rfl, hb, k0, k1, k2, k3, k4, w0, w1, w2, w3, w4⟩ := HD.out i d hd
            obtain ⟨kd, dof, dto, dn, dm⟩ := d
            simp only at k0 k1 k2 k3 k4 w0 w1 w2 w3 w4
            have hbw : Below w.heap.size w wr := hown.below
            have c0 := (hbw.cell hb).trans k0
            have c1 := (hbw.cell hb).trans k1
            have c2 := (hbw.cell hb).trans k2
            have c3 := (hbw.cell hb).trans k3
            have c4 := (hbw.cell hb).trans k4
            obtain ⟨a5, f, ha5, ha51, ha52, hf5, hf⟩ := mod_five dof 5 (by omega) (by omega)
            obtain ⟨b5, t, hb5, hb51, hb52, ht5, ht⟩ := mod_five dto 5 (by omega) (by omega)
            have HN := Lib.hid (hown.alloc #[.int .i64 kd, .int .i64 dof, .int .i64 dto, .int .i64 dn, .int .i64 dm] 53)
            have HW := Lib.hid (And.intro w3 w4)
            clear hown hbw k0 k1 k2 k3 k4 hd w0 w1 w2 w3 w4
            go_upto_region 19 with (fail)
            obtain ⟨wo, hwo⟩ : ∃ wo, wr.alloc (.cells #[.int .i64 kd, .int .i64 dof, .int .i64 dto, .int .i64 dn, .int .i64 dm] 53) = wo := ⟨_, rfl⟩
            obtain ⟨qd, hqd⟩ : ∃ qb, wr.heap.size = qb := ⟨_, rfl⟩
            rw [hwo, hqd] at HN
            simp only [hwo, hqd]
            clear hwo hqd c0 c1 c2 c3 c4
            have d0 := HN.out.blk_cell 0
            have d1 := HN.out.blk_cell 1
            have d2 := HN.out.blk_cell 2
            have d3 := HN.out.blk_cell 3
            have d4 := HN.out.blk_cell 4
            simp only [List.getElem?_toArray, List.getElem?_cons_zero, List.getElem?_cons_succ] at d0 d1 d2 d3 d4
            go_upto_region 21 with (fail)
            clear ha5 hb5 hf ht d1 d2
            have HO := Lib.hid (HN.out.pick (L := [_, _, _]) [1, 2, 0])
            clear HN
            by_cases hk0 : kd = 0
            · have hk' : (kd == 0) = true := by simp [hk0]
              clear hk0
              by_cases hskip : T = 0 ∨ gv = true
              · have O5 := Lib.hid (HO.out.pick (L := [_, _, _]) [0, 1])
                clear HO
                by_cases hT0 : T = 0
                · have hT' : ((T : Int) == 0) = true := by simp [hT0]
                  clear hskip hT0
                  go_wp2
                  go_roundw
                  case rel => exact ⟨i + 1, T, ld, gv, xs, by omega, by omega, hld, rfl, rfl, rfl, by go_num, hI, O5.out⟩
                  case measure => simp [intOf]; omega
                · obtain rfl : gv = true := by rcases hskip with h | h; exact absurd h hT0; exact h
                  have hT' : ((T : Int) == 0) = false := by rw [beq_eq_false_iff_ne]; omega
                  clear hskip hT0
                  go_wp2
                  go_roundw
                  case rel => exact ⟨i + 1, T, ld, true, xs, by omega, by omega, hld, rfl, rfl, rfl, by go_num, hI, O5.out⟩
                  case measure => simp [intOf]; omega
              · obtain rfl : gv = false := by
                  cases gv with
                  | true => exact absurd (.inr rfl) hskip
                  | false => rfl
                have hT' : ((T : Int) == 0) = false := by rw [beq_eq_false_iff_ne]; omega
                clear hskip
                obtain ⟨e3, n3, he3, he31, he32, hn3, hn31⟩ := mod_five dn 3 (by omega) (by omega)
                obtain ⟨z1, hz1⟩ : ∃ z, IntKind.u8.wrap (T : Int) = z := ⟨_, rfl⟩
                obtain ⟨z2, hz2⟩ : ∃ z, IntKind.u8.wrap (i : Int) = z := ⟨_, rfl⟩
                go_wp2
                go_loopw [15] (fun tk wr => ∃ (k : Nat) (ys : List Lg), k ≤ n3 + 1 ∧ tk = .int .i64 k ∧ Hid (MInv ys T ld false ∧ ys.length = 5) ∧ Own (fun _ => False) w wr [SP.row 27 1 (.slice (some ⟨bb, ob, none⟩) 5 cb) (ptrs gs), SP.stars (lgs gs ys), SP.blk qd 53 #[.int .i64 kd, .int .i64 dof, .int .i64 dto, .int .i64 dn, .int .i64 dm]]) (fun tk _ => n3 + 1 - (intOf tk).toNat)
                case atStart => exact ⟨0, xs, by omega, rfl, hI, HO.out⟩
                case round =>
                  obtain ⟨k, ys, hk, rfl, hY, hown⟩ := hrel
                  clear HO d0 d3 d4
                  have d3 := (hown.pick (L := [_, _, _]) [2]).blk_cell 3
                  simp only [List.getElem?_toArray, List.getElem?_cons_zero, List.getElem?_cons_succ] at d3
                  by_cases hkn : k < n3 + 1
                  · have i3 : (k : Int) < (n3 : Int) + 1 := by omega
                    obtain ⟨z3, hz3⟩ : ∃ z, IntKind.u8.wrap (k : Int) = z := ⟨_, rfl⟩
                    obtain ⟨g, hg, p0⟩ := HPC.out _ _ hown ld hld
                    obtain ⟨x, hx⟩ : ∃ x, ys[ld]? = some x := ⟨_, List.getElem?_eq_getElem (by rw [hY.out.2]; exact hld)⟩
                    obtain ⟨h1, back⟩ := hown.swap.lgs_one (by rw [HG.out, hY.out.2]) hg hx
                    have o2 := h1.alloc (bts (bdat T i k)).toArray 5
                    have hA := append_own (cb := 3) (d := bdat T i k) (hY.out.1.good ld x hx).ok (o2.pick (L := [_, _]) [1, 0]) reads_blk (by simp [bdat]) (by unfold maxLen; omega) (by simp [bdat]) (T : Int) 1
                    rw [bdat_cells, hz1, hz2, hz3, show (bdat T i k).length = 3 from rfl] at hA
                    have HA := Lib.hid hA
                    have HY2 := Lib.hid (show MInv (ys.set ld (x.append T 1 (bdat T i k)).2) T ld false ∧ (ys.set ld (x.append T 1 (bdat T i k)).2).length = 5 from ⟨hY.out.1.append hx 1 _, by rw [List.length_set]; exact hY.out.2⟩)
                    have BACK := Lib.hid back
                    clear hown h1 back o2 hA hg hx
                    go_wp2_with fail
                    refine (HA.out).mono ?_
                    rintro e w5 ⟨rfl, o5⟩
                    have O5 := Lib.hid ((BACK.out _ _ (o5.pick (L := [_, _, _, _, _]) [0, 2, 3, 4])).swap)
                    clear o5 HA BACK
                    go_wp2
                    go_roundw
                    case rel => exact ⟨k + 1, _, by omega, by go_num, HY2.out, O5.out⟩
                    case measure => simp [intOf]; omega
                  · have i3 : ¬ (k : Int) < (n3 : Int) + 1 := by omega
                    have O5 := Lib.hid (hown.pick (L := [_, _, _]) [0, 1])
                    clear hown
                    go_wp2
                    go_roundw
                    case rel => exact ⟨i + 1, T, ld, false, ys, by omega, by omega, hld, rfl, rfl, rfl, by go_num, hY, O5.out⟩
                    case measure => simp [intOf]; omega
            · have hk' : (kd == 0) = false := by rw [beq_eq_false_iff_ne]; exact hk0
              clear hk0
              by_cases hk1 : kd = 1
              · have hk1' : (kd == 1) = true := by simp [hk1]
                clear hk1
                by_cases htf : t = f
                · have htf' : ((t : Int) == (f : Int)) = true := by simp [htf]
                  have O5 := Lib.hid (HO.out.pick (L := [_, _, _]) [0, 1])
                  clear HO htf
                  go_wp2
                  go_roundw
                  case rel => exact ⟨i + 1, T, ld, gv, xs, by omega, by omega, hld, rfl, rfl, rfl, by go_num, hI, O5.out⟩
                  case measure => simp [intOf]; omega
                · have htf' : ((t : Int) == (f : Int)) = false := by rw [beq_eq_false_iff_ne]; omega
                  obtain ⟨gf, hgf, p0⟩ := HPC.out _ _ HO.out f (by omega)
                  obtain ⟨gt, hgt, p1⟩ := HPC.out _ _ HO.out t (by omega)
                  obtain ⟨x, hx⟩ : ∃ x, xs[f]? = some x := ⟨_, List.getElem?_eq_getElem (by rw [hI.out.2]; omega)⟩
                  obtain ⟨y, hy⟩ : ∃ x, xs[t]? = some x := ⟨_, List.getElem?_eq_getElem (by rw [hI.out.2]; omega)⟩
                  obtain ⟨L', h1, back⟩ := HO.out.drew.swap.lgs_two (by rw [HG.out, hI.out.2]) (fun h => htf h.symm) hgf hgt hx hy
                  have HGv := Lib.hid (gives_own (hI.out.1.good f x hx) (hI.out.1.good t y hy) h1 dn dm HW.out.1 HW.out.2)
                  have HPF := Lib.hid (And.intro hgf hgt)
                  have HXY := Lib.hid (And.intro hx hy)
                  have BACK := Lib.hid back
                  obtain ⟨tb, htb⟩ : ∃ tb : Bool, ((t : Int) == (ld : Int)) = tb := ⟨_, rfl⟩
                  have HTB := Lib.hid (show tb = decide (t = ld) by rw [← htb]; by_cases h : t = ld <;> simp [h]; omega)
                  clear HO h1 back hgf hgt hx hy htf
                  go_upto_region 34 with (fail)
                  go_region_held3 (fun W => W.cell? ⟨bb, ob + f, none⟩ = some (.pointer (some ⟨gf, 0, none⟩)) ∧ W.cell? ⟨bb, ob + t, none⟩ = some (.pointer (some ⟨gt, 0, none⟩)) ∧ W.cell? ⟨qd, 3, none⟩ = some (.int .i64 dn) ∧ W.cell? ⟨qd, 4, none⟩ = some (.int .i64 dm))
                    (first | go_keep | exact ⟨p0, p1, d3, d4⟩ | exact K5.out)
                    (first
                      | (refine step_call rfl 26 _ _ rfl Try.func26 (by kernel_rfl) (by kernel_rfl) #[.pointer (some ⟨gf, 0, none⟩), .pointer (some ⟨gt, 0, none⟩), .int .i64 dn, .int .i64 dm] (by rfl) ?_
                         refine (HGv.out).mono ?_
                         rintro e w5 ⟨v, p, q, rfl, hp, o5⟩
                         refine ⟨_, rfl, ?_⟩
                         have K5 := Lib.hid (show w5.cell? ⟨bb, ob + f, none⟩ = some (.pointer (some ⟨gf, 0, none⟩)) ∧ w5.cell? ⟨bb, ob + t, none⟩ = some (.pointer (some ⟨gt, 0, none⟩)) ∧ w5.cell? ⟨qd, 3, none⟩ = some (.int .i64 dn) ∧ w5.cell? ⟨qd, 4, none⟩ = some (.int .i64 dm) from by
                           have hr := o5.pick (L := [_, _, _, _, _]) [3]
                           have hb := o5.pick (L := [_, _, _, _, _]) [4]
                           obtain ⟨_, _, z, h1, -⟩ := hr.cell (ptrs_get HPF.out.1)
                           cases z
                           obtain ⟨_, _, z, h2, -⟩ := hr.cell (ptrs_get HPF.out.2)
                           cases z
                           exact ⟨h1, h2, hb.blk_cell 3, hb.blk_cell 4⟩)
                         have O5 := Lib.hid ((BACK.out _ _ o5).pick (L := [_, _, _]) [1, 0])
                         have HP := Lib.hid hp
                         clear o5 hp))
                  clear p0 p1 d0 d3 d4 K5
                  have HI2 := Lib.hid (show MInv (xs.set t (y.try_ p (x.at p).1 0 (gave x p q)).2) T ld (gv || tb) ∧ (xs.set t (y.try_ p (x.at p).1 0 (gave x p q)).2).length = 5 from ⟨by rw [HTB.out]; exact hI.out.1.gives HXY.out.1 HXY.out.2 p q HP.out, by rw [List.length_set]; exact hI.out.2⟩)
                  cases gv with
                  | true =>
                    go_wp2
                    go_roundw
                    case rel => exact ⟨i + 1, T, ld, true, _, by omega, by omega, hld, rfl, rfl, rfl, by go_num, HI2.out, O5.out⟩
                    case measure => simp [intOf]; omega
                  | false =>
                    go_wp2
                    go_roundw
                    case rel => exact ⟨i + 1, T, ld, tb, _, by omega, by omega, hld, rfl, rfl, rfl, by go_num, HI2.out, O5.out⟩
                    case measure => simp [intOf]; omega
              · have hk1' : (kd == 1) = false := by rw [beq_eq_false_iff_ne]; exact hk1
                clear hk1
                have O5 := HO.out.pick (L := [_, _, _]) [0, 1]
                obtain ⟨g, hg, p0⟩ := HPC.out _ _ O5 f (by omega)
                obtain ⟨x, hx⟩ : ∃ x, xs[f]? = some x := ⟨_, List.getElem?_eq_getElem (by rw [hI.out.2]; omega)⟩
                obtain ⟨h1, back⟩ := O5.swap.lgs_one (by rw [HG.out, hI.out.2]) hg hx
                have hok := (hI.out.1.good f x hx).ok
                have HLa := Lib.hid (last_own (by have := hok.len; omega) h1 (fun j e h => (hok.idx j e h).1))
                have BACK := Lib.hid back
                have HXX := Lib.hid hx
                clear O5 HO h1 back hg hok hx
                go_wp2_with fail
                refine (HLa.out).mono ?_
                rintro e w5 ⟨rfl, o5⟩
                have O6 := Lib.hid ((BACK.out _ _ o5).swap)
                clear o5 HLa BACK
                go_wp2
                go_roundw
                case rel => 
                  refine ⟨i + 1, T + 1, f, _, xs, by omega, by omega, by omega, by go_num, rfl, rfl, by go_num, ⟨hI.out.1.next f _, hI.out.2⟩, ?_⟩
                  have := O6.out
                  rw [set_self HXX.out] at this
                  exact this
                case measure => simp [intOf]; omega
          · have i2 : ¬ (i : Int) < (l.length : Int) := by omega
            have HO := Lib.hid hown
            clear hown
            go_wp2
            go_loopw [18] (fun ta wr => ∃ a : Nat, a ≤ 5 ∧ ta = .int .i64 a ∧ Own (fun _ => False) w wr [SP.row 27 1 (.slice (some ⟨bb, ob, none⟩) 5 cb) (ptrs gs), SP.stars (lgs gs xs)]) (fun ta _ => 5 - (intOf ta).toNat)
            case atStart => exact ⟨0, by omega, rfl, HO.out⟩
            case round =>
              obtain ⟨a, ha, rfl, hown⟩ := hrel
              clear HO
              have HO := Lib.hid hown
              clear hown
              by_cases ha5 : a < 5
              · have i3 : (a : Int) < 5 := by omega
                go_wp2
                go_loopw [19] (fun tb wr => ∃ b : Nat, b ≤ a ∧ tb = .int .i64 b ∧ Own (fun _ => False) w wr [SP.row 27 1 (.slice (some ⟨bb, ob, none⟩) 5 cb) (ptrs gs), SP.stars (lgs gs xs)]) (fun tb _ => a - (intOf tb).toNat)
                case atStart => exact ⟨0, by omega, rfl, HO.out⟩
                case round =>
                  obtain ⟨b, hb, rfl, hown⟩ := hrel
                  clear HO
                  have HO := Lib.hid hown
                  clear hown
                  by_cases hba : b < a
                  · have i4 : (b : Int) < (a : Int) := by omega
                    have i5 : (b : Int) < 5 := by omega
                    obtain ⟨gf, hgf, p0⟩ := HPC.out _ _ HO.out a (by omega)
                    obtain ⟨gt, hgt, p1⟩ := HPC.out _ _ HO.out b (by omega)
                    obtain ⟨x, hx⟩ : ∃ x, xs[a]? = some x := ⟨_, List.getElem?_eq_getElem (by rw [hI.out.2]; omega)⟩
                    obtain ⟨y, hy⟩ : ∃ x, xs[b]? = some x := ⟨_, List.getElem?_eq_getElem (by rw [hI.out.2]; omega)⟩
                    obtain ⟨L', h1, back⟩ := HO.out.drew.swap.lgs_two (by rw [HG.out, hI.out.2]) (by omega) hgf hgt hx hy
                    have HGv := Lib.hid (matching_own (hI.out.1.good a x hx) (hI.out.1.good b y hy) (hI.out.1.agree a b x y hx hy) h1)
                    have HPF := Lib.hid (And.intro hgf hgt)
                    have BACK := Lib.hid back
                    have HYB := Lib.hid hy
                    clear HO h1 back hgf hgt hx hy
                    go_upto_region 42 with (fail)
                    go_region_held3 (fun W => W.cell? ⟨bb, ob + a, none⟩ = some (.pointer (some ⟨gf, 0, none⟩)) ∧ W.cell? ⟨bb, ob + b, none⟩ = some (.pointer (some ⟨gt, 0, none⟩)))
                      (first | go_keep | exact ⟨p0, p1⟩ | exact K5.out)
                      (first
                        | (refine step_call rfl 27 _ _ rfl Try.func27 (by kernel_rfl) (by kernel_rfl) #[.pointer (some ⟨gf, 0, none⟩), .pointer (some ⟨gt, 0, none⟩)] (by rfl) ?_
                           refine (HGv.out).mono ?_
                           rintro e w5 ⟨rfl, o5⟩
                           refine ⟨_, rfl, ?_⟩
                           have K5 := Lib.hid (show w5.cell? ⟨bb, ob + a, none⟩ = some (.pointer (some ⟨gf, 0, none⟩)) ∧ w5.cell? ⟨bb, ob + b, none⟩ = some (.pointer (some ⟨gt, 0, none⟩)) from by
                             have hr := o5.pick (L := [_, _, _, _]) [3]
                             obtain ⟨_, _, z, h1, -⟩ := hr.cell (ptrs_get HPF.out.1)
                             cases z
                             obtain ⟨_, _, z, h2, -⟩ := hr.cell (ptrs_get HPF.out.2)
                             cases z
                             exact ⟨h1, h2⟩)
                           have O5 := Lib.hid ((BACK.out _ _ o5).pick (L := [_, _]) [1, 0])
                           clear o5))
                    clear p0 p1 K5
                    go_wp2
                    go_roundw
                    case rel =>
                      refine ⟨b + 1, by omega, by go_num, ?_⟩
                      have := O5.out
                      rw [set_self HYB.out] at this
                      exact this
                    case measure => simp [intOf]; omega
                  · have i4 : ¬ (b : Int) < (a : Int) := by omega
                    go_wp2
                    go_roundw
                    case rel => exact ⟨a + 1, by omega, by go_num, HO.out⟩
                    case measure => simp [intOf]; omega
              · have i3 : ¬ (a : Int) < 5 := by omega
                go_wp2
                go_ret
                exact ⟨rfl, HO.out.below⟩
end Go.Proofs.Ytepnkhiclgjmpaa
