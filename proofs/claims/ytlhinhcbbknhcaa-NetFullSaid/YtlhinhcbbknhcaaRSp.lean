/-
  The document's network: Spoil.
  Conditions: none beyond each theorem's own.
-/
import Derived.Test.YtlhinhcbbknhcaaRCp
import Derived.Test.YtlhinhcbbknhcaaSpoil
import Derived.Test.YtlhinhcbbknhcaaAppOwn
import Derived.Test.YtlhinhcbbknhcaaRegionNeed
namespace Go.Proofs.Ytlhinhcbbknhcaa
set_option linter.unusedVariables false
set_option linter.unusedSimpArgs false
open Go.RowKit

theorem mrow_set2_aux : ∀ (L : List M) (ds : List Value) (i : Nat) (m m' : M) (d d' : Value), L[i]? = some m → ds[i]? = some d → m'.num = m.num → m'.frm = m.frm → m'.to = m.to →
    mrow (L.set i m') (ds.set i d') = ((mrow L ds).set (i * 5 + 3) d').set (i * 5 + 4) (.bool m'.sp)
  | [], _, _, _, _, _, _, hm, _, _, _, _ => by simp at hm
  | _ :: _, [], _, _, _, _, _, _, hd, _, _, _ => by simp at hd
  | l :: L, e :: ds, 0, m, m', d, d', hm, hd, h1, h2, h3 => by
    rw [List.getElem?_cons_zero] at hm
    injection hm with hm
    subst hm
    rw [List.set_cons_zero, List.set_cons_zero, mrow_cons, mrow_cons]
    simp [mcells, h1, h2, h3]
  | l :: L, e :: ds, i + 1, m, m', d, d', hm, hd, h1, h2, h3 => by
    rw [List.getElem?_cons_succ] at hm hd
    rw [List.set_cons_succ, List.set_cons_succ, mrow_cons, mrow_cons, mrow_set2_aux L ds i m m' d d' hm hd h1 h2 h3, List.set_append_right _ _ (by simp [mcells]; omega), List.set_append_right _ _ (by simp [mcells]; omega)]
    rw [show (mcells l e).length = 5 from rfl, show (i + 1) * 5 + 3 - 5 = i * 5 + 3 by omega, show (i + 1) * 5 + 4 - 5 = i * 5 + 4 by omega]
theorem mdata_set2 : ∀ (L : List M) (ds : List Value) (i : Nat) (m' : M) (d' : Value), mdata (L.set i m') (ds.set i d') = (mdata L ds).set i (SP.row 5 1 d' (bts m'.dat))
  | [], _, _, _, _ => by simp [mdata]
  | _ :: _, [], _, _, _ => by simp [mdata]
  | l :: L, e :: ds, 0, m', d' => by simp [mdata]
  | l :: L, e :: ds, i + 1, m', d' => by
    have := mdata_set2 L ds i m' d'
    simp only [mdata] at this
    simp [mdata, this]
section
variable {S : Nat → Prop} {w0 w : World} {R : List SP} {g : Nat} {nodes many : Int} {L : List M} {C : List (Int × Int)}

set_option maxHeartbeats 1600000 in
theorem rspoil_no (hL : L.length ≤ 1000000) (h : Own S w0 w (SP.rnet g nodes many L C :: R)) (i bit : Int) (hbit : -9223372036854775808 ≤ bit ∧ bit ≤ 9223372036854775807)
    (hi : ¬ ∃ m, 0 ≤ i ∧ L[i.toNat]? = some m ∧ m.sp = false ∧ 0 ≤ bit ∧ bit.toNat / 8 < m.dat.length) :
    Calls Try.prog 37 #[.pointer (some ⟨g, 0, none⟩), .int .i64 i, .int .i64 bit] w fun e w' => e = .returned (.bool false) ∧ Own S w0 w' (SP.rnet g nodes many L C :: R) := by
  have HT := Lib.hid (rthere_own h i)
  have H := Lib.hid h
  by_cases h1 : 0 ≤ i ∧ i < (L.length : Int)
  · obtain ⟨k, rfl⟩ := Int.eq_ofNat_of_zero_le h1.1
    obtain ⟨m, hm⟩ : ∃ m, L[k]? = some m := ⟨_, List.getElem?_eq_getElem (by omega)⟩
    rw [show thereB (k : Int) L.length = true from decide_eq_true h1] at HT
    obtain ⟨ga, off, c, B1, kC, Ad, cd, ds, hds, hd, -, -, c65, -, -, -, -, k3, k4, -, -, -⟩ := rnet_mail h hm
    obtain ⟨n, hn⟩ : ∃ n, L.length = n := ⟨_, rfl⟩
    have hq : m.sp = true ∨ (m.sp = false ∧ bit < 0) ∨ (m.sp = false ∧ 0 ≤ bit ∧ m.dat.length ≤ bit.toNat / 8) := by
      cases hs : m.sp with
      | true => exact .inl rfl
      | false =>
        right
        rcases Int.lt_or_le bit 0 with hb | hb
        · exact .inl ⟨rfl, hb⟩
        · refine .inr ⟨rfl, hb, ?_⟩
          rcases Nat.lt_or_ge (bit.toNat / 8) m.dat.length with hx | hx
          · exact absurd ⟨m, by omega, by simpa using hm, hs, hb, hx⟩ hi
          · exact hx
    obtain ⟨h1a, h1b⟩ := h1
    have hkn : k < L.length := by omega
    rw [hn] at c65 h1b hkn hL
    have HN := Lib.hid hn
    clear h hm hds hd hi hn
    rcases hq with hs | ⟨hs, hb⟩ | ⟨hs, hb, hx⟩
    · rw [hs] at k4
      clear hs
      go_enter Try.func37, Try.ntmps37
      go_wp2_with fail
      refine (HT.out).mono ?_
      rintro e w1 ⟨rfl, rfl⟩
      go_wp2
      go_ret
      exact ⟨rfl, H.out⟩
    · rw [hs] at k4
      clear hs
      go_enter Try.func37, Try.ntmps37
      go_wp2_with fail
      refine (HT.out).mono ?_
      rintro e w1 ⟨rfl, rfl⟩
      go_wp2
      go_ret
      exact ⟨rfl, H.out⟩
    · rw [hs] at k4
      obtain ⟨b, rfl⟩ := Int.eq_ofNat_of_zero_le hb
      rw [Int.toNat_natCast] at hx
      have e1 : Int.tdiv (b : Int) 8 = ((b / 8 : Nat) : Int) := IntWalk.up_tdiv rfl rfl
      have e2 : IntKind.i64.wrap ((b / 8 : Nat) : Int) = ((b / 8 : Nat) : Int) := IntWalk.i64_in _ (by omega)
      have e3 : ((m.dat.length : Nat) : Int) ≤ ((b / 8 : Nat) : Int) := by omega
      obtain ⟨dl, hdl⟩ : ∃ dl, m.dat.length = dl := ⟨_, rfl⟩
      obtain ⟨b8, hb8⟩ : ∃ b8, b / 8 = b8 := ⟨_, rfl⟩
      rw [hdl] at e3 k3
      rw [hb8] at e1 e2 e3
      clear hs hx hdl hb8
      go_enter Try.func37, Try.ntmps37
      go_wp2_with fail
      refine (HT.out).mono ?_
      rintro e w1 ⟨rfl, rfl⟩
      go_wp2
      go_ret
      exact ⟨rfl, H.out⟩
  · rw [show thereB i L.length = false from decide_eq_false h1] at HT
    clear h h1 hi
    go_enter Try.func37, Try.ntmps37
    go_wp2_with fail
    refine (HT.out).mono ?_
    rintro e w1 ⟨rfl, rfl⟩
    go_wp2
    go_ret
    exact ⟨rfl, H.out⟩


set_option maxRecDepth 100000 in
set_option maxHeartbeats 6400000 in
theorem rspoil_yes (hL : L.length ≤ 1000000) (h : Own S w0 w (SP.rnet g nodes many L C :: R)) (i b : Nat) (m : M) (hm : L[i]? = some m) (hs : m.sp = false) (hb : b / 8 < m.dat.length) (hdl : m.dat.length ≤ 140737488351232) :
    Calls Try.prog 37 #[.pointer (some ⟨g, 0, none⟩), .int .i64 i, .int .i64 b] w fun e w' => e = .returned (.bool true) ∧ Own S w0 w' (SP.rnet g nodes many (L.set i (spoiled m b)) C :: R) := by
  have hi : i < L.length := (List.getElem?_eq_some_iff.1 hm).1
  have HT := Lib.hid (rthere_own h (i : Int))
  rw [show thereB (i : Int) L.length = true from decide_eq_true (by omega)] at HT
  obtain ⟨ga, off, c, B1, kC, Ad, cd, ds, hds, hd, hc1, hc2, c1, -, k0, k1, k2, k3, k4, hc3, hc4, h2⟩ := rnet_mail h hm
  obtain ⟨u, hu⟩ : ∃ u, m.dat[b / 8]? = some u := ⟨_, List.getElem?_eq_getElem hb⟩
  rw [hs] at k4
  have e1 : Int.tdiv (b : Int) 8 = ((b / 8 : Nat) : Int) := IntWalk.up_tdiv rfl rfl
  have e2 : IntKind.i64.wrap ((b / 8 : Nat) : Int) = ((b / 8 : Nat) : Int) := IntWalk.i64_in _ (by omega)
  have e3 : ((b / 8 : Nat) : Int) < ((m.dat.length : Nat) : Int) := by omega
  have e3' : ¬ ((m.dat.length : Nat) : Int) ≤ ((b / 8 : Nat) : Int) := by omega
  have e4 : Int.tmod (b : Int) 8 = ((b % 8 : Nat) : Int) := by rw [Int.tmod_eq_emod_of_nonneg (by omega)]; omega
  have e5 : IntKind.i64.wrap ((b % 8 : Nat) : Int) = ((b % 8 : Nat) : Int) := IntWalk.i64_in _ (by omega)
  have e6 : IntKind.u8.wrap ((2 ^ (b % 8) : Nat) : Int) = ((2 ^ (b % 8) : Nat) : Int) := by
    have := pow_lt8 (r := b % 8) (by omega)
    rw [IntKind.wrap_u8']
    exact Int.emod_eq_of_lt (Int.natCast_nonneg _) (by exact_mod_cast this)
  have e7 := u8_xor_nat u.toNat (2 ^ (b % 8)) u.toNat_lt (pow_lt8 (by omega))
  rw [← flipB_toNat u (by omega)] at e7
  obtain ⟨fu, hfu⟩ : ∃ fu, flipB u (b % 8) = fu := ⟨_, rfl⟩
  rw [hfu] at e7
  obtain ⟨p2, hp2⟩ : ∃ p2, 2 ^ (b % 8) = p2 := ⟨_, rfl⟩
  have hp256 : p2 < 256 := by rw [← hp2]; exact pow_lt8 (by omega)
  rw [hp2] at e6 e7
  have HF := Lib.hid (And.intro hu hfu)
  obtain ⟨z, hz⟩ : ∃ z, u.toNat = z := ⟨_, rfl⟩
  rw [hz] at e7
  obtain ⟨y, hy⟩ : ∃ y, fu.toNat = y := ⟨_, rfl⟩
  rw [hy] at e7
  have HY := Lib.hid (And.intro hy hz)
  clear hz hy hfu
  obtain ⟨dl, hd1⟩ : ∃ dl, m.dat.length = dl := ⟨_, rfl⟩
  obtain ⟨b8, hb8⟩ : ∃ b8, b / 8 = b8 := ⟨_, rfl⟩
  obtain ⟨r, hr⟩ : ∃ r, b % 8 = r := ⟨_, rfl⟩
  have hr8 : r < 8 := by omega
  obtain ⟨n, hn⟩ : ∃ n, L.length = n := ⟨_, rfl⟩
  have h1b : (i : Int) < (n : Int) := by omega
  have HN := Lib.hid (And.intro hn (And.intro hd1 (And.intro hb8 hr)))
  have HM := Lib.hid (And.intro hds (And.intro hm hd))
  rw [hr] at hp2
  have HP := Lib.hid hp2
  have HBy := Lib.hid (bytes_own (cb := cd) h2 (Reads.more (reads_mdata hm hd) [_, _]) hdl)
  rw [hd1] at e3 e3' k3 hb hdl HBy
  rw [hb8] at e1 e2 e3 e3' hb
  rw [hr] at e4 e5
  rw [hn] at c1 hL hi HBy
  clear h h2 hm hd hds hn hd1 hb8 hr hu hs hp2
  go_enter Try.func37, Try.ntmps37
  go_wp2_with fail
  refine (HT.out).mono ?_
  rintro e w1 ⟨rfl, rfl⟩
  go_wp2_with fail
  refine (HBy.out).mono ?_
  rintro e w2 ⟨A5, c5, rfl, o2⟩
  have O2 := Lib.hid o2
  clear o2 HBy HT k0 k1 k2 k3 k4 c1
  go_wp2
  go_loopw [8, 9] (fun tx tj wr => ∃ (j x : Nat), j ≤ r ∧ x ≤ 128 ∧ tx = .int .i64 x ∧ tj = .int .i64 j ∧ Hid (x = 2 ^ j) ∧ Own S w0 wr (SP.row 5 1 (.slice A5 dl c5) (bts m.dat) :: SP.blk g 49 (rnetA nodes (.slice (some ⟨ga, off, none⟩) n c) many (.slice B1 C.length kC)) :: SP.row 60 5 (.slice (some ⟨ga, off, none⟩) n c) (mrow L ds) :: SP.stars (mdata L ds) :: SP.row 66 2 (.slice B1 C.length kC) (prow C) :: R)) (fun _ tj _ => r - (intOf tj).toNat)
  case atStart => exact ⟨0, 1, Nat.zero_le _, by omega, rfl, rfl, rfl, O2.out⟩
  case round =>
    obtain ⟨j, x, hj, hx, rfl, rfl, hxj, hown⟩ := hrel
    clear O2
    by_cases hjr : j < r
    · have j1 : (j : Int) < (r : Int) := by omega
      have hx2 := Lib.hid (show 2 * x ≤ 128 ∧ 2 * x = 2 ^ (j + 1) by
        have h1 : 2 * x = 2 ^ (j + 1) := by rw [hxj.out, Nat.pow_succ]; omega
        refine ⟨?_, h1⟩
        rw [h1, show (128 : Nat) = 2 ^ 7 from rfl]
        exact Nat.pow_le_pow_right (by omega) (by omega))
      have hw2 : IntKind.i64.wrap (2 * (x : Int)) = 2 * (x : Int) := IntWalk.i64_in _ (by omega)
      have O1 := Lib.hid hown
      clear hown hxj
      go_wp2
      go_roundw
      case rel => exact ⟨j + 1, 2 * x, by omega, hx2.out.1, by go_num, by go_num, hx2.out.2, O1.out⟩
      case measure => simp [intOf]; omega
    · have j1 : ¬ (j : Int) < (r : Int) := by omega
      obtain rfl : j = r := by omega
      obtain rfl : x = p2 := by rw [hxj.out, HP.out]
      have hbl : b8 < (bts m.dat).length := by rw [bts_length, HN.out.2.1]; exact hb
      have HFu : (bts m.dat)[b8]? = some (.int .u8 (z : Int)) := by
        have := bts_get HF.out.1
        rw [HN.out.2.2.1, byteV, HY.out.2] at this
        exact this
      obtain ⟨gd, od, rfl, kb, fb⟩ := hown.cell HFu
      have o5 := (hown.store (j := b8) hbl (.int .u8 (y : Int)))
      obtain ⟨hds, hm, hd⟩ := HM.out
      have c1W := (o5.pick (L := [_, _]) [1]).blk_cell 1
      simp only [rnetA, List.getElem?_toArray, List.getElem?_cons_zero, List.getElem?_cons_succ] at c1W
      obtain ⟨_, _, q1, k3W, f3W⟩ := (o5.pick (L := [_, _, _]) [2]).cell (mrow_get (j := 3) hm hd (by omega))
      cases q1
      rw [← Nat.add_assoc] at k3W f3W
      have o6 := (o5.pick (L := [_, _, _]) [2, 0, 1]).store (j := i * 5 + 3) (by rw [mrow_length hds, HN.out.1]; omega) (.slice (some ⟨gd, od, none⟩) dl c5)
      have c1V := (o6.pick (L := [_, _, _]) [2]).blk_cell 1
      simp only [rnetA, List.getElem?_toArray, List.getElem?_cons_zero, List.getElem?_cons_succ] at c1V
      have hlen5 : (mrow L ds).length = n * 5 := by rw [mrow_length hds, HN.out.1]
      obtain ⟨u4, hu4⟩ : ∃ u4, ((mrow L ds).set (i * 5 + 3) (.slice (some ⟨gd, od, none⟩) dl c5))[i * 5 + 4]? = some u4 := ⟨_, List.getElem?_eq_getElem (by rw [List.length_set, hlen5]; omega)⟩
      obtain ⟨_, _, q1, k4V, f4V⟩ := o6.cell hu4
      cases q1
      have o7 := o6.store (j := i * 5 + 4) (by rw [List.length_set, hlen5]; omega) (.bool true)
      have E3 : off + (i * 5 + 3) = off + i * 5 + 3 := by omega
      have E4 : off + (i * 5 + 4) = off + i * 5 + 4 := by omega
      rw [E3] at c1V
      rw [E3, E4] at o7
      rw [E3] at k4V f4V
      rw [E4] at k4V f4V
      clear E3 E4
      have O7 := Lib.hid (o7.pick (L := [_, _, _, _, _]) [1, 2, 0, 3, 4])
      clear hown o5 o6 hds hm hd hu4 hlen5 hbl HFu
      go_upto_region 10 with (fail)
      obtain ⟨W, hW⟩ : ∃ W, wr.setCell ⟨gd, od + b8, none⟩ (.int .u8 (y : Int)) = W := ⟨_, rfl⟩
      rw [hW] at O7 c1W k3W f3W k4V f4V c1V
      simp only [hW]
      clear hW kb fb
      go_upto_region 11 with (fail)
      obtain ⟨W2, hW2⟩ : ∃ W2, W.setCell ⟨ga, off + i * 5 + 3, none⟩ (.slice (some ⟨gd, od, none⟩) dl c5) = W2 := ⟨_, rfl⟩
      rw [hW2] at O7 k4V f4V c1V
      simp only [hW2]
      clear hW2 c1W k3W f3W
      go_wp2
      go_ret
      refine ⟨rfl, ?_⟩
      obtain ⟨hds, hm, hd⟩ := HM.out
      obtain ⟨hn, hd1, hb8, hr⟩ := HN.out
      have hy : Value.int .u8 (y : Int) = byteV (flipB u j) := by rw [← hr, HF.out.2, byteV, HY.out.1]
      have hset : (bts m.dat).set b8 (.int .u8 (y : Int)) = bts (spoiled m b).dat := by
        rw [hy, bts_set, spoiled, flipAt, hb8, hr, List.getD_eq_getElem?_getD, ← hb8, HF.out.1]
        rfl
      have o8 := O7.out
      rw [hset] at o8
      have o9 := (o8.pick (L := [_, _, _, _, _]) [3, 0, 1, 2, 4]).focus i (mdata_get hm hd)
      have o10 := (o9.pick (L := [_, _, _, _, _, _]) [2, 1, 3, 4, 5]).unfocus (L := mdata L ds) (i := i) (by rw [mdata_length hds, hn]; omega)
      have hM := mrow_set2_aux L ds i m (spoiled m b) (.slice Ad m.dat.length cd) (.slice (some ⟨gd, od, none⟩) dl c5) hm hd rfl rfl rfl
      have hD := mdata_set2 L ds i (spoiled m b) (.slice (some ⟨gd, od, none⟩) dl c5)
      rw [← hD, show Value.bool true = .bool (spoiled m b).sp from rfl, ← hM] at o10
      refine Own.rnet_shut (v := .slice (some ⟨ga, off, none⟩) n c) (u := .slice B1 C.length kC) ?_
      have o11 := o10.pick (L := [_, _, _, _]) [2, 0, 1, 3]
      exact Own.swap (Own.mails_shut (by rw [List.length_set, List.length_set, hds]) o11)
end
end Go.Proofs.Ytlhinhcbbknhcaa
