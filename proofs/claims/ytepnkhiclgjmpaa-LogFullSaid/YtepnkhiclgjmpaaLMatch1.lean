/-
  gives: a log is given what another one has; matching: have two logs the same entries up to where they have an index with one term.
  Conditions: both logs are in order.
-/
import Derived.Test.YtepnkhiclgjmpaaMatchPure
import Derived.Test.YtepnkhiclgjmpaaRegionTwo
namespace Go.Proofs.Ytepnkhiclgjmpaa
set_option linter.unusedVariables false
set_option linter.unusedSimpArgs false
open Go.RowKit

theorem mod_any (x : Int) {l : Nat} (hl : l ≤ 10000) : ∃ (a : Int) (j : Nat), Int.tmod x ((l : Int) + 1) = a ∧ -10001 < a ∧ a < 10001 ∧ j ≤ l ∧ Int.tmod (a + (l : Int) + 1) ((l : Int) + 1) = (j : Int) := by
  have h3 : Int.tmod x ((l : Int) + 1) < ((l : Int) + 1) := Int.tmod_lt_of_pos x (by omega)
  have h4 : -((l : Int) + 1) < Int.tmod x ((l : Int) + 1) := Int.lt_tmod_of_pos x (by omega)
  obtain ⟨a, ha⟩ : ∃ a, Int.tmod x ((l : Int) + 1) = a := ⟨_, rfl⟩
  rw [ha] at h3 h4
  have h5 : 0 ≤ Int.tmod (a + (l : Int) + 1) ((l : Int) + 1) := Int.tmod_nonneg _ (by omega)
  have h6 : Int.tmod (a + (l : Int) + 1) ((l : Int) + 1) < ((l : Int) + 1) := Int.tmod_lt_of_pos _ (by omega)
  obtain ⟨b, hb⟩ : ∃ b, Int.tmod (a + (l : Int) + 1) ((l : Int) + 1) = b := ⟨_, rfl⟩
  rw [hb] at h5 h6
  exact ⟨a, b.toNat, ha, by omega, by omega, by omega, by rw [hb]; omega⟩
theorem mod_five (x : Int) (k : Int) (hk : 0 < k) (hk2 : k < 100) : ∃ (a : Int) (j : Nat), Int.tmod x k = a ∧ -100 < a ∧ a < 100 ∧ (j : Int) < k ∧ Int.tmod (a + k) k = (j : Int) := by
  have h3 : Int.tmod x k < k := Int.tmod_lt_of_pos x hk
  have h4 : -k < Int.tmod x k := Int.lt_tmod_of_pos x hk
  obtain ⟨a, ha⟩ : ∃ a, Int.tmod x k = a := ⟨_, rfl⟩
  rw [ha] at h3 h4
  have h5 : 0 ≤ Int.tmod (a + k) k := Int.tmod_nonneg _ (by omega)
  have h6 : Int.tmod (a + k) k < k := Int.tmod_lt_of_pos _ hk
  obtain ⟨b, hb⟩ : ∃ b, Int.tmod (a + k) k = b := ⟨_, rfl⟩
  rw [hb] at h5 h6
  exact ⟨a, b.toNat, ha, by omega, by omega, by omega, by rw [hb]; omega⟩
theorem good_lastI {x : Lg} {T : Int} (h : GoodL x T) : x.lastI = (x.L.length : Int) := by unfold Lg.lastI; rw [h.i0]; omega
theorem good_entries {x : Lg} {T : Int} (h : GoodL x T) (n m : Nat) (hn : n ≤ x.L.length) : x.entries ((n : Int) + 1) (m : Int) = (gave x n m, 0) := by
  unfold Lg.entries gave
  rw [good_lastI h, h.i0, if_neg (by omega), if_neg (by omega)]
  rw [show ((n : Int) + 1 - 0 - 1).toNat = n by omega, show (m : Int).toNat = m by omega]

section
variable {S : Nat → Prop} {w0 w : World} {R : List SP} {g k : Nat} {x y : Lg} {T : Int}
set_option maxRecDepth 100000 in
set_option maxHeartbeats 3200000 in
theorem gives_own (hx : GoodL x T) (hy : GoodL y T) (h : Own S w0 w (SP.log 85 g x :: SP.log 85 k y :: R)) (n m : Int) (hn : In64 n) (hm : In64 m) :
    Calls Try.prog 26 #[.pointer (some ⟨g, 0, none⟩), .pointer (some ⟨k, 0, none⟩), .int .i64 n, .int .i64 m] w fun e w' => ∃ (v : Value) (p q : Nat), e = .returned v ∧ p ≤ x.L.length ∧
      Own S w0 w' (SP.log 85 g x :: SP.log 85 k (y.try_ p (x.at p).1 0 (gave x p q)).2 :: R) := by
  obtain ⟨l, hl⟩ : ∃ l, x.L.length = l := ⟨_, rfl⟩
  have hl2 : l ≤ 10000 := by rw [← hl]; exact hx.ok.len
  obtain ⟨a, p, ha, ha1, ha2, hp, hap⟩ := mod_any n hl2
  obtain ⟨b, q, hb, hb1, hb2, hq, hbq⟩ := mod_five m 5 (by omega) (by omega)
  have hLa := last_own (by rw [hl]; omega) h (fun j e h => (hx.ok.idx j e h).1)
  rw [show x.lastI = (l : Int) by rw [good_lastI hx, hl]] at hLa
  have HLa := Lib.hid hLa
  have HX := Lib.hid (And.intro hx (And.intro hy hl))
  have HT := Lib.hid (gave_tried hx p q)
  obtain ⟨es, hes⟩ : ∃ es, gave x p q = es := ⟨_, rfl⟩
  obtain ⟨el, hel⟩ : ∃ el, es.length = el := ⟨_, rfl⟩
  have hel2 : el ≤ 5 := by rw [← hel, ← hes]; unfold gave; rw [List.length_take]; omega
  have HE := Lib.hid (And.intro hes (And.intro hel hel2))
  have hET := fun (W : World) (o : Own S w0 W (SP.log 85 g x :: SP.log 85 k y :: R)) => entries_own hx.ok o ((p : Int) + 1) (q : Int) ⟨by omega, by omega⟩ ⟨by omega, by omega⟩
  rw [good_entries hx p q (by omega), hes, hel] at hET
  have HET := Lib.hid hET
  obtain ⟨t, ht⟩ : ∃ t, (x.at (p : Int)).1 = t := ⟨_, rfl⟩
  have hTm := fun (W : World) (o : Own S w0 W (SP.log 85 g x :: SP.log 85 k y :: R)) => term_own hx.ok.i0 (by rw [hl]; omega) o (p : Int) ⟨by omega, by omega⟩
  rw [ht] at hTm
  have HTm := Lib.hid hTm
  have HTT := Lib.hid ht
  obtain ⟨n1, n2⟩ := hn
  obtain ⟨m1, m2⟩ := hm
  clear hx hy hl h hLa hes hel hET hTm ht
  go_enter Try.func26, Try.ntmps26
  go_wp2_with fail
  refine (HLa.out).mono ?_
  rintro e w1 ⟨rfl, o1⟩
  have HTm1 := Lib.hid (HTm.out w1 o1)
  clear o1 HLa HTm
  go_wp2_with fail
  refine (HTm1.out).mono ?_
  rintro e w2 ⟨rfl, o2⟩
  have HET1 := Lib.hid (HET.out w2 o2)
  clear o2 HTm1 HET
  go_wp2_with fail
  refine (HET1.out).mono ?_
  rintro e w3 ⟨A3, c3, rfl, o3⟩
  obtain ⟨Az, cz, ds, z, -, hc1, hc2, -⟩ := o3.ents_open
  rw [HE.out.2.1] at z hc1
  cases z
  have hT := try_own (A := A3) (cap := c3) (es := es) HX.out.2.1.ok (o3.pick (L := [_, _, _]) [2, 0, 1]) EReads.of_ents (by rw [HE.out.2.1]; exact hc1) hc2 (by rw [HE.out.2.1]; omega) (p : Int) t 0 ⟨by omega, by omega⟩ (by have := HT.out; rw [HE.out.1] at this; exact this)
  rw [HE.out.2.1] at hT
  have HTr := Lib.hid hT
  clear o3 hT HET1
  go_wp2_with fail
  refine (HTr.out).mono ?_
  rintro e w4 ⟨rfl, o4⟩
  have O4 := Lib.hid (o4.pick (L := [_, _, _]) [2, 0])
  clear o4 HTr
  go_wp2
  go_end0
  refine ⟨_, p, q, rfl, by rw [HX.out.2.2]; exact hp, ?_⟩
  have := O4.out
  rw [HTT.out, HE.out.1]
  exact this
set_option maxRecDepth 100000 in
set_option maxHeartbeats 3200000 in
theorem matching_own (hx : GoodL x T) (hy : GoodL y T) (ha : Agree x y) (h : Own S w0 w (SP.log 85 g x :: SP.log 85 k y :: R)) :
    Calls Try.prog 27 #[.pointer (some ⟨g, 0, none⟩), .pointer (some ⟨k, 0, none⟩)] w fun e w' => e = .returned (.bool true) ∧ Own S w0 w' (SP.log 85 g x :: SP.log 85 k y :: R) := by
  obtain ⟨l, hl⟩ : ∃ l, x.L.length = l := ⟨_, rfl⟩
  obtain ⟨r, hr⟩ : ∃ r, y.L.length = r := ⟨_, rfl⟩
  have hl2 : l ≤ 10000 := by rw [← hl]; exact hx.ok.len
  have hr2 : r ≤ 10000 := by rw [← hr]; exact hy.ok.len
  have HLa := Lib.hid (fun (W : World) (o : Own S w0 W (SP.log 85 g x :: SP.log 85 k y :: R)) => show Calls Try.prog 21 #[.pointer (some ⟨g, 0, none⟩)] W fun e w' => e = .returned (.tuple #[.int .i64 (l : Int), .int .i64 x.lastT]) ∧ Own S w0 w' (SP.log 85 g x :: SP.log 85 k y :: R) by
    have := last_own (by rw [hl]; omega) o (fun j e h => (hx.ok.idx j e h).1)
    rw [show x.lastI = (l : Int) by rw [good_lastI hx, hl]] at this
    exact this)
  have HLb := Lib.hid (fun (W : World) (o : Own S w0 W (SP.log 85 k y :: SP.log 85 g x :: R)) => show Calls Try.prog 21 #[.pointer (some ⟨k, 0, none⟩)] W fun e w' => e = .returned (.tuple #[.int .i64 (r : Int), .int .i64 y.lastT]) ∧ Own S w0 w' (SP.log 85 k y :: SP.log 85 g x :: R) by
    have := last_own (by rw [hr]; omega) o (fun j e h => (hy.ok.idx j e h).1)
    rw [show y.lastI = (r : Int) by rw [good_lastI hy, hr]] at this
    exact this)
  have HX := Lib.hid (And.intro hx (And.intro hy (And.intro hl (And.intro hr ha))))
  have H := Lib.hid h
  clear hx hy hl hr ha h
  go_enter Try.func27, Try.ntmps27
  go_wp2_with fail
  refine (HLa.out _ H.out).mono ?_
  rintro e w1 ⟨rfl, o1⟩
  have H1 := Lib.hid (o1.swap)
  clear o1 H
  go_wp2_with fail
  refine (HLb.out _ H1.out).mono ?_
  rintro e w2 ⟨rfl, o2⟩
  have H2 := Lib.hid (o2.swap)
  clear o2 H1
  go_wp2
  all_goals
    go_loopw [9] (fun tj wr => ∃ j : Nat, j ≤ l ∧ j ≤ r ∧ tj = .int .i64 j ∧ Own S w0 wr (SP.log 85 g x :: SP.log 85 k y :: R)) (fun tj _ => (intOf tj).toNat)
    case atStart =>
      first
      | exact ⟨l, by omega, by omega, rfl, H2.out⟩
      | exact ⟨r, by omega, by omega, rfl, H2.out⟩
    case round =>
      obtain ⟨j, hjl, hjr, rfl, hown⟩ := hrel
      have HO := Lib.hid hown
      clear hown H2
      by_cases hj0 : 0 < j
      · have i1 : (0 : Int) < (j : Int) := by omega
        obtain ⟨t, ht⟩ : ∃ t, (x.at (j : Int)).1 = t := ⟨_, rfl⟩
        obtain ⟨b, hb⟩ : ∃ b, y.has (j : Int) t = b := ⟨_, rfl⟩
        have hTm := term_own HX.out.1.ok.i0 (by have := HX.out.1.ok.len; omega) HO.out (j : Int) ⟨by omega, by omega⟩
        rw [ht] at hTm
        have HTm := Lib.hid hTm
        have HH := Lib.hid (fun (W : World) (o : Own S w0 W (SP.log 85 k y :: SP.log 85 g x :: R)) => show Calls Try.prog 54 #[.pointer (some ⟨k, 0, none⟩), .int .i64 (j : Int), .int .i64 t] W fun e w' => e = .returned (.bool b) ∧ Own S w0 w' (SP.log 85 k y :: SP.log 85 g x :: R) by
          have := has_own HX.out.2.1.ok.i0 (by have := HX.out.2.1.ok.len; omega) o (j : Int) t ⟨by omega, by omega⟩
          rw [hb] at this
          exact this)
        have HB := Lib.hid (And.intro ht hb)
        clear hTm ht hb
        go_wp2_with fail
        refine (HTm.out).mono ?_
        rintro e w3 ⟨rfl, o3⟩
        have H3 := Lib.hid o3.swap
        clear o3 HTm
        go_wp2_with fail
        refine (HH.out _ H3.out).mono ?_
        rintro e w4 ⟨rfl, o4⟩
        have H4 := Lib.hid o4.swap
        clear o4 HH H3
        cases b with
        | true =>
          have HQ := Lib.hid (show x.L.take j = y.L.take j from agree_has HX.out.1 HX.out.2.1 HX.out.2.2.2.2 (by rw [HX.out.2.2.1]; exact hjl) (by rw [HB.out.1]; exact HB.out.2))
          have hE1 := entries_own HX.out.1.ok H4.out 1 (j : Int) ⟨by decide, by decide⟩ ⟨by omega, by omega⟩
          have hg1 := good_entries HX.out.1 0 j (by omega)
          have hg2 := good_entries HX.out.2.1 0 j (by omega)
          rw [show (((0 : Nat) : Int) + 1) = 1 by omega] at hg1 hg2
          rw [show gave x 0 j = x.L.take j from rfl] at hg1
          rw [show gave y 0 j = x.L.take j from HQ.out.symm] at hg2
          rw [hg1] at hE1
          obtain ⟨C, hC⟩ : ∃ C, x.L.take j = C := ⟨_, rfl⟩
          rw [hC] at hE1 hg2
          have HC := Lib.hid (show C.length ≤ 10000 ∧ ∀ m, m ∈ C → m.dat.length ≤ 140737488351232 from ⟨by rw [← hC, List.length_take]; have := HX.out.1.ok.len; omega, fun m hm => by
            rw [← hC] at hm
            have := HX.out.1.ok.dat m (List.mem_of_mem_take hm)
            omega⟩)
          have HG2 := Lib.hid hg2
          have HE1 := Lib.hid hE1
          clear hE1 hg1 hg2 hC
          go_wp2_with fail
          refine (HE1.out).mono ?_
          rintro e w5 ⟨A5, c5, rfl, o5⟩
          have hE2 := entries_own HX.out.2.1.ok (o5.pick (L := [_, _, _]) [2, 0, 1]) 1 (j : Int) ⟨by decide, by decide⟩ ⟨by omega, by omega⟩
          rw [HG2.out] at hE2
          have HE2 := Lib.hid hE2
          clear o5 hE2 HE1
          go_wp2_with fail
          refine (HE2.out).mono ?_
          rintro e w6 ⟨A6, c6, rfl, o6⟩
          have hs := sameents_own (ca := c5) (cb := c6) (o6.pick (L := [_, _, _, _]) [0, 2, 3, 1]) (EReads.of_ents.more [_]) EReads.of_ents (by have := HC.out.1; omega) HC.out.2
          rw [show decide (C = C) = true from decide_eq_true rfl] at hs
          have HS := Lib.hid hs
          clear o6 hs HE2
          go_wp2_with fail
          refine (HS.out).mono ?_
          rintro e w7 ⟨rfl, o7⟩
          have O7 := Lib.hid (o7.pick (L := [_, _, _, _]) [2, 3])
          clear o7 HS
          go_wp2
          go_ret
          exact ⟨rfl, O7.out⟩
        | false =>
          go_wp2
          go_roundw
          case rel => exact ⟨j - 1, by omega, by omega, by go_num, H4.out⟩
          case measure => simp [intOf]; omega
      · have i1 : ¬ (0 : Int) < (j : Int) := by omega
        have HQ := Lib.hid (show x.L.take j = y.L.take j by rw [show j = 0 by omega]; simp)
        have hE1 := entries_own HX.out.1.ok HO.out 1 (j : Int) ⟨by decide, by decide⟩ ⟨by omega, by omega⟩
        have hg1 := good_entries HX.out.1 0 j (by omega)
        have hg2 := good_entries HX.out.2.1 0 j (by omega)
        rw [show (((0 : Nat) : Int) + 1) = 1 by omega] at hg1 hg2
        rw [show gave x 0 j = x.L.take j from rfl] at hg1
        rw [show gave y 0 j = x.L.take j from HQ.out.symm] at hg2
        rw [hg1] at hE1
        obtain ⟨C, hC⟩ : ∃ C, x.L.take j = C := ⟨_, rfl⟩
        rw [hC] at hE1 hg2
        have HC := Lib.hid (show C.length ≤ 10000 ∧ ∀ m, m ∈ C → m.dat.length ≤ 140737488351232 from ⟨by rw [← hC, List.length_take]; have := HX.out.1.ok.len; omega, fun m hm => by
          rw [← hC] at hm
          have := HX.out.1.ok.dat m (List.mem_of_mem_take hm)
          omega⟩)
        have HG2 := Lib.hid hg2
        have HE1 := Lib.hid hE1
        clear hE1 hg1 hg2 hC
        go_wp2_with fail
        refine (HE1.out).mono ?_
        rintro e w5 ⟨A5, c5, rfl, o5⟩
        have hE2 := entries_own HX.out.2.1.ok (o5.pick (L := [_, _, _]) [2, 0, 1]) 1 (j : Int) ⟨by decide, by decide⟩ ⟨by omega, by omega⟩
        rw [HG2.out] at hE2
        have HE2 := Lib.hid hE2
        clear o5 hE2 HE1
        go_wp2_with fail
        refine (HE2.out).mono ?_
        rintro e w6 ⟨A6, c6, rfl, o6⟩
        have hs := sameents_own (ca := c5) (cb := c6) (o6.pick (L := [_, _, _, _]) [0, 2, 3, 1]) (EReads.of_ents.more [_]) EReads.of_ents (by have := HC.out.1; omega) HC.out.2
        rw [show decide (C = C) = true from decide_eq_true rfl] at hs
        have HS := Lib.hid hs
        clear o6 hs HE2
        go_wp2_with fail
        refine (HS.out).mono ?_
        rintro e w7 ⟨rfl, o7⟩
        have O7 := Lib.hid (o7.pick (L := [_, _, _, _]) [2, 3])
        clear o7 HS
        go_wp2
        go_ret
        exact ⟨rfl, O7.out⟩
end
end Go.Proofs.Ytepnkhiclgjmpaa
