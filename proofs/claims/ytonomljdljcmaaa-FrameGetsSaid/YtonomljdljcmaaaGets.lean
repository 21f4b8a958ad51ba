/-
  FrameGets as a call: it returns true, and what was there stays.
  Conditions: the bytes lie in memory as they were handed in; they are at most 140737488351232.
-/
import Derived.Test.YtonomljdljcmaaaAny
namespace Go.Proofs.Ytonomljdljcmaaa
set_option linter.unusedVariables false
set_option linter.unusedSimpArgs false
open Go.RowKit

set_option maxRecDepth 100000 in
set_option maxHeartbeats 8000000 in
theorem gets_calls (w : World) (A : Option Addr) (c : Nat) (b : List UInt8) (hb : Rd w A (bts b)) (hcap : b.length ≤ c) (hcap2 : c ≤ maxLen) (hlen : b.length ≤ 140737488351232) (a : Int) (ha : -9223372036854775808 ≤ a ∧ a ≤ 9223372036854775807) :
    Calls Try.prog 4 #[.slice A b.length c, .int .i64 a] w fun e w' => e = .returned (.bool true) ∧ Below w.heap.size w w' := by
  have hf := Lib.hid (first_calls w)
  have HB := Lib.hid hb
  have HC0 := Lib.hid (And.intro hcap (show c ≤ 9223372036854775807 by unfold maxLen at hcap2; exact hcap2))
  have HAa := Lib.hid ha
  clear hb hcap hcap2 ha
  by_cases hbig : 4000 < b.length
  · have hb' : (4000 : Int) < (b.length : Int) := by omega
    go_enter Try.func4, Try.ntmps4
    go_wp2_with fail
    refine (hf.out).mono ?_
    rintro e w1 ⟨rfl, hb1⟩
    go_wp2
    go_ret
    exact ⟨rfl, hb1⟩
  · have hb' : ¬ (4000 : Int) < (b.length : Int) := by omega
    go_enter Try.func4, Try.ntmps4
    go_wp2_with fail
    refine (hf.out).mono ?_
    rintro e w1 ⟨rfl, hb1⟩
    have Hb1 := Lib.hid hb1
    have HR := Lib.hid (reads_arg (R := []) (HB.out.below hb1))
    have HL := Lib.hid (lent_own (cb := c) (Own.start w1) HR.out (by omega))
    clear hb1
    go_wp2_with fail
    refine (HL.out).mono ?_
    rintro e w2 ⟨A1, c1, rfl, hc1, hc2, own1⟩
    have HC := Lib.hid (And.intro hc1 hc2)
    have HG := Lib.hid (get_any (cb := c1) a own1 (reads_front (R := [])) (by omega) (by unfold maxLen at hc2; exact hc2) (by omega) HAa.out)
    clear own1 hc1 hc2 HL
    go_wp2_with fail
    refine (HG.out).mono ?_
    rintro e w3 ⟨A2, c2, rfl, own2⟩
    have HG1 := Lib.hid (one_any (cb := c1) own2 (Reads.more (reads_front (R := [])) [_]) (by have := HC.out.1; omega) (by have h := HC.out.2; unfold maxLen at h; exact h) (by omega))
    clear own2 HG
    go_wp2_with fail
    refine (HG1.out).mono ?_
    rintro e w4 ⟨A3, c3, rfl, own3⟩
    have HK := Lib.hid (kept_own (A := A1) (B := A) (c := c1) (cb := c) (b := b) own3 ((own3.pick (L := [_, _, _]) [2]).rd) (HR.out _ [_, _, _] own3) (by omega) HC.out.1 HC.out.2)
    clear own3 HG1
    go_wp2_with fail
    refine (HK.out).mono ?_
    rintro e w5 ⟨rfl, own4⟩
    have HX := Lib.hid (rget_any (cb := c) a own4 (Reads.more HR.out [_, _, _]) HC0.out.1 HC0.out.2 (by omega) HAa.out)
    clear own4 HK
    go_wp2_with fail
    refine (HX.out).mono ?_
    rintro e w6 ⟨A4, c4, rfl, own5⟩
    have HY := Lib.hid (rone_any (cb := c) own5 (Reads.more HR.out [_, _, _, _]) HC0.out.1 HC0.out.2 (by omega))
    clear own5 HX
    go_wp2_with fail
    refine (HY.out).mono ?_
    rintro e w7 ⟨A5, c5, rfl, own6⟩
    obtain ⟨P, hP⟩ : ∃ P, gP b a = P := ⟨_, rfl⟩
    have hPl := (gP_le b a).1
    have hQl := (oneP_le b).1
    rw [hP] at own6 hPl ⊢
    obtain ⟨Q, hQ⟩ : ∃ Q, oneP b = Q := ⟨_, rfl⟩
    rw [hQ] at own6 hQl ⊢
    have HS := Lib.hid (same_own (ca := c2) (cb := c4) own6 ((own6.pick (L := [_, _, _, _, _]) [3]).rd) ((own6.pick (L := [_, _, _, _, _]) [1]).rd) (by omega))
    clear own6 HY hP hQ
    go_wp2_with fail
    refine (HS.out).mono ?_
    rintro e w8 ⟨rfl, own7⟩
    have HT := Lib.hid (same_own (ca := c3) (cb := c5) own7 ((own7.pick (L := [_, _, _, _, _]) [2]).rd) ((own7.pick (L := [_, _, _, _, _]) [0]).rd) (by omega))
    clear own7 HS
    go_wp2_with fail
    refine (HT.out).mono ?_
    rintro e w9 ⟨rfl, own8⟩
    have O8 := Lib.hid (own8.pick (L := [_, _, _, _, _]) [3, 4])
    clear own8 HT
    obtain ⟨n, hn⟩ : ∃ n, P.length = n := ⟨_, rfl⟩
    have HN := Lib.hid hn
    rw [hn] at O8 hPl ⊢
    clear hn
    go_wp2
    go_loopw [20] (fun t wr => ∃ (i : Nat) (ys : List UInt8), i ≤ n ∧ t = .int .i64 i ∧ Hid (ys.length = n) ∧ Own (fun _ => False) w1 wr [SP.row 5 1 (.slice A2 n c2) (bts ys), SP.row 5 1 (.slice A1 (b.length + 1) c1) (bts (b ++ [201]))]) (fun t _ => n - (intOf t).toNat)
    case atStart => exact ⟨0, P, Nat.zero_le _, rfl, HN, O8.out⟩
    case round =>
      obtain ⟨i, ys, hi, rfl, hys, hown⟩ := hrel
      by_cases hin : i < n
      · have i0 : (0 : Int) ≤ (i : Int) := by omega
        have i1 : (i : Int) < (n : Int) := by omega
        obtain ⟨y, hy⟩ : ∃ y, ys[i]? = some y := ⟨_, List.getElem?_eq_getElem (by rw [hys.out]; exact hin)⟩
        obtain ⟨g, off, rfl, hc1, hf1⟩ := hown.cell (bts_get hy)
        have hst := hown.store (j := i) (by rw [bts_length, hys.out]; exact hin) (.int .u8 0)
        have HO := Lib.hid hst
        clear hst hown hy
        go_wp2
        go_roundw
        case rel =>
          refine ⟨i + 1, ys.set i 0, by omega, by go_num, Lib.hid (by rw [List.length_set]; exact hys.out), ?_⟩
          have : bts (ys.set i 0) = (bts ys).set i (.int .u8 0) := by simp [bts, List.map_set, byteV]
          rw [this]
          exact HO.out
        case measure => simp [intOf]; omega
      · obtain rfl : i = n := by omega
        obtain ⟨T, hr, hback⟩ := hown.grow1 #[.int .u8 1] 5
        have G := Lib.hid (And.intro hr hback)
        clear hr hback hown
        go_wp2_with (at_builtin; refine wpList_append_row rfl (.tmp 74) (.tmp 75) 22 rfl 5 (.int .u8 0) 1 1 Try.underlying22 Try.info5 rfl (by decide) rfl (by rw [bts_length, hys.out, Nat.mul_one]) G.out.1 _ 1 1 [.int .u8 1] rfl rfl (rd_one _ _ _) (by simp [Value.oneCell']) (by unfold maxLen; omega) (by omega) ?_)
        rintro A6 c6 w10 - hk hr
        have O9 := Lib.hid (G.out.2 _ _ hk hr)
        have HZ := Lib.hid (same_own (w := w10) (ca := c1) (cb := c) (xs := b) O9.out (reads_front (R := []) w10 [_] O9.out) (HR.out w10 [_, _] O9.out) (by omega))
        clear hk hr
        go_wp2_with fail
        refine (num_calls _ _).mono ?_
        rintro e w' ⟨rfl, rfl⟩
        go_wp2_with fail
        refine (num_calls _ _).mono ?_
        rintro e w' ⟨rfl, rfl⟩
        go_wp2_with fail
        refine (HZ.out).mono ?_
        rintro e w11 ⟨rfl, own10⟩
        have OF := Lib.hid own10
        clear own10 HZ
        go_wp2
        go_ret
        exact ⟨rfl, Hb1.out.trans (OF.out.below.mono Hb1.out.size)⟩
end Go.Proofs.Ytonomljdljcmaaa
