/-
  FrameBehind as a call: it returns true, and what was there stays.
  Conditions: the bytes lie in memory as they were handed in.
-/
import Derived.Test.YtonomljdljcmaaaBack
namespace Go.Proofs.Ytonomljdljcmaaa
set_option linter.unusedVariables false
set_option linter.unusedSimpArgs false
open Go.RowKit

theorem frs_at_step {b x : List UInt8} {i : Nat} (he : getErr b = 0) (h : span ((frs (b.drop (8 + (pay b).length))).take i) ≤ (b.drop (8 + (pay b).length)).length ∧ getErr ((b.drop (8 + (pay b).length)).drop (span ((frs (b.drop (8 + (pay b).length))).take i))) = 0 ∧ pay ((b.drop (8 + (pay b).length)).drop (span ((frs (b.drop (8 + (pay b).length))).take i))) = x) :
    span ((frs b).take (i + 1)) ≤ b.length ∧ getErr (b.drop (span ((frs b).take (i + 1)))) = 0 ∧ pay (b.drop (span ((frs b).take (i + 1)))) = x := by
  obtain ⟨h1, h2, h3⟩ := h
  have h4 := drop_shorter he rfl
  rw [frs_ok he, List.take_succ_cons, span_cons]
  rw [List.drop_drop] at h2 h3
  exact ⟨by omega, h2, h3⟩
theorem frs_at (i : Nat) : ∀ (b x : List UInt8), (frs b)[i]? = some x → span ((frs b).take i) ≤ b.length ∧ getErr (b.drop (span ((frs b).take i))) = 0 ∧ pay (b.drop (span ((frs b).take i))) = x := by
  induction i with
  | zero =>
    intro b x h
    rw [List.take_zero]
    show 0 ≤ b.length ∧ getErr (b.drop 0) = 0 ∧ pay (b.drop 0) = x
    rw [List.drop_zero]
    by_cases he : getErr b = 0
    · rw [frs_ok he] at h
      simp only [List.getElem?_cons_zero, Option.some.injEq] at h
      exact ⟨Nat.zero_le _, he, h⟩
    · rw [frs_end he] at h; simp at h
  | succ i ih =>
    intro b x h
    by_cases he : getErr b = 0
    · rw [frs_ok he, List.getElem?_cons_succ] at h
      exact frs_at_step he (ih _ x h)
    · rw [frs_end he] at h; simp at h
theorem behind_at {b d x : List UInt8} {i : Nat} (h : (frs b)[i]? = some x) : gE (b ++ d) ((span ((frs b).take i) : Nat) : Int) = 0 ∧ gP (b ++ d) ((span ((frs b).take i) : Nat) : Int) = x := by
  obtain ⟨h1, h2, h3⟩ := frs_at i b x h
  have h4 := getErr_ok h2
  have h5 := getErr_append d h2
  rw [List.length_drop] at h4
  have h6 : (b ++ d).drop (span ((frs b).take i)) = b.drop (span ((frs b).take i)) ++ d := List.drop_append_of_le_length h1
  have h7 : gE (b ++ d) ((span ((frs b).take i) : Nat) : Int) = 0 := by
    rw [gE, if_pos (by rw [List.length_append]; omega), Int.toNat_natCast, h6]
    exact h5.1
  exact ⟨h7, by rw [gP, if_pos h7, Int.toNat_natCast, h6, h5.2, h3]⟩
theorem allErr_says (b : List UInt8) : (span (frs b) = b.length → allErr b = 0) ∧ (span (frs b) ≠ b.length → allErr b ≠ 0 ∧ gE b ((span (frs b) : Nat) : Int) = allErr b) := by
  refine ⟨fun h => by rw [allErr, if_pos h], fun h => ?_⟩
  have h1 : allErr b = getErr (b.drop (span (frs b))) := by rw [allErr, if_neg h]
  refine ⟨by rw [h1]; exact frs_last b, ?_⟩
  rw [h1, gE]
  have hle := span_le b
  by_cases h2 : (0 : Int) ≤ ((span (frs b) : Nat) : Int) ∧ ((span (frs b) : Nat) : Int) + 4 ≤ (b.length : Int)
  · rw [if_pos h2, Int.toNat_natCast]
  · rw [if_neg h2, getErr_short (by rw [List.length_drop]; omega)]

set_option maxRecDepth 100000 in
set_option maxHeartbeats 8000000 in
theorem behind_calls (w : World) (A : Option Addr) (c : Nat) (b : List UInt8) (hb : Rd w A (bts b)) (hcap : b.length ≤ c) (hcap2 : c ≤ maxLen) (hlen : b.length ≤ 140737488351232)
    (D : Option Addr) (cd : Nat) (d : List UInt8) (hd : Rd w D (bts d)) (hcapd : d.length ≤ cd) (hcapd2 : cd ≤ maxLen) (hlend : d.length ≤ 140737488351232) :
    Calls Try.prog 6 #[.slice A b.length c, .slice D d.length cd] w fun e w' => e = .returned (.bool true) ∧ Below w.heap.size w w' := by
  have hf := Lib.hid (first_calls w)
  have HB := Lib.hid (And.intro hb hd)
  have hcap3 : c ≤ 9223372036854775807 := by unfold maxLen at hcap2; exact hcap2
  clear hb hd hcap2 hcapd2
  by_cases hbig : 4000 < b.length
  · have hb' : (4000 : Int) < (b.length : Int) := by omega
    go_enter Try.func6, Try.ntmps6
    go_wp2_with fail
    refine (hf.out).mono ?_
    rintro e w1 ⟨rfl, hb1⟩
    go_wp2
    go_ret
    exact ⟨rfl, hb1⟩
  · have hb' : ¬ (4000 : Int) < (b.length : Int) := by omega
    by_cases hbigd : 4000 < d.length
    · have hbd' : (4000 : Int) < (d.length : Int) := by omega
      go_enter Try.func6, Try.ntmps6
      go_wp2_with fail
      refine (hf.out).mono ?_
      rintro e w1 ⟨rfl, hb1⟩
      go_wp2
      go_ret
      exact ⟨rfl, hb1⟩
    · have hbd' : ¬ (4000 : Int) < (d.length : Int) := by omega
      have hsl := span_le b
      have hl8 := span_length (frs b)
      obtain ⟨F, hF⟩ : ∃ F, frs b = F := ⟨_, rfl⟩
      obtain ⟨er, her⟩ : ∃ x, allErr b = x := ⟨_, rfl⟩
      have hsays := allErr_says b
      rw [hF] at hsl hl8 hsays
      rw [her] at hsays
      obtain ⟨sp, hsp⟩ : ∃ x, span F = x := ⟨_, rfl⟩
      rw [hsp] at hsl hl8 hsays
      have HF := Lib.hid (And.intro hF (And.intro her (And.intro hsays hsp)))
      clear hF her hsays hsp
      go_enter Try.func6, Try.ntmps6
      go_wp2_with fail
      refine (hf.out).mono ?_
      rintro e w1 ⟨rfl, hb1⟩
      have Hb1 := Lib.hid hb1
      have HR := Lib.hid (And.intro (reads_arg (R := []) (HB.out.1.below hb1)) (reads_arg (R := []) (HB.out.2.below hb1)))
      have hall := all_own (b := b) (cb := c) (Own.start w1) HR.out.1 hcap hcap3 (by omega)
      rw [HF.out.1, HF.out.2.1, HF.out.2.2.2] at hall
      have HA := Lib.hid hall
      clear hb1 hall
      go_wp2_with fail
      refine (HA.out).mono ?_
      rintro e w2 ⟨A1, c1, rfl, own1⟩
      have HBy := Lib.hid (bytes_own (cb := c) own1 (Reads.more HR.out.1 [_]) (by omega))
      clear own1 HA
      go_wp2_with fail
      refine (HBy.out).mono ?_
      rintro e w3 ⟨A2, c2, rfl, own2⟩
      obtain ⟨T, hr, -, hback⟩ := own2.open
      have G := Lib.hid (And.intro hr (And.intro hback (HR.out.2 _ [_, _] own2)))
      clear own2 hr hback HBy
      go_wp2_with (at_builtin; refine wpList_append_row rfl (.tmp 41) (.tmp 42) 22 rfl 5 (.int .u8 0) 1 1 Try.underlying22 Try.info5 rfl (by decide) rfl (by rw [bts_length, Nat.mul_one]) G.out.1 D d.length cd (bts d) rfl (by rw [bts_length, Nat.mul_one]) G.out.2.2 bts_one (by unfold maxLen; omega) (by omega) ?_)
      rintro A3 c3 w4 - hk hr
      have hO := G.out.2.1 _ _ hk hr
      rw [← bts_append, ← List.length_append] at hO
      have hc3 := hO.row_le (by decide) (by rw [bts_length, Nat.mul_one])
      have HC3 := Lib.hid (And.intro hc3.1 (show c3 ≤ 9223372036854775807 by have h := hc3.2; unfold maxLen at h; exact h))
      rw [List.length_append] at hO
      have O3 := Lib.hid hO
      clear hk hr hO hc3
      go_wp2
      go_loopw [10, 11] (fun t0 t wr => ∃ i : Nat, i ≤ F.length ∧ t0 = .int .i64 (span (F.take i) : Nat) ∧ t = .int .i64 i ∧ Own (fun _ => False) w1 wr [SP.row 5 1 (.slice A3 (b.length + d.length) c3) (bts (b ++ d)), SP.mat 22 5 (.slice A1 F.length c1) (F.map bts)]) (fun _ t _ => F.length - (intOf t).toNat)
      case atStart => exact ⟨0, Nat.zero_le _, rfl, rfl, O3.out⟩
      case round =>
        obtain ⟨i, hi, rfl, rfl, hown⟩ := hrel
        have hs1 := span_take_le F hi
        rw [List.take_length, HF.out.2.2.2] at hs1
        by_cases hin : i < F.length
        · obtain ⟨x, hx⟩ : ∃ x, F[i]? = some x := ⟨_, List.getElem?_eq_getElem hin⟩
          have hnext := Lib.hid (span_take_succ hx)
          have hs2 := span_take_le F (show i + 1 ≤ F.length by omega)
          rw [List.take_length, HF.out.2.2.2, hnext.out] at hs2
          have hba := behind_at (d := d) (b := b) (by rw [HF.out.1]; exact hx)
          rw [HF.out.1] at hba
          obtain ⟨s, hs⟩ : ∃ x, span (F.take i) = x := ⟨_, rfl⟩
          rw [hs] at hba hs1 hs2 ⊢
          have hg := get_any (b := b ++ d) (cb := c3) (s : Int) hown (Reads.row (b := b ++ d)) HC3.out.1 HC3.out.2 (by rw [List.length_append]; omega) (by omega)
          have hgn : gN (b ++ d) ((s : Nat) : Int) = 8 + x.length := by rw [gN, if_pos hba.1, hba.2]
          rw [hgn, hba.1, hba.2, List.length_append] at hg
          have HG := Lib.hid hg
          obtain ⟨b1, o1, A5, c5, hA1, hc5, -, -, hr5⟩ := (hown.pick (L := [_, _]) [1]).mat_rdm i x hx
          obtain ⟨vs, A6, c6, hvl, h3, h4, hv, h5, -⟩ := (hown.pick (L := [_, _]) [1]).mat_at (k := i) (xs := bts x) (by rw [List.getElem?_map, hx]; rfl)
          have hS := Lib.hid hs
          clear hg hgn hba hs hc5 hr5 hvl h3 h4 hv h5 hown
          go_wp2_with fail
          refine (HG.out).mono ?_
          rintro e w5 ⟨A4, c4, rfl, own4⟩
          obtain ⟨b7, o7, A7, c7, hA7, hc7, -, -, hr7⟩ := (own4.pick (L := [_, _, _]) [2]).mat_rdm i x hx
          subst hA7
          injection hA1 with hA1
          injection hA1 with e1 e2
          subst e1 e2
          have HSm := Lib.hid (same_own (ca := c4) (cb := c7) own4 own4.rd hr7 (by omega))
          have HX := Lib.hid hx
          have i0 : (0 : Int) ≤ (i : Int) := by omega
          have i1 : (i : Int) < (F.length : Int) := by omega
          have z0 : ((0 : Int) != 0) = false := rfl
          have z1 : ((8 + (x.length : Int)) != (8 + (x.length : Int))) = false := by simp
          clear own4 hr7 hx HG
          go_wp2_with fail
          refine (HSm.out).mono ?_
          rintro e w6 ⟨rfl, own5⟩
          have O5 := Lib.hid (own5.pick (L := [_, _, _]) [1, 2])
          clear own5 HSm
          go_wp2_with fail
          refine (num_calls _ _).mono ?_
          rintro e w' ⟨rfl, rfl⟩
          go_wp2
          go_roundw
          case rel =>
            refine ⟨i + 1, by omega, ?_, by go_num, O5.out⟩
            rw [hnext.out, hS.out]
            go_num
          case measure => simp [intOf]; omega
        · obtain rfl : i = F.length := by omega
          rw [List.take_length, HF.out.2.2.2] at *
          have HG := Lib.hid (get_any (b := b) (cb := c) (sp : Int) hown (Reads.more HR.out.1 [_, _]) hcap hcap3 (by omega) (by omega))
          have hPl := (gP_le b (sp : Int)).1
          obtain ⟨P, hP⟩ : ∃ P, gP b (sp : Int) = P := ⟨_, rfl⟩
          obtain ⟨gn, hgn⟩ : ∃ x, gN b (sp : Int) = x := ⟨_, rfl⟩
          obtain ⟨ge, hge⟩ : ∃ x, gE b (sp : Int) = x := ⟨_, rfl⟩
          have hs := HF.out.2.2.1
          rw [hP, hgn, hge] at HG
          rw [HF.out.2.2.2, hge] at hs
          have HS := Lib.hid hs
          clear hown hPl hP hgn hge hs
          by_cases heq : sp = b.length
          · obtain rfl : er = 0 := HS.out.1 heq
            have hq1 : ¬ (sp : Int) < (b.length : Int) := by omega
            have hq2 : decide ((sp : Int) < (b.length : Int)) = false := by simp; omega
            clear heq
            go_wp2_with fail
            refine (HG.out).mono ?_
            rintro e w5 ⟨A4, c4, rfl, own4⟩
            have O4 := Lib.hid own4
            clear own4 HG
            go_wp2_with fail
            refine (num_calls _ _).mono ?_
            rintro e w' ⟨rfl, rfl⟩
            go_wp2
            go_ret
            exact ⟨rfl, Hb1.out.trans (O4.out.below.mono Hb1.out.size)⟩
          · obtain ⟨he1, he2⟩ := HS.out.2 heq
            subst he2
            have hq1 : (sp : Int) < (b.length : Int) := by omega
            have hq2 : decide ((sp : Int) < (b.length : Int)) = true := by simp; omega
            have hq3 : ((ge : Int) != 0) = true := by simp; omega
            have hq4 : ((ge : Int) == (ge : Int)) = true := by simp
            clear heq
            go_wp2_with fail
            refine (HG.out).mono ?_
            rintro e w5 ⟨A4, c4, rfl, own4⟩
            have O4 := Lib.hid own4
            clear own4 HG
            go_wp2_with fail
            refine (num_calls _ _).mono ?_
            rintro e w' ⟨rfl, rfl⟩
            go_wp2_with fail
            refine (num_calls _ _).mono ?_
            rintro e w' ⟨rfl, rfl⟩
            go_wp2_with fail
            refine (num_calls _ _).mono ?_
            rintro e w' ⟨rfl, rfl⟩
            go_wp2
            go_ret
            exact ⟨rfl, Hb1.out.trans (O4.out.below.mono Hb1.out.size)⟩
end Go.Proofs.Ytonomljdljcmaaa
