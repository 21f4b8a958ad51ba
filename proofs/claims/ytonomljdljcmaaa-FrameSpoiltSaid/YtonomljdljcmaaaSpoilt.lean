/-
  FrameSpoilt as a call: it returns true, and what was there stays.
  Conditions: the bytes lie in memory as they were handed in.
-/
import Derived.Test.YtonomljdljcmaaaSpoiltPure
namespace Go.Proofs.Ytonomljdljcmaaa
set_option linter.unusedVariables false
set_option linter.unusedSimpArgs false
open Go.RowKit

theorem pow_le {i : Nat} (h : i ≤ 7) : 1 ≤ 2 ^ i ∧ 2 ^ i ≤ 128 := ⟨Nat.one_le_two_pow, by have := Nat.pow_le_pow_right (n := 2) (by decide) h; simpa using this⟩
/-- The byte that is laid there. -/
theorem turned {f : UInt8} {x : Nat} (hx : 1 ≤ x ∧ x ≤ 128) : byteV (UInt8.ofNat (f.toNat ^^^ x)) = .int .u8 ((f.toNat ^^^ x : Nat) : Int) ∧ UInt8.ofNat (f.toNat ^^^ x) ≠ f := by
  have hf := byte_lt f
  have hl : f.toNat ^^^ x < 256 := Nat.xor_lt_two_pow (n := 8) hf (by omega)
  have ht : (UInt8.ofNat (f.toNat ^^^ x)).toNat = f.toNat ^^^ x := by rw [UInt8.toNat_ofNat']; exact Nat.mod_eq_of_lt hl
  refine ⟨by rw [byteV, ht], fun h => ?_⟩
  have h1 : f.toNat ^^^ x = f.toNat ^^^ 0 := by rw [Nat.xor_zero, ← ht, h]
  have := xor_left h1
  omega

set_option maxRecDepth 100000 in
set_option maxHeartbeats 8000000 in
theorem spoilt_calls (w : World) (A : Option Addr) (c : Nat) (b : List UInt8) (hb : Rd w A (bts b)) (hcap : b.length ≤ c) (hcap2 : c ≤ maxLen) (hlen : b.length ≤ 140737488351232) (a : Int) (ha : -9223372036854775808 ≤ a ∧ a ≤ 9223372036854775807) :
    Calls Try.prog 5 #[.slice A b.length c, .int .i64 a] w fun e w' => e = .returned (.bool true) ∧ Below w.heap.size w w' := by
  have hf := Lib.hid (first_calls w)
  have HB := Lib.hid hb
  clear hb hcap2
  by_cases hbig : 4000 < b.length
  · have hb' : (4000 : Int) < (b.length : Int) := by omega
    go_enter Try.func5, Try.ntmps5
    go_wp2_with fail
    refine (hf.out).mono ?_
    rintro e w1 ⟨rfl, hb1⟩
    go_wp2
    go_ret
    exact ⟨rfl, hb1⟩
  · have hb' : ¬ (4000 : Int) < (b.length : Int) := by omega
    obtain ⟨n, hn⟩ : ∃ n, b.length = n := ⟨_, rfl⟩
    have HN := Lib.hid hn
    rw [hn] at hbig hb' hcap hlen ⊢
    clear hn
    have hfl : (frameB b).length = 8 + n := by rw [frameB_length, HN.out]
    obtain ⟨r, hr⟩ : ∃ r, Int.tmod a (8 * (8 + (n : Int))) = r := ⟨_, rfl⟩
    have hr1 : -(8 * (8 + (n : Int))) < r ∧ r < 8 * (8 + (n : Int)) := by
      rw [← hr]
      exact ⟨Int.lt_tmod_of_pos a (by omega), Int.tmod_lt_of_pos a (by omega)⟩
    obtain ⟨hr2, hr3⟩ := hr1
    have hk1 := Int.emod_nonneg (r + 8 * (8 + (n : Int))) (show 8 * (8 + (n : Int)) ≠ 0 by omega)
    have hk2 := Int.emod_lt_of_pos (r + 8 * (8 + (n : Int))) (show (0 : Int) < 8 * (8 + (n : Int)) by omega)
    obtain ⟨t, ht⟩ := Int.eq_ofNat_of_zero_le hk1
    rw [ht] at hk2
    obtain ⟨k, hk⟩ : ∃ k, t / 8 = k := ⟨_, rfl⟩
    obtain ⟨m, hm⟩ : ∃ m, t % 8 = m := ⟨_, rfl⟩
    have hkl : k < 8 + n := by omega
    have hm8 : m < 8 := by omega
    have hk' : (t : Int) / 8 = (k : Int) := by omega
    have hm' : (t : Int) % 8 = (m : Int) := by omega
    obtain ⟨F, hF⟩ : ∃ F, frameB b = F := ⟨_, rfl⟩
    have hof := one_frame b (by rw [HN.out]; omega)
    have hsp := fun d hd => spoilt b (by rw [HN.out]; omega) k (by rw [HN.out]; omega) d hd
    rw [hF] at hof hfl hsp
    have HF := Lib.hid (And.intro hF (And.intro hof (And.intro hfl hsp)))
    clear hF hof hfl hsp hk hm hk1 hk2
    go_enter Try.func5, Try.ntmps5
    go_wp2_with fail
    refine (hf.out).mono ?_
    rintro e w1 ⟨rfl, hb1⟩
    have Hb1 := Lib.hid hb1
    have HR := Lib.hid (reads_arg (R := []) (HB.out.below hb1))
    clear hb1
    have hpo := put_own (B := A) (cb := c) (p := b) (Own.start w1) HR.out (by rw [HN.out]; omega)
    rw [HF.out.1, HF.out.2.2.1, HN.out] at hpo
    have HPo := Lib.hid hpo
    clear hpo
    go_wp2_with fail
    refine (HPo.out).mono ?_
    rintro e w2 ⟨A1, c1, rfl, own1⟩
    have hc1 := own1.row_le (by decide) (by rw [bts_length, HF.out.2.2.1, Nat.mul_one])
    have HC1 := Lib.hid (And.intro hc1.1 (show c1 ≤ 9223372036854775807 by have h := hc1.2; unfold maxLen at h; exact h))
    have O1 := Lib.hid own1
    clear own1 hc1 HPo
    have z0 : ((0 : Int) != 0) = false := rfl
    have z1 : ((8 + (n : Int)) != ((n : Int) + 8)) = false := by simp; omega
    go_wp2_with fail
    refine (num_calls _ _).mono ?_
    rintro e w' ⟨rfl, rfl⟩
    go_wp2
    go_loop [9, 10] (fun t0 t1 => ∃ i : Nat, i ≤ m ∧ t0 = .int .i64 (2 ^ i : Nat) ∧ t1 = .int .i64 i) (fun _ t1 => m - (intOf t1).toNat)
    case atStart => exact ⟨0, Nat.zero_le _, rfl, rfl⟩
    case round =>
      obtain ⟨i, hi, rfl, rfl⟩ := hrel
      have hpw := pow_le (show i ≤ 7 by omega)
      have hps := Lib.hid (Nat.pow_succ (m := i) (n := 2))
      obtain ⟨x, hx⟩ : ∃ x, 2 ^ i = x := ⟨_, rfl⟩
      have HX := Lib.hid hx
      rw [hx] at hpw ⊢
      obtain ⟨hpw1, hpw2⟩ := hpw
      clear hx
      by_cases him : i < m
      · go_wp2
        go_round
        case rel => exact ⟨i + 1, by omega, by rw [hps.out, HX.out]; go_num, by go_num⟩
        case measure => simp [intOf]; omega
      · obtain rfl : i = m := by omega
        have hone := one_any (b := F) (cb := c1) O1.out (Reads.row (b := F)) (by rw [HF.out.2.2.1]; exact HC1.out.1) HC1.out.2 (by rw [HF.out.2.2.1]; omega)
        rw [HF.out.2.1.1, HF.out.2.1.2, HF.out.2.2.1] at hone
        have HO := Lib.hid hone
        clear hone
        go_wp2_with fail
        refine (HO.out).mono ?_
        rintro e w3 ⟨A2, c2, he2, own2⟩
        have hsm := same_own (xs := b) (ca := c2) (cb := c) own2 own2.rd (HR.out _ [_, _] own2) (by rw [HN.out]; omega)
        rw [HN.out] at he2 hsm
        subst he2
        have HS := Lib.hid hsm
        clear own2 hsm HO
        go_wp2_with fail
        refine (HS.out).mono ?_
        rintro e w4 ⟨rfl, own3⟩
        have own3' := own3.pick (L := [_, _]) [1]
        obtain ⟨f, hf2⟩ : ∃ f, F[k]? = some f := ⟨_, List.getElem?_eq_getElem (by rw [HF.out.2.2.1]; exact hkl)⟩
        obtain ⟨g, off, rfl, hcell, hfree⟩ := own3'.cell (bts_get hf2)
        have htn := turned (f := f) (x := x) ⟨hpw1, hpw2⟩
        have hst := own3'.store (j := k) (by rw [bts_length, HF.out.2.2.1]; exact hkl) (byteV (UInt8.ofNat (f.toNat ^^^ x)))
        have hbset : (bts F).set k (byteV (UInt8.ofNat (f.toNat ^^^ x))) = bts (F.set k (UInt8.ofNat (f.toNat ^^^ x))) := by simp [bts, List.map_set]
        rw [hbset, htn.1] at hst
        have hgd : F.getD k 0 = f := by rw [List.getD_eq_getElem?_getD, hf2]; rfl
        have herr := HF.out.2.2.2 (UInt8.ofNat (f.toNat ^^^ x)) (by rw [hgd]; exact htn.2)
        have hfb := byte_lt f
        have hxor := u8_xor_nat f.toNat x hfb (by omega)
        obtain ⟨v, hv⟩ : ∃ v, f.toNat ^^^ x = v := ⟨_, rfl⟩
        rw [hv] at hst herr hxor
        obtain ⟨F2, hF2⟩ : ∃ F2, F.set k (UInt8.ofNat v) = F2 := ⟨_, rfl⟩
        have hF2l : F2.length = 8 + n := by rw [← hF2, List.length_set, HF.out.2.2.1]
        rw [hF2] at hst herr
        have O4 := Lib.hid hst
        have HE := Lib.hid (And.intro herr hF2l)
        unfold byteV at hcell
        have i0 : (0 : Int) ≤ (k : Int) := by omega
        have i1 : (k : Int) < 8 + (n : Int) := by omega
        clear own3 own3' HS hf2 htn hst hbset hgd herr hv hF2 hF2l
        have hone := one_any (b := F2) (cb := c1) O4.out (Reads.row (b := F2)) (by rw [HE.out.2]; exact HC1.out.1) HC1.out.2 (by rw [HE.out.2]; omega)
        rw [HE.out.2] at hone
        obtain ⟨er, her⟩ : ∃ er, oneE F2 = er := ⟨_, rfl⟩
        have her2 : er ≠ 0 := by rw [← her]; exact HE.out.1
        have hq : ((er : Int) != 0) = true := by simp; omega
        obtain ⟨P, hP⟩ : ∃ P, oneP F2 = P := ⟨_, rfl⟩
        rw [her, hP] at hone
        have HO2 := Lib.hid hone
        clear hone her hP her2
        go_wp2_with fail
        refine (HO2.out).mono ?_
        rintro e w6 ⟨A4, c4, rfl, own5⟩
        have OF := Lib.hid own5
        clear own5 HO2
        go_wp2_with fail
        refine (num_calls _ _).mono ?_
        rintro e w' ⟨rfl, rfl⟩
        go_wp2_with fail
        refine (num_calls _ _).mono ?_
        rintro e w' ⟨rfl, rfl⟩
        go_wp2
        go_ret
        exact ⟨rfl, Hb1.out.trans (OF.out.below.mono Hb1.out.size)⟩
end Go.Proofs.Ytonomljdljcmaaa
