/-
  FrameBack as a call: it returns true, and what was there stays.
  Conditions: the lists lie in memory as they were handed in.
-/
import Derived.Test.YtonomljdljcmaaaPure
namespace Go.Proofs.Ytonomljdljcmaaa
set_option linter.unusedVariables false
set_option linter.unusedSimpArgs false
open Go.RowKit

theorem Own.mat_rdm {S : Nat → Prop} {w0 w : World} {R : List SP} {A : Option Addr} {n c : Nat} {L : List (List UInt8)} (h : Own S w0 w (SP.mat 22 5 (.slice A n c) (L.map bts) :: R)) : RdM w A L := fun k xs hk => by
  obtain ⟨vs, A1, c1, hl, h3, h4, hv, h5, -⟩ := h.mat_at (k := k) (xs := bts xs) (by rw [List.getElem?_map, hk]; rfl)
  obtain ⟨g, off, e0, h6, -⟩ := h5.swap.cell hv
  rw [bts_length] at h3 h6
  exact ⟨g, off, A1, c1, e0, h6, h3, h4, h5.rd⟩
theorem RdM.take {w : World} {A : Option Addr} {L : List (List UInt8)} (h : RdM w A L) (k : Nat) : RdM w A (L.take k) := fun i x hx => h i x (by
  rw [List.getElem?_take] at hx
  split at hx
  · exact hx
  · cases hx)
theorem span_take_succ {L : List (List UInt8)} {k : Nat} {p : List UInt8} (h : L[k]? = some p) : span (L.take (k + 1)) = span (L.take k) + 8 + p.length := by
  rw [List.take_add_one, h]
  show span (L.take k ++ [p]) = _
  rw [span_snoc]; omega
theorem span_take_le (L : List (List UInt8)) {i k : Nat} (h : i ≤ k) : span (L.take i) ≤ span (L.take k) := by
  have : L.take k = L.take i ++ (L.take k).drop i := by
    conv => lhs; rw [← List.take_append_drop i (L.take k)]
    rw [List.take_take, Nat.min_eq_left h]
  rw [this, span_append]
  omega
theorem total_fit {L : List (List UInt8)} (h : total L ≤ 4000) : ∀ x, x ∈ L → x.length ≤ 4000 := by
  induction L with
  | nil => intro x hx; simp at hx
  | cons y L ih =>
    have h1 : total (y :: L) = y.length + total L := by simp [total]
    intro x hx
    rcases List.mem_cons.1 hx with rfl | hx
    · omega
    · exact ih (by omega) x hx
theorem span_total (L : List (List UInt8)) : span L = 8 * L.length + total L := by
  induction L with
  | nil => rfl
  | cons y L ih =>
    have h1 : total (y :: L) = y.length + total L := by simp [total]
    rw [span_cons, List.length_cons, h1, ih]
    omega
theorem samelists_own {S : Nat → Prop} {w0 w : World} {L : List SP} {A B : Option Addr} {ca cb n m : Nat} (xs : List (List UInt8)) (hn : xs.length = n) (hm : xs.length = m) (h : Own S w0 w L) (hx : RdM w A xs) (hy : RdM w B xs) (hl : xs.length ≤ 1000000000) (hl2 : ∀ x, x ∈ xs → x.length ≤ 1000000000) :
    Calls Try.prog 27 #[.slice A n ca, .slice B m cb] w fun e w' => e = .returned (.bool true) ∧ Own S w0 w' L := by
  subst hn
  subst hm
  have := samelists_calls w A B ca cb xs xs hx hy hl hl2
  simp only [decide_true] at this
  exact this.mono fun e w' ⟨he, d, hw⟩ => ⟨he, by subst hw; exact Own.drewN h d⟩

set_option maxRecDepth 100000 in
set_option maxHeartbeats 8000000 in
theorem back_calls (w : World) (A : Option Addr) (c : Nat) (L : List (List UInt8)) (hL : RdM w A L) (hcap : L.length ≤ c) (hcap2 : c ≤ maxLen) (hll : ∀ x, x ∈ L → x.length ≤ maxLen) (hlen : L.length ≤ 140737488351232) (a : Int) (ha : -9223372036854775808 ≤ a ∧ a ≤ 9223372036854775807) :
    Calls Try.prog 10 #[.slice A L.length c, .int .i64 a] w fun e w' => e = .returned (.bool true) ∧ Below w.heap.size w w' := by
  have hf := Lib.hid (first_calls w)
  have HL := Lib.hid hL
  have hll' : ∀ x, x ∈ L → x.length ≤ 9223372036854775807 := fun x hx => by have := hll x hx; unfold maxLen at this; exact this
  have hcap3 : c ≤ 9223372036854775807 := by unfold maxLen at hcap2; exact hcap2
  have HLL := Lib.hid hll'
  clear hL hll hll' hcap2
  by_cases hfew : total L ≤ 4000
  · by_cases hmany : L.length ≤ 200
    · have hfew' := Lib.hid hfew
      have hd : decide (total L ≤ 4000) = true := by simpa using hfew
      have hfit : allFit L := fun x hx => by have := total_fit hfew x hx; omega
      have hspan : span L ≤ 5600 := by rw [span_total]; omega
      have hjl := joinB_span L
      obtain ⟨J, hJ⟩ : ∃ J, joinB L = J := ⟨_, rfl⟩
      have hfrs := joined L hfit
      rw [hJ] at hjl hfrs
      obtain ⟨n, hn⟩ : ∃ n, J.length = n := ⟨_, rfl⟩
      have hn2 : n ≤ 5600 := by omega
      -- the cut
      obtain ⟨r, hr⟩ : ∃ r, Int.tmod a ((n : Int) + 1) = r := ⟨_, rfl⟩
      have hr1 : -((n : Int) + 1) < r ∧ r < (n : Int) + 1 := by
        rw [← hr]
        have h1 := Int.tmod_lt_of_pos a (show (0 : Int) < (n : Int) + 1 by omega)
        have h2 := Int.lt_tmod_of_pos a (show (0 : Int) < (n : Int) + 1 by omega)
        exact ⟨h2, h1⟩
      obtain ⟨hr2, hr3⟩ := hr1
      have hk1 := Int.emod_nonneg (r + (n : Int) + 1) (show (n : Int) + 1 ≠ 0 by omega)
      have hk2 := Int.emod_lt_of_pos (r + (n : Int) + 1) (show (0 : Int) < (n : Int) + 1 by omega)
      obtain ⟨cut, hcut⟩ := Int.eq_ofNat_of_zero_le hk1
      rw [hcut] at hk2
      have hcutn : cut ≤ n := by omega
      obtain ⟨K, hK1, hK2, hK3, hK4, hK5⟩ := torn L hfit cut (by omega)
      rw [hJ] at hK2 hK5
      have HK := Lib.hid (And.intro hK2 (And.intro hK3 (And.intro hK4 hK5)))
      have HJ := Lib.hid (And.intro hJ (And.intro hjl (And.intro hfrs (And.intro hfit hn))))
      have hrem : ∀ w : World, True := fun _ => trivial
      clear hK2 hK3 hK4 hK5 hJ hjl hfrs hfit hfew hrem hk1 hk2 hspan hn
      go_enter Try.func10, Try.ntmps10
      go_wp2_with fail
      refine (hf.out).mono ?_
      rintro e w1 ⟨rfl, hb1⟩
      have Hb1 := Lib.hid hb1
      have HM := Lib.hid (HL.out.below hb1)
      have HU := Lib.hid (readsU_arg (R := []) HM.out)
      have HF := few_calls w1 A c 4000 L HM.out (by omega) (by omega) HLL.out
      rw [hd] at HF
      have HF' := Lib.hid HF
      clear hb1 HF hd
      go_wp2_with fail
      refine (HF'.out).mono ?_
      rintro e w' ⟨rfl, rfl⟩
      have HJn := Lib.hid (join_own (c := c) (Own.start w1) HU.out (by omega) (fun x hx => by have := total_fit hfew'.out x hx; omega))
      clear HF'
      go_wp2_with fail
      refine (HJn.out).mono ?_
      rintro e w2 (⟨-, A1, c1, rfl, own1⟩ | ⟨hno, -⟩)
      · rw [HJ.out.1, HJ.out.2.2.2.2] at own1 ⊢
        have hc1 := own1.row_le (by decide) (by rw [bts_length, HJ.out.2.2.2.2, Nat.mul_one])
        have HC1 := Lib.hid (And.intro hc1.1 (show c1 ≤ 9223372036854775807 by have h := hc1.2; unfold maxLen at h; exact h))
        have hc1' : n ≤ c1 := hc1.1
        have hc1'' : c1 ≤ 9223372036854775807 := HC1.out.2
        have hall := all_own (b := J) (cb := c1) own1 (Reads.row (b := J)) (by rw [HJ.out.2.2.2.2]; exact hc1.1) HC1.out.2 (by rw [HJ.out.2.2.2.2]; omega)
        have hae : allErr J = 0 := by rw [allErr, HJ.out.2.2.1, ← HJ.out.2.1, if_pos rfl]
        rw [HJ.out.2.2.1, hae, ← HJ.out.2.1, HJ.out.2.2.2.2] at hall
        have HA := Lib.hid hall
        clear own1 HJn hc1 hall hae
        go_wp2_with fail
        refine (HA.out).mono ?_
        rintro e w3 ⟨A2, c2, rfl, own2⟩
        have HS := Lib.hid (samelists_own (ca := c2) (cb := c) L rfl rfl own2 own2.mat_rdm (HU.out.rdm [_, _] own2) (by omega) (fun x hx => by have := total_fit hfew'.out x hx; omega))
        clear own2 HA
        go_wp2_with fail
        refine (HS.out).mono ?_
        rintro e w4 ⟨rfl, own3⟩
        have O3 := Lib.hid (own3.pick (L := [_, _]) [1])
        clear own3 HS
        have z0 : ((0 : Int) != 0) = false := rfl
        have zn : ((n : Int) != (n : Int)) = false := by simp
        go_wp2_with fail
        refine (num_calls _ _).mono ?_
        rintro e w' ⟨rfl, rfl⟩
        go_wp2_with fail
        refine (num_calls _ _).mono ?_
        rintro e w' ⟨rfl, rfl⟩
        go_wp2_with fail
        have hlt : (J.take cut).length = cut := by rw [List.length_take, HJ.out.2.2.2.2]; omega
        have hrf : Reads (fun _ => False) w1 [SP.row 5 1 (.slice A1 n c1) (bts J)] A1 (J.take cut) := fun W X hX => by
          have h := (hX.perm (List.perm_append_comm)).rd
          rw [← List.take_append_drop cut J, bts_append] at h
          exact h.front
        have hall := all_own (b := J.take cut) (cb := c1) O3.out hrf (by rw [hlt]; omega) hc1'' (by rw [hlt]; omega)
        rw [hlt, HK.out.1] at hall
        have hlk : (L.take K).length = K := by rw [List.length_take]; omega
        obtain ⟨at_, hat⟩ : ∃ x, span (L.take K) = x := ⟨_, rfl⟩
        have hat2 : at_ ≤ cut := by rw [← hat]; exact HK.out.2.1
        obtain ⟨er, her⟩ : ∃ x, allErr (J.take cut) = x := ⟨_, rfl⟩
        have her2 : (at_ = cut → er = 0) ∧ (at_ ≠ cut → er = 2) := by
          have h5 := HK.out.2.2.2
          rw [← her, allErr, HK.out.1, hat, hlt]
          rw [hat] at h5
          exact ⟨fun h => by rw [if_pos h], fun h => by rw [if_neg h]; exact h5 h⟩
        have HEr := Lib.hid her2
        rw [hlk, hat, her] at hall
        have HA2 := Lib.hid hall
        clear her her2
        have HAt := Lib.hid (And.intro hat hlk)
        clear hall hat hlk hlt hrf
        simp only [hcut]
        refine (HA2.out).mono ?_
        rintro e w5 ⟨A3, c3, rfl, own4⟩
        have O4 := Lib.hid own4
        clear own4 HA2
        go_wp2
        go_loop [16, 17] (fun t0 t => ∃ k : Nat, k ≤ K ∧ t0 = .int .i64 k ∧ t = .int .i64 (span (L.take k) : Nat)) (fun t0 _ => K - (intOf t0).toNat)
        case atStart => exact ⟨0, Nat.zero_le _, rfl, rfl⟩
        case round =>
          obtain ⟨k, hk, rfl, rfl⟩ := hrel
          have hsk := span_take_le L hk
          rw [HAt.out.1] at hsk
          obtain ⟨sp, hsp⟩ : ∃ x, span (L.take k) = x := ⟨_, rfl⟩
          have HSp := Lib.hid hsp
          rw [hsp] at hsk ⊢
          clear hsp
          by_cases hkL : k < L.length
          · obtain ⟨p, hpk⟩ : ∃ p, L[k]? = some p := ⟨_, List.getElem?_eq_getElem hkL⟩
            obtain ⟨b1, o1, A5, c5, rfl, -, -, hcell⟩ := HU.out k p hpk
            have hc5 := (hcell w5 [_, _] O4.out).1
            have hpl : p.length ≤ 4000 := total_fit hfew'.out p (List.mem_of_getElem? hpk)
            have hnext := Lib.hid (span_take_succ hpk)
            have hfits : k < K → sp + 8 + p.length ≤ cut := fun h => by
              have h1 := span_take_le L (show k + 1 ≤ K by omega)
              have h2 := hnext.out
              have h3 := HK.out.2.1
              have h4 := HSp.out
              omega
            have hnot : k = K → cut < sp + 8 + p.length := fun h => by
              subst h
              have h1 := HK.out.2.2.1 p hpk
              have h4 := HSp.out
              omega
            obtain ⟨pl, hpl2⟩ : ∃ x, p.length = x := ⟨_, rfl⟩
            have HPl := Lib.hid hpl2
            rw [hpl2] at hc5 hpl hfits hnot
            have i0 : (0 : Int) ≤ (k : Int) := by omega
            have i1 : (k : Int) < (L.length : Int) := by omega
            clear hpk hcell hpl2
            by_cases hkK : k < K
            · have h6 := hfits hkK
              have h7 : (sp : Int) + 8 + (pl : Int) ≤ (cut : Int) := by omega
              clear hfits hnot
              go_wp2
              go_round
              case rel =>
                refine ⟨k + 1, by omega, by go_num, ?_⟩
                have h8 := hnext.out
                rw [HSp.out, HPl.out] at h8
                rw [h8]; go_num
              case measure => simp [intOf]; omega
            · have h6 := hnot (by omega)
              have h7 : ¬ (sp : Int) + 8 + (pl : Int) ≤ (cut : Int) := by omega
              obtain rfl : k = K := by omega
              clear hfits hnot
              obtain rfl : sp = at_ := HSp.out.symm.trans HAt.out.1
              have HS2 := Lib.hid (samelists_own (w := w5) (A := A3) (B := some ⟨b1, o1, none⟩) (ca := c3) (cb := c) (L.take k) HAt.out.2 HAt.out.2 O4.out (O4.out.mat_rdm) ((HU.out.rdm [_, _] O4.out).take k) (by have := HAt.out.2; omega) (fun x hx => by have := total_fit hfew'.out x (List.mem_of_mem_take hx); omega))
              by_cases heq : sp = cut
              · have hq : ((sp : Int) == (cut : Int)) = true := by simp; omega
                obtain rfl : er = 0 := HEr.out.1 heq
                clear heq
                go_wp2_with fail
                refine (HS2.out).mono ?_
                rintro e w6 ⟨rfl, own5⟩
                have O5 := Lib.hid own5
                clear own5 HS2
                go_wp2_with fail
                refine (num_calls _ _).mono ?_
                rintro e w' ⟨rfl, rfl⟩
                go_wp2
                go_ret
                exact ⟨rfl, Hb1.out.trans (O5.out.below.mono Hb1.out.size)⟩
              · have hq : ((sp : Int) == (cut : Int)) = false := by simp; omega
                obtain rfl : er = 2 := HEr.out.2 heq
                clear heq
                go_wp2_with fail
                refine (HS2.out).mono ?_
                rintro e w6 ⟨rfl, own5⟩
                have O5 := Lib.hid own5
                clear own5 HS2
                go_wp2_with fail
                refine (num_calls _ _).mono ?_
                rintro e w' ⟨rfl, rfl⟩
                go_wp2
                go_ret
                exact ⟨rfl, Hb1.out.trans (O5.out.below.mono Hb1.out.size)⟩
          · obtain rfl : k = K := by omega
            obtain rfl : sp = at_ := HSp.out.symm.trans HAt.out.1
            have HS2 := Lib.hid (samelists_own (w := w5) (A := A3) (B := A) (ca := c3) (cb := c) (L.take k) HAt.out.2 HAt.out.2 O4.out (O4.out.mat_rdm) ((HU.out.rdm [_, _] O4.out).take k) (by have := HAt.out.2; omega) (fun x hx => by have := total_fit hfew'.out x (List.mem_of_mem_take hx); omega))
            by_cases heq : sp = cut
            · have hq : ((sp : Int) == (cut : Int)) = true := by simp; omega
              obtain rfl : er = 0 := HEr.out.1 heq
              clear heq
              go_wp2_with fail
              refine (HS2.out).mono ?_
              rintro e w6 ⟨rfl, own5⟩
              have O5 := Lib.hid own5
              clear own5 HS2
              go_wp2_with fail
              refine (num_calls _ _).mono ?_
              rintro e w' ⟨rfl, rfl⟩
              go_wp2
              go_ret
              exact ⟨rfl, Hb1.out.trans (O5.out.below.mono Hb1.out.size)⟩
            · have hq : ((sp : Int) == (cut : Int)) = false := by simp; omega
              obtain rfl : er = 2 := HEr.out.2 heq
              clear heq
              go_wp2_with fail
              refine (HS2.out).mono ?_
              rintro e w6 ⟨rfl, own5⟩
              have O5 := Lib.hid own5
              clear own5 HS2
              go_wp2_with fail
              refine (num_calls _ _).mono ?_
              rintro e w' ⟨rfl, rfl⟩
              go_wp2
              go_ret
              exact ⟨rfl, Hb1.out.trans (O5.out.below.mono Hb1.out.size)⟩
      · exact absurd HJ.out.2.2.2.1 hno
    · have hmany' : (200 : Int) < (L.length : Int) := by omega
      have hd : decide (total L ≤ 4000) = true := by simpa using hfew
      clear hfew
      go_enter Try.func10, Try.ntmps10
      go_wp2_with fail
      refine (hf.out).mono ?_
      rintro e w1 ⟨rfl, hb1⟩
      have HF := few_calls w1 A c 4000 L (HL.out.below hb1) hlen (by omega) HLL.out
      rw [hd] at HF
      have HF' := Lib.hid HF
      clear HF hd
      go_wp2_with fail
      refine (HF'.out).mono ?_
      rintro e w' ⟨rfl, rfl⟩
      go_wp2
      go_ret
      exact ⟨rfl, hb1⟩
  · have hd : decide (total L ≤ 4000) = false := by simpa using hfew
    clear hfew
    go_enter Try.func10, Try.ntmps10
    go_wp2_with fail
    refine (hf.out).mono ?_
    rintro e w1 ⟨rfl, hb1⟩
    have HF := few_calls w1 A c 4000 L (HL.out.below hb1) hlen (by omega) HLL.out
    rw [hd] at HF
    have HF' := Lib.hid HF
    clear HF hd
    go_wp2_with fail
    refine (HF'.out).mono ?_
    rintro e w' ⟨rfl, rfl⟩
    go_wp2
    go_ret
    exact ⟨rfl, hb1⟩
end Go.Proofs.Ytonomljdljcmaaa
