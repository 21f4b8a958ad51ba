/-
  The document's Get and One; the sum.
  Conditions: the bytes can be read in whatever world comes while no memory of theirs is turned.
-/
import Derived.Test.YtonomljdljcmaaaRPut
import Derived.Deep.RegionHeld3
import Derived.IntWalk
namespace Go.Proofs.Ytonomljdljcmaaa
set_option linter.unusedVariables false
set_option linter.unusedSimpArgs false
open Go.RowKit

set_option maxHeartbeats 400000 in
theorem sum_calls (w : World) (A : Option Addr) (c n : Nat) (b : List UInt8) (hn : b.length = n) (hb : Rd w A (bts b)) (hl : b.length ≤ 1000000000000) :
    Calls Try.prog 13 #[.slice A n c] w fun e w' => e = .returned (.int .u32 (crcSum b : Nat)) ∧ w = w' := by
  subst hn
  have HM := Lib.hid (more_calls w A c 4294967295 b hb (by omega) hl)
  have hm := crcMore_lt (s := 4294967295) (by omega) b
  have hnot := not32 _ hm
  have HC := Lib.hid (show crcSum b = 4294967295 - crcMore 4294967295 b from rfl)
  obtain ⟨m, hmm⟩ : ∃ m, crcMore 4294967295 b = m := ⟨_, rfl⟩
  rw [hmm] at hm hnot HC
  clear hb
  go_enter Try.func13, Try.ntmps13
  go_wp2_with fail
  refine (HM.out).mono ?_
  rintro e w' ⟨rfl, rfl⟩
  simp only [hmm]
  clear hmm
  go_wp2
  go_ret
  exact ⟨by rw [HC.out, ← hnot]; rfl, rfl⟩

set_option maxHeartbeats 1600000 in
theorem rget_out {w : World} {B : Option Addr} {cb n : Nat} {a : Int} (ha : ¬ (0 ≤ a ∧ a + 4 ≤ (n : Int))) (ha2 : -9223372036854775808 ≤ a ∧ a ≤ 9223372036854775807) (hn : n ≤ 1000000000) :
    Calls Try.prog 22 #[.slice B n cb, .int .i64 a] w fun e w' => e = .returned (.tuple #[.slice none 0 0, .int .i64 0, .int .i64 2]) ∧ w = w' := by
  have hs : ¬ 0 ≤ a ∨ (0 ≤ a ∧ (n : Int) < a) ∨ (0 ≤ a ∧ ¬ (n : Int) < a ∧ (n : Int) - a < 4) := by omega
  rcases hs with h1 | ⟨h1, h2⟩ | ⟨h1, h2, h3⟩
  · have h1' : a < 0 := by omega
    go_enter Try.func22, Try.ntmps22
    go_wp2
    go_ret3
    exact ⟨rfl, rfl⟩
  · go_enter Try.func22, Try.ntmps22
    go_wp2
    go_ret3
    exact ⟨rfl, rfl⟩
  · go_enter Try.func22, Try.ntmps22
    go_wp2
    go_ret3
    exact ⟨rfl, rfl⟩

theorem bytes_at {S : Nat → Prop} {w0 w : World} {R : List SP} (B : Option Addr) (cb n : Nat) (b : List UInt8) (hn : b.length = n) (h : Own S w0 w R) (hb : Reads S w0 R B b) (hbl : b.length ≤ 1000000000) :
    Calls Try.prog 25 #[.slice B n cb] w fun e w' => ∃ A' c', e = .returned (.slice A' n c') ∧ Own S w0 w' (SP.row 5 1 (.slice A' n c') (bts b) :: R) := by
  subst hn
  exact bytes_own h hb hbl

theorem rsum_at (w : World) (A : Option Addr) (c n : Nat) (b : List UInt8) (hn : b.length = n) (hb : Rd w A (bts b)) (hl : n ≤ 1000000000000) :
    Calls Try.prog 18 #[.slice A n c] w fun e w' => e = .returned (.int .u32 (crcSum b : Nat)) ∧ w = w' := by
  subst hn
  exact rsum_calls w A c b hb hl

set_option maxHeartbeats 8000000 in
theorem rget_own {S : Nat → Prop} {w0 w : World} {R : List SP} {B : Option Addr} {cb a : Nat} {b : List UInt8} (h : Own S w0 w R) (hb : Reads S w0 R B b) (hcb : b.length ≤ cb) (hcb2 : cb ≤ 9223372036854775807) (hbl : b.length ≤ 1000000000) (ha : a + 4 ≤ b.length) :
    Calls Try.prog 22 #[.slice B b.length cb, .int .i64 a] w fun e w' =>
      (getErr (b.drop a) = 0 ∧ ∃ A' c', e = .returned (.tuple #[.slice A' (pay (b.drop a)).length c', .int .i64 (8 + (pay (b.drop a)).length : Nat), .int .i64 0]) ∧ Own S w0 w' (SP.row 5 1 (.slice A' (pay (b.drop a)).length c') (bts (pay (b.drop a))) :: R)) ∨
      (getErr (b.drop a) ≠ 0 ∧ e = .returned (.tuple #[.slice none 0 0, .int .i64 0, .int .i64 (getErr (b.drop a) : Nat)]) ∧ Own S w0 w' R) := by
  obtain ⟨x, hx⟩ : ∃ x, b[0]? = some x := ⟨_, List.getElem?_eq_getElem (by omega)⟩
  obtain ⟨g, off, rfl, -⟩ := hb w [] h 0 _ (bts_get hx)
  obtain ⟨b0, b1, b2, b3, k0, k1, k2, k3, hrd⟩ := four_at (hb w [] h) ha
  obtain ⟨n, hn⟩ : ∃ n, readN (b.drop a) = n := ⟨_, rfl⟩
  rw [hn] at hrd
  have hnl : n < 4294967296 := by rw [← hn]; exact readN_lt _
  have hr := rwhole_calls w g (off + a) 4 (cb - a) b0 b1 b2 b3 (by omega) k0 k1 k2 k3
  rw [hrd] at hr
  have HR := Lib.hid hr
  have H := Lib.hid (And.intro h hb)
  have hdl : (b.drop a).length = b.length - a := List.length_drop
  have hne : cb ≠ a := by omega
  have s1 : (a : Int) ≤ (b.length : Int) := by omega
  have g1 : decide ((a : Int) < 0) = false := by simp
  have g2 : decide (b.length < a) = false := by simp; omega
  have g3 : decide ((b.length : Int) - (a : Int) < 4) = false := by simp; omega
  clear hr hrd k0 k1 k2 k3 hx h hb
  by_cases h1 : 1048576 < n
  · have he : getErr (b.drop a) = 3 := by simp only [getErr, hn]; rw [if_neg (by omega), if_pos h1]
    rw [he]
    clear hdl he hn
    go_enter Try.func22, Try.ntmps22
    go_wp2_with fail
    refine (HR.out).mono ?_
    rintro e w' ⟨rfl, d, rfl⟩
    go_wp2
    go_ret3
    exact .inr ⟨by decide, rfl, Own.drewN H.out.1 d⟩
  · by_cases h2 : b.length - a < 8 + n
    · have he : getErr (b.drop a) = 2 := by simp only [getErr, hn]; rw [if_neg (by omega), if_neg h1, if_pos (by omega)]
      rw [he]
      clear hdl he hn
      have h2' : (b.length : Int) - (a : Int) < 8 + (n : Int) := by omega
      go_enter Try.func22, Try.ntmps22
      go_wp2_with fail
      refine (HR.out).mono ?_
      rintro e w' ⟨rfl, d, rfl⟩
      go_wp2
      go_ret3
      exact .inr ⟨by decide, rfl, Own.drewN H.out.1 d⟩
    · obtain ⟨p, hp⟩ : ∃ p, pay (b.drop a) = p := ⟨_, rfl⟩
      have hp1 : p = ((b.drop a).drop 8).take n := by rw [← hp, pay, hn]
      have hpl : p.length = n := by rw [hp1, List.length_take, List.length_drop, hdl]; omega
      obtain ⟨q, hq⟩ : ∃ q, (b.drop a).take 4 = q := ⟨_, rfl⟩
      have hql : q.length = 4 := by rw [← hq, List.length_take, hdl]; omega
      obtain ⟨s, hs⟩ : ∃ s, crcSum (q ++ p) = s := ⟨_, rfl⟩
      obtain ⟨m, hm⟩ : ∃ m, readN ((b.drop a).drop 4) = m := ⟨_, rfl⟩
      have hml : m < 4294967296 := by rw [← hm]; exact readN_lt _
      have hsl : s < 4294967296 := by rw [← hs]; exact crcSum_lt _
      have he : getErr (b.drop a) = if s = m then 0 else 5 := by
        have : 4294967295 - crcMore (crcMore 4294967295 q) p = s := by rw [← hs, crcSum, crcMore_append]
        simp only [getErr, hn, hp, hm, hq, this]; rw [if_neg (by omega), if_neg h1, if_neg (by omega)]
      have hrq : Reads S w0 R (some ⟨g, off + a, none⟩) q := fun W X hX => by rw [← hq]; exact rd_sub (H.out.2 W X hX) a 4
      have hrp : Reads S w0 R (if cb = a + 8 then some ⟨g, off, none⟩ else some ⟨g, off + (a + 8), none⟩) p := fun W X hX => by
        by_cases hc : cb = a + 8
        · have : p = [] := List.length_eq_zero_iff.1 (by omega)
          rw [this]
          exact Rd.nil _ _
        · rw [if_neg hc, hp1, List.drop_drop]
          exact rd_sub (H.out.2 W X hX) (a + 8) n
      have hw37 : ∀ W, Own S w0 W R → ∀ n' c, 4 ≤ n' → Calls Try.prog 37 #[.slice (some ⟨g, off + (a + 4), none⟩) n' c] W fun e w' => e = .returned (.int .i64 (m : Nat)) ∧ ∃ d, w' = W.drewN d := by
        intro W hW n' c hn'
        obtain ⟨c0, c1, c2, c3, j0, j1, j2, j3, jr⟩ := four_at (a := a + 4) (H.out.2 W [] hW) (by omega)
        have := rwhole_calls W g (off + (a + 4)) n' c c0 c1 c2 c3 hn' j0 j1 j2 j3
        rwa [jr, ← List.drop_drop, hm] at this
      have HC := Lib.hid (And.intro hrq (And.intro hrp hw37))
      have HP := Lib.hid (And.intro hpl (And.intro hp (And.intro hql hs)))
      have HE := Lib.hid he
      have h2' : ¬ (b.length : Int) - (a : Int) < 8 + (n : Int) := by omega
      have y1 : (a : Int) + 8 + (n : Int) ≤ (b.length : Int) := by omega
      have e1 : decide ((1048576 : Int) < (n : Int)) = false := by simp; omega
      have e2 : decide ((b.length : Int) - (a : Int) < 8 + (n : Int)) = false := by simp; omega
      clear hrq hrp hw37 hp hp1 hpl hql hq hs hm he hdl hn
      go_enter Try.func22, Try.ntmps22
      go_wp2_with fail
      refine (HR.out).mono ?_
      rintro e w' ⟨rfl, d, rfl⟩
      go_wp2_with fail
      · rename_i hcb3
        have hn0 := Lib.hid (show n = 0 by omega)
        have hrdp : ∀ W, Own S w0 W R → Rd W (some ⟨g, off, none⟩) (bts p) := fun W _ => by
          have : p = [] := List.length_eq_zero_iff.1 (by rw [HP.out.1]; exact hn0.out)
          rw [this]
          exact Rd.nil _ _
        have m1 := Lib.hid (show 4 + n ≤ maxLen by unfold maxLen; omega)
        have m2 := Lib.hid (show (4 + n) * 1 ≤ 140737488355328 by omega)
        have m3 := Lib.hid (show 4 + n ≤ 1000000000000 by omega)
        have m4 := Lib.hid (show q.length ≤ 1000000000 by rw [HP.out.2.2.1]; omega)
        have u9 : ¬ cb = a + 4 := by omega
        have t1 : 0 ≤ (a : Int) + 4 := by omega
        have t2 : (a : Int) + 4 ≤ (a : Int) + 8 := by omega
        have t3 : (a : Int) + 8 ≤ (cb : Int) := by omega
        have t4 : 0 ≤ (a : Int) + 8 := by omega
        have u1 : ((a : Int) + 4).toNat = a + 4 := by omega
        have u2 : ((a : Int) + 8).toNat = a + 8 := by omega
        have u3 : a + 8 - (a + 4) = 4 := by omega
        have u4 : a + 4 - a = 4 := by omega
        have u5 : max ((a : Int) + 8) 0 = (a : Int) + 8 := by omega
        have u6 : max ((a : Int) + 4) 0 = (a : Int) + 4 := by omega
        have u7 : (a : Int) ≤ (a : Int) + 4 := by omega
        have u8 : (a : Int) + 4 ≤ (cb : Int) := by omega
        have v1 : IntKind.i64.wrap ((a : Int) + 4) = (a : Int) + 4 := IntWalk.i64_in _ (by omega)
        have v2 : IntKind.i64.wrap ((a : Int) + 8) = (a : Int) + 8 := IntWalk.i64_in _ (by omega)
        have HW := Lib.hid (Own.drew (Own.drewN H.out.1 d))
        go_region_held3 (fun _ => True) (trivial) (first
          | (refine step_call rfl 37 _ _ rfl Try.func37 (by kernel_rfl) (by kernel_rfl) #[.slice (some ⟨g, off + (a + 4), none⟩) 4 4] (by rfl) ?_; refine (HC.out.2.2 _ HW.out 4 _ (Nat.le_refl 4)).mono ?_; rintro e w' ⟨rfl, d2, rfl⟩; refine ⟨_, rfl, ?_⟩; have HW2 := Lib.hid (Own.drewN HW.out d2))
          | (refine step_call rfl 25 _ _ rfl Try.func25 (by kernel_rfl) (by kernel_rfl) #[.slice (some ⟨g, off + a, none⟩) 4 8] (by rfl) ?_; refine (bytes_at _ _ 4 q HP.out.2.2.1 HW2.out HC.out.1 m4.out).mono ?_; rintro e w' ⟨A1, c1, rfl, own1⟩; refine ⟨_, rfl, ?_⟩; have O1 := Lib.hid own1; clear own1)
          | (refine step_append_move rfl (.tmp 59) (.tmp 60) 22 rfl 5 (.int .u8 0) 1 1 Try.underlying22 Try.info5 rfl (by decide) rfl (by rw [bts_length, HP.out.2.2.1]) O1.out (Below.refl _ _) (some ⟨g, off, none⟩) n 0 (bts p) rfl (by rw [bts_length, Nat.mul_one]; exact HP.out.1) (hrdp _ (O1.out.pop)) bts_one m1.out m2.out ?_; rintro A2 c2 w2 own2; have O2 := Lib.hid own2; clear own2)
          | (refine step_call rfl 18 _ _ rfl Try.func18 (by kernel_rfl) (by kernel_rfl) #[.slice A2 (4 + n) c2] (by rfl) ?_; refine (rsum_at _ _ _ (4 + n) (q ++ p) (by rw [List.length_append, HP.out.1, HP.out.2.2.1]) (by rw [bts_append]; exact O2.out.rd) m3.out).mono ?_; rintro e w' ⟨rfl, rfl⟩; refine ⟨_, rfl, ?_⟩))
        all_goals
          have OF := Lib.hid (O2.out.pop)
          clear t1 t2 t3 t4 u1 u2 u3 u4 u5 u6 u7 u8 v1 v2 u9
          rw [HP.out.2.2.2]
          by_cases hsum : s = m
          · have Hsum := Lib.hid hsum
            have hq : ((m : Int) != IntKind.i64.wrap (s : Int)) = false := by rw [IntWalk.i64_in _ (by omega)]; simp; omega
            have HB := Lib.hid (bytes_at (some ⟨g, off, none⟩) 0 n p HP.out.1 OF.out (fun W X hX => by have : p = [] := List.length_eq_zero_iff.1 (by rw [HP.out.1]; exact hn0.out); rw [this]; exact Rd.nil _ _) (by rw [HP.out.1]; omega))
            clear hsum
            go_wp2_with fail
            refine (HB.out).mono ?_
            rintro e w' ⟨A3, c3, rfl, own3⟩
            have O3 := Lib.hid own3
            clear own3
            go_wp2
            go_ret3
            refine .inl ⟨by rw [HE.out, if_pos Hsum.out], A3, c3, ?_, ?_⟩
            · rw [HP.out.2.1, HP.out.1]
              rfl
            · rw [HP.out.2.1, HP.out.1]
              exact O3.out
          · have Hsum := Lib.hid hsum
            have hq : ((m : Int) != IntKind.i64.wrap (s : Int)) = true := by rw [IntWalk.i64_in _ (by omega)]; simp; omega
            clear hsum
            go_wp2
            go_ret3
            refine .inr ⟨?_, ?_, OF.out⟩
            · rw [HE.out, if_neg Hsum.out]; decide
            · rw [HE.out, if_neg Hsum.out]; rfl
      · have hrdp : ∀ W, Own S w0 W R → Rd W (some ⟨g, off + (a + 8), none⟩) (bts p) := fun W hW => by
          have h1 := HC.out.2.1 W [] hW
          rwa [if_neg (by assumption)] at h1
        have hrdp2 : Reads S w0 R (some ⟨g, off + (a + 8), none⟩) p := fun W X hX => by
          have h1 := HC.out.2.1 W X hX
          rwa [if_neg (by assumption)] at h1
        have m1 := Lib.hid (show 4 + n ≤ maxLen by unfold maxLen; omega)
        have m2 := Lib.hid (show (4 + n) * 1 ≤ 140737488355328 by omega)
        have m3 := Lib.hid (show 4 + n ≤ 1000000000000 by omega)
        have m4 := Lib.hid (show q.length ≤ 1000000000 by rw [HP.out.2.2.1]; omega)
        have u9 : ¬ cb = a + 4 := by omega
        have t1 : 0 ≤ (a : Int) + 4 := by omega
        have t2 : (a : Int) + 4 ≤ (a : Int) + 8 := by omega
        have t3 : (a : Int) + 8 ≤ (cb : Int) := by omega
        have t4 : 0 ≤ (a : Int) + 8 := by omega
        have u1 : ((a : Int) + 4).toNat = a + 4 := by omega
        have u2 : ((a : Int) + 8).toNat = a + 8 := by omega
        have u3 : a + 8 - (a + 4) = 4 := by omega
        have u4 : a + 4 - a = 4 := by omega
        have u5 : max ((a : Int) + 8) 0 = (a : Int) + 8 := by omega
        have u6 : max ((a : Int) + 4) 0 = (a : Int) + 4 := by omega
        have u7 : (a : Int) ≤ (a : Int) + 4 := by omega
        have u8 : (a : Int) + 4 ≤ (cb : Int) := by omega
        have v1 : IntKind.i64.wrap ((a : Int) + 4) = (a : Int) + 4 := IntWalk.i64_in _ (by omega)
        have v2 : IntKind.i64.wrap ((a : Int) + 8) = (a : Int) + 8 := IntWalk.i64_in _ (by omega)
        have HW := Lib.hid (Own.drew (Own.drewN H.out.1 d))
        go_region_held3 (fun _ => True) (trivial) (first
          | (refine step_call rfl 37 _ _ rfl Try.func37 (by kernel_rfl) (by kernel_rfl) #[.slice (some ⟨g, off + (a + 4), none⟩) 4 (cb - (a + 4))] (by rfl) ?_; refine (HC.out.2.2 _ HW.out 4 _ (Nat.le_refl 4)).mono ?_; rintro e w' ⟨rfl, d2, rfl⟩; refine ⟨_, rfl, ?_⟩; have HW2 := Lib.hid (Own.drewN HW.out d2))
          | (refine step_call rfl 25 _ _ rfl Try.func25 (by kernel_rfl) (by kernel_rfl) #[.slice (some ⟨g, off + a, none⟩) 4 (cb - a)] (by rfl) ?_; refine (bytes_at _ _ 4 q HP.out.2.2.1 HW2.out HC.out.1 m4.out).mono ?_; rintro e w' ⟨A1, c1, rfl, own1⟩; refine ⟨_, rfl, ?_⟩; have O1 := Lib.hid own1; clear own1)
          | (refine step_append_move rfl (.tmp 59) (.tmp 60) 22 rfl 5 (.int .u8 0) 1 1 Try.underlying22 Try.info5 rfl (by decide) rfl (by rw [bts_length, HP.out.2.2.1]) O1.out (Below.refl _ _) (some ⟨g, off + (a + 8), none⟩) n (cb - (a + 8)) (bts p) rfl (by rw [bts_length, Nat.mul_one]; exact HP.out.1) (hrdp _ (O1.out.pop)) bts_one m1.out m2.out ?_; rintro A2 c2 w2 own2; have O2 := Lib.hid own2; clear own2)
          | (refine step_call rfl 18 _ _ rfl Try.func18 (by kernel_rfl) (by kernel_rfl) #[.slice A2 (4 + n) c2] (by rfl) ?_; refine (rsum_at _ _ _ (4 + n) (q ++ p) (by rw [List.length_append, HP.out.1, HP.out.2.2.1]) (by rw [bts_append]; exact O2.out.rd) m3.out).mono ?_; rintro e w' ⟨rfl, rfl⟩; refine ⟨_, rfl, ?_⟩))
        all_goals
          have OF := Lib.hid (O2.out.pop)
          clear t1 t2 t3 t4 u1 u2 u3 u4 u5 u6 u7 u8 v1 v2 u9
          rw [HP.out.2.2.2]
          by_cases hsum : s = m
          · have Hsum := Lib.hid hsum
            have hq : ((m : Int) != IntKind.i64.wrap (s : Int)) = false := by rw [IntWalk.i64_in _ (by omega)]; simp; omega
            have HB := Lib.hid (bytes_at (some ⟨g, off + (a + 8), none⟩) (cb - (a + 8)) n p HP.out.1 OF.out hrdp2 (by rw [HP.out.1]; omega))
            clear hsum
            go_wp2_with fail
            refine (HB.out).mono ?_
            rintro e w' ⟨A3, c3, rfl, own3⟩
            have O3 := Lib.hid own3
            clear own3
            go_wp2
            go_ret3
            refine .inl ⟨by rw [HE.out, if_pos Hsum.out], A3, c3, ?_, ?_⟩
            · rw [HP.out.2.1, HP.out.1]
              rfl
            · rw [HP.out.2.1, HP.out.1]
              exact O3.out
          · have Hsum := Lib.hid hsum
            have hq : ((m : Int) != IntKind.i64.wrap (s : Int)) = true := by rw [IntWalk.i64_in _ (by omega)]; simp; omega
            clear hsum
            go_wp2
            go_ret3
            refine .inr ⟨?_, ?_, OF.out⟩
            · rw [HE.out, if_neg Hsum.out]; decide
            · rw [HE.out, if_neg Hsum.out]; rfl
end Go.Proofs.Ytonomljdljcmaaa
