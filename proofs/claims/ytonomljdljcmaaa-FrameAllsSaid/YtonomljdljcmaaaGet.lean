/-
  Get: the frame at a place.
  Conditions: the bytes can be read in whatever world comes while no memory of theirs is turned.
-/
import Derived.Test.YtonomljdljcmaaaLay
import Derived.Test.YtonomljdljcmaaaStepCall
import Derived.Deep.RegionLaw
namespace Go.Proofs.Ytonomljdljcmaaa
set_option linter.unusedVariables false
set_option linter.unusedSimpArgs false
open Go.RowKit

def pay (r : List UInt8) : List UInt8 := (r.drop 8).take (readN r)
def getErr (r : List UInt8) : Nat :=
  if r.length < 4 then 2 else if 1048576 < readN r then 3 else if r.length < 8 + readN r then 2 else if 4294967295 - crcMore (crcMore 4294967295 (r.take 4)) (pay r) = readN (r.drop 4) then 0 else 5
theorem readN_lt (r : List UInt8) : readN r < 4294967296 := by
  have h0 := byte_lt (r.getD 0 0)
  have h1 := byte_lt (r.getD 1 0)
  have h2 := byte_lt (r.getD 2 0)
  have h3 := byte_lt (r.getD 3 0)
  simp only [readN]
  omega
/-- Four bytes at a place, as read asks for them. -/
theorem four_at {w : World} {g off a : Nat} {b : List UInt8} (h : Rd w (some ⟨g, off, none⟩) (bts b)) (ha : a + 4 ≤ b.length) :
    ∃ b0 b1 b2 b3, w.cell? ⟨g, off + a, none⟩ = some (byteV b0) ∧ w.cell? ⟨g, off + a + 1, none⟩ = some (byteV b1) ∧ w.cell? ⟨g, off + a + 2, none⟩ = some (byteV b2) ∧ w.cell? ⟨g, off + a + 3, none⟩ = some (byteV b3) ∧
      b0.toNat + b1.toNat * 256 + b2.toNat * 65536 + b3.toNat * 16777216 = readN (b.drop a) := by
  have key : ∀ j, j < 4 → ∃ x, b[a + j]? = some x ∧ (b.drop a).getD j 0 = x ∧ w.cell? ⟨g, off + a + j, none⟩ = some (byteV x) := fun j hj => by
    obtain ⟨x, hx⟩ : ∃ x, b[a + j]? = some x := ⟨_, List.getElem?_eq_getElem (by omega)⟩
    obtain ⟨g', off', e, hc⟩ := h (a + j) _ (bts_get hx)
    injection e with e
    injection e with e1 e2
    subst e1 e2
    refine ⟨x, hx, ?_, by rw [Nat.add_assoc]; exact hc⟩
    rw [List.getD_eq_getElem?_getD, List.getElem?_drop, hx]
    rfl
  obtain ⟨x0, _, d0, c0⟩ := key 0 (by omega)
  obtain ⟨x1, _, d1, c1⟩ := key 1 (by omega)
  obtain ⟨x2, _, d2, c2⟩ := key 2 (by omega)
  obtain ⟨x3, _, d3, c3⟩ := key 3 (by omega)
  exact ⟨x0, x1, x2, x3, c0, c1, c2, c3, by simp only [readN, d0, d1, d2, d3]⟩

set_option maxHeartbeats 1600000 in
theorem get_out {w : World} {B : Option Addr} {cb n : Nat} {a : Int} (ha : ¬ (0 ≤ a ∧ a + 4 ≤ (n : Int))) (ha2 : -9223372036854775808 ≤ a ∧ a ≤ 9223372036854775807) (hn : n ≤ 1000000000) :
    Calls Try.prog 20 #[.slice B n cb, .int .i64 a] w fun e w' => e = .returned (.tuple #[.slice none 0 0, .int .i64 0, .int .i64 2]) ∧ w = w' := by
  have hs : ¬ 0 ≤ a ∨ (0 ≤ a ∧ (n : Int) < a) ∨ (0 ≤ a ∧ ¬ (n : Int) < a ∧ (n : Int) - a < 4) := by omega
  rcases hs with h1 | ⟨h1, h2⟩ | ⟨h1, h2, h3⟩
  · have h1' : a < 0 := by omega
    go_enter Try.func20, Try.ntmps20
    go_wp2
    go_ret3
    exact ⟨rfl, rfl⟩
  · go_enter Try.func20, Try.ntmps20
    go_wp2
    go_ret3
    exact ⟨rfl, rfl⟩
  · go_enter Try.func20, Try.ntmps20
    go_wp2
    go_ret3
    exact ⟨rfl, rfl⟩

theorem more_at (w : World) (A : Option Addr) (c s n : Nat) (b : List UInt8) (hn : b.length = n) (hb : Rd w A (bts b)) (hs : s < 4294967296) (hl : n ≤ 1000000000000) :
    Calls Try.prog 32 #[.int .u32 s, .slice A n c] w fun e w' => e = .returned (.int .u32 (crcMore s b)) ∧ w = w' := by
  subst hn
  exact more_calls w A c s b hb hs hl
theorem rd_sub {w : World} {g off : Nat} {b : List UInt8} (h : Rd w (some ⟨g, off, none⟩) (bts b)) (a m : Nat) : Rd w (some ⟨g, off + a, none⟩) (bts ((b.drop a).take m)) := by
  intro j u hu
  rw [bts_take, bts_drop] at hu
  rw [List.getElem?_take] at hu
  split at hu
  · rw [List.getElem?_drop] at hu
    obtain ⟨g', off', e, hc⟩ := h _ _ hu
    injection e with e
    injection e with e1 e2
    subst e1 e2
    exact ⟨g, off + a, rfl, by rw [Nat.add_assoc]; exact hc⟩
  · cases hu

set_option maxHeartbeats 4000000 in
theorem get_own {S : Nat → Prop} {w0 w : World} {R : List SP} {B : Option Addr} {cb a : Nat} {b : List UInt8} (h : Own S w0 w R) (hb : Reads S w0 R B b) (hcb : b.length ≤ cb) (hcb2 : cb ≤ 9223372036854775807) (hbl : b.length ≤ 1000000000) (ha : a + 4 ≤ b.length) :
    Calls Try.prog 20 #[.slice B b.length cb, .int .i64 a] w fun e w' =>
      (getErr (b.drop a) = 0 ∧ ∃ A' c', e = .returned (.tuple #[.slice A' (pay (b.drop a)).length c', .int .i64 (8 + (pay (b.drop a)).length : Nat), .int .i64 0]) ∧ Own S w0 w' (SP.row 5 1 (.slice A' (pay (b.drop a)).length c') (bts (pay (b.drop a))) :: R)) ∨
      (getErr (b.drop a) ≠ 0 ∧ e = .returned (.tuple #[.slice none 0 0, .int .i64 0, .int .i64 (getErr (b.drop a) : Nat)]) ∧ Own S w0 w' R) := by
  obtain ⟨x, hx⟩ : ∃ x, b[0]? = some x := ⟨_, List.getElem?_eq_getElem (by omega)⟩
  obtain ⟨g, off, rfl, -⟩ := hb w [] h 0 _ (bts_get hx)
  obtain ⟨b0, b1, b2, b3, k0, k1, k2, k3, hrd⟩ := four_at (hb w [] h) ha
  obtain ⟨n, hn⟩ : ∃ n, readN (b.drop a) = n := ⟨_, rfl⟩
  rw [hn] at hrd
  have hnl : n < 4294967296 := by rw [← hn]; exact readN_lt _
  have hr := read_calls w g (off + a) (b.length - a) (cb - a) b0 b1 b2 b3 (by omega) k0 k1 k2 k3
  rw [hrd] at hr
  have HR := Lib.hid hr
  have H := Lib.hid (And.intro h hb)
  have hdl : (b.drop a).length = b.length - a := List.length_drop
  have hne : cb ≠ a := by omega
  clear hr hrd k0 k1 k2 k3 hx h hb
  by_cases h1 : 1048576 < n
  · have he : getErr (b.drop a) = 3 := by simp only [getErr, hn]; rw [if_neg (by omega), if_pos h1]
    rw [he]
    clear hdl he hn
    go_enter Try.func20, Try.ntmps20
    go_wp2_with fail
    refine (HR.out).mono ?_
    rintro e w' ⟨rfl, d, rfl⟩
    go_wp2
    go_ret3
    exact .inr ⟨by decide, rfl, Own.drewN H.out.1 d⟩
  · by_cases h2 : b.length - a < 8 + n
    · have he : getErr (b.drop a) = 2 := by simp only [getErr, hn]; rw [if_neg (by omega), if_neg h1, if_pos (by omega)]
      rw [he]
      clear hdl he hn
      have h2' : (b.length : Int) - (a : Int) < 8 + (n : Int) := by omega
      go_enter Try.func20, Try.ntmps20
      go_wp2_with fail
      refine (HR.out).mono ?_
      rintro e w' ⟨rfl, d, rfl⟩
      go_wp2
      go_ret3
      exact .inr ⟨by decide, rfl, Own.drewN H.out.1 d⟩
    · obtain ⟨p, hp⟩ : ∃ p, pay (b.drop a) = p := ⟨_, rfl⟩
      have hp1 : p = ((b.drop a).drop 8).take n := by rw [← hp, pay, hn]
      have hpl : p.length = n := by rw [hp1, List.length_take, List.length_drop, hdl]; omega
      obtain ⟨s1, hs1⟩ : ∃ s, crcMore 4294967295 ((b.drop a).take 4) = s := ⟨_, rfl⟩
      have hs1l : s1 < 4294967296 := by rw [← hs1]; exact crcMore_lt (by omega) _
      obtain ⟨s2, hs2⟩ : ∃ s, crcMore s1 p = s := ⟨_, rfl⟩
      have hs2l : s2 < 4294967296 := by rw [← hs2]; exact crcMore_lt hs1l _
      obtain ⟨m, hm⟩ : ∃ m, readN ((b.drop a).drop 4) = m := ⟨_, rfl⟩
      have hml : m < 4294967296 := by rw [← hm]; exact readN_lt _
      have he : getErr (b.drop a) = if 4294967295 - s2 = m then 0 else 5 := by simp only [getErr, hn, hs1, hp, hs2, hm]; rw [if_neg (by omega), if_neg h1, if_neg (by omega)]
      have hcall : ∀ W, Own S w0 W R → (∀ c, Calls Try.prog 32 #[.int .u32 4294967295, .slice (some ⟨g, off + a, none⟩) 4 c] W fun e w' => e = .returned (.int .u32 s1) ∧ W = w') ∧
          (∀ c, Calls Try.prog 32 #[.int .u32 s1, .slice (some ⟨g, off + a + 8, none⟩) n c] W fun e w' => e = .returned (.int .u32 s2) ∧ W = w') ∧
          (n = 0 → ∀ c, Calls Try.prog 32 #[.int .u32 s1, .slice (some ⟨g, off + a, none⟩) n c] W fun e w' => e = .returned (.int .u32 s2) ∧ W = w') ∧
          (∀ n c, 4 ≤ n → Calls Try.prog 36 #[.slice (some ⟨g, off + a + 4, none⟩) n c] W fun e w' => e = .returned (.int .u32 (m : Nat)) ∧ ∃ d, w' = W.drewN d) ∧
          Rd W (some ⟨g, off + a + 8, none⟩) (bts p) ∧ (n = 0 → Rd W (some ⟨g, off + a, none⟩) (bts p)) := by
        intro W hW
        have hrd := H.out.2 W [] hW
        have hrp : Rd W (some ⟨g, off + a + 8, none⟩) (bts p) := by rw [hp1, List.drop_drop, Nat.add_assoc]; exact rd_sub hrd (a + 8) n
        have hr0 : n = 0 → Rd W (some ⟨g, off + a, none⟩) (bts p) := fun h0 => by
          have : p = [] := List.length_eq_zero_iff.1 (by omega)
          rw [this]
          exact Rd.nil _ _
        refine ⟨fun c => ?_, fun c => ?_, fun h0 c => ?_, fun n' c hn' => ?_, hrp, hr0⟩
        · rw [← hs1]
          have h1 := more_at W _ c 4294967295 4 _ (by rw [List.length_take, hdl]; omega) (rd_sub hrd a 4) (by omega) (by omega)
          rw [show ((4294967295 : Nat) : Int) = 4294967295 from rfl] at h1
          exact h1
        · rw [← hs2]
          exact more_at W _ c s1 n p hpl hrp hs1l (by omega)
        · rw [← hs2]
          exact more_at W _ c s1 n p hpl (hr0 h0) hs1l (by omega)
        · obtain ⟨c0, c1, c2, c3, j0, j1, j2, j3, jr⟩ := four_at (a := a + 4) hrd (by omega)
          have := read_calls W g (off + a + 4) n' c c0 c1 c2 c3 hn' (by rw [Nat.add_assoc off]; exact j0) (by rw [Nat.add_assoc off]; exact j1) (by rw [Nat.add_assoc off]; exact j2) (by rw [Nat.add_assoc off]; exact j3)
          rwa [jr, ← List.drop_drop, hm] at this
      have hmk := fun W => run_make_0n (P := Try.prog) 22 5 (.int .u8 0) 1 Try.underlying22 Try.info5 rfl n (by omega) (by omega) W
      have HC := Lib.hid hcall
      have hnot := not32 s2 hs2l
      have HP := Lib.hid (And.intro hpl hp)
      have HE := Lib.hid he
      have h2' : 8 + (n : Int) ≤ (b.length : Int) - (a : Int) := by omega
      have hq : ((4294967295 - s2 : Nat) : Int) = 4294967295 - (s2 : Int) := by omega
      rw [hq] at hnot
      clear hcall hp hp1 hpl hs1 hs2 hm he hdl hn hq
      have Hnot := Lib.hid hnot
      have Hmk := Lib.hid hmk
      clear hnot hmk h2'
      go_enter Try.func20, Try.ntmps20
      go_wp2_with fail
      refine (HR.out).mono ?_
      rintro e w' ⟨rfl, d, rfl⟩
      go_wp2_with fail
      · have hn0 := Lib.hid (show n = 0 by omega)
        have HO := Lib.hid ((Own.drewN H.out.1 d).drew)
        have HW := Lib.hid (HC.out _ HO.out)
        have z1 : (4 : Int) ≤ ((b.length - a : Nat) : Int) := by omega
        have z2 : 4 ≤ b.length - a := by omega
        have z3 : ¬ b.length - a < 4 := by omega
        go_region_law (first
          | (refine step_call rfl 32 _ _ rfl Try.func32 (by kernel_rfl) (by kernel_rfl) #[.int .u32 4294967295, .slice (some ⟨g, off + a, none⟩) 4 8] (by rfl) ?_; refine (HW.out.1 8).mono ?_; rintro e w' ⟨rfl, rfl⟩; refine ⟨_, rfl, ?_⟩)
          | (refine step_call rfl 32 _ _ rfl Try.func32 (by kernel_rfl) (by kernel_rfl) #[.int .u32 s1, .slice (some ⟨g, off + a, none⟩) n 0] (by rfl) ?_; refine (HW.out.2.2.1 hn0.out 0).mono ?_; rintro e w' ⟨rfl, rfl⟩; refine ⟨_, rfl, ?_⟩)
          | (refine step_call rfl 36 _ _ rfl Try.func36 (by kernel_rfl) (by kernel_rfl) #[.slice (some ⟨g, off + a + 4, none⟩) (b.length - a - 4) 4] (by rfl) ?_; refine (HW.out.2.2.2.1 _ 4 (by omega)).mono ?_; rintro e w' ⟨rfl, d2, rfl⟩; refine ⟨_, rfl, ?_⟩))
        all_goals
          have OF := Lib.hid (Own.drewN H.out.1 (d + 1 + d2))
          have hnot := Hnot.out
          by_cases hsum : 4294967295 - s2 = m
          · have hq : ((4294967295 - (s2 : Int)) != (m : Int)) = false := by simp; omega
            have hx : (bits BinOp.xor IntKind.u32 (if IntKind.u32.signed = true then -1 else IntKind.u32.max) (s2 : Int) != (m : Int)) = false := by rw [show (if IntKind.u32.signed = true then -1 else IntKind.u32.max) = IntKind.u32.max from rfl, hnot]; exact hq
            have HM := Lib.hid (OF.out.made0 5 n (.int .u8 0) (by unfold maxLen; omega))
            have hmk := Hmk.out
            have Hsum := Lib.hid hsum
            obtain ⟨T, hrT, -, hbT⟩ := HM.out.open
            have HG := Lib.hid (And.intro hrT (And.intro hbT ((HC.out _ HM.out.pop).2.2.2.2.2 hn0.out)))
            clear hrT hbT hsum
            go_wp2_with (at_builtin; refine wpList_append_row rfl (.tmp 53) (.tmp 54) 22 rfl 5 (.int .u8 0) 1 1 Try.underlying22 Try.info5 rfl (by decide) rfl rfl HG.out.1 _ n _ (bts p) rfl (by rw [bts_length, Nat.mul_one]; exact HP.out.1) HG.out.2.2 bts_one (by unfold maxLen; omega) (by omega) ?_)
            rintro A3 c3 w3 - - hk3 hr3
            have O3 := Lib.hid (HG.out.2.1 _ _ hk3 hr3)
            clear hk3 hr3
            go_wp2
            go_ret3
            refine .inl ⟨by rw [HE.out, if_pos Hsum.out], A3, c3, ?_, ?_⟩
            · rw [HP.out.2, HP.out.1]
              rfl
            · rw [HP.out.2, HP.out.1]
              exact O3.out
          · have hq : ((4294967295 - (s2 : Int)) != (m : Int)) = true := by simp; omega
            have hx : (bits BinOp.xor IntKind.u32 (if IntKind.u32.signed = true then -1 else IntKind.u32.max) (s2 : Int) != (m : Int)) = true := by rw [show (if IntKind.u32.signed = true then -1 else IntKind.u32.max) = IntKind.u32.max from rfl, hnot]; exact hq
            have Hsum := Lib.hid hsum
            clear hsum
            go_wp2
            go_ret3
            refine .inr ⟨?_, ?_, OF.out⟩
            · rw [HE.out, if_neg Hsum.out]; decide
            · rw [HE.out, if_neg Hsum.out]; rfl
      · have HO := Lib.hid ((Own.drewN H.out.1 d).drew)
        have HW := Lib.hid (HC.out _ HO.out)
        have z1 : (4 : Int) ≤ ((b.length - a : Nat) : Int) := by omega
        have z2 : 4 ≤ b.length - a := by omega
        have z3 : ¬ b.length - a < 4 := by omega
        have z4 : ¬ cb - a = 4 := by omega
        have z5 : (4 : Int) ≤ ((cb - a : Nat) : Int) := by omega
        go_region_law (first
          | (refine step_call rfl 32 _ _ rfl Try.func32 (by kernel_rfl) (by kernel_rfl) #[.int .u32 4294967295, .slice (some ⟨g, off + a, none⟩) 4 (cb - a)] (by rfl) ?_; refine (HW.out.1 (cb - a)).mono ?_; rintro e w' ⟨rfl, rfl⟩; refine ⟨_, rfl, ?_⟩)
          | (refine step_call rfl 32 _ _ rfl Try.func32 (by kernel_rfl) (by kernel_rfl) #[.int .u32 s1, .slice (some ⟨g, off + a + 8, none⟩) n (cb - a - 8)] (by rfl) ?_; refine (HW.out.2.1 (cb - a - 8)).mono ?_; rintro e w' ⟨rfl, rfl⟩; refine ⟨_, rfl, ?_⟩)
          | (refine step_call rfl 36 _ _ rfl Try.func36 (by kernel_rfl) (by kernel_rfl) #[.slice (some ⟨g, off + a + 4, none⟩) (b.length - a - 4) (cb - a - 4)] (by rfl) ?_; refine (HW.out.2.2.2.1 _ (cb - a - 4) (by omega)).mono ?_; rintro e w' ⟨rfl, d2, rfl⟩; refine ⟨_, rfl, ?_⟩))
        all_goals
          have OF := Lib.hid (Own.drewN H.out.1 (d + 1 + d2))
          have hnot := Hnot.out
          by_cases hsum : 4294967295 - s2 = m
          · have hq : ((4294967295 - (s2 : Int)) != (m : Int)) = false := by simp; omega
            have hx : (bits BinOp.xor IntKind.u32 (if IntKind.u32.signed = true then -1 else IntKind.u32.max) (s2 : Int) != (m : Int)) = false := by rw [show (if IntKind.u32.signed = true then -1 else IntKind.u32.max) = IntKind.u32.max from rfl, hnot]; exact hq
            have HM := Lib.hid (OF.out.made0 5 n (.int .u8 0) (by unfold maxLen; omega))
            have hmk := Hmk.out
            have Hsum := Lib.hid hsum
            obtain ⟨T, hrT, -, hbT⟩ := HM.out.open
            have HG := Lib.hid (And.intro hrT (And.intro hbT ((HC.out _ HM.out.pop).2.2.2.2.1)))
            clear hrT hbT hsum
            go_wp2_with (at_builtin; refine wpList_append_row rfl (.tmp 53) (.tmp 54) 22 rfl 5 (.int .u8 0) 1 1 Try.underlying22 Try.info5 rfl (by decide) rfl rfl HG.out.1 _ n _ (bts p) rfl (by rw [bts_length, Nat.mul_one]; exact HP.out.1) HG.out.2.2 bts_one (by unfold maxLen; omega) (by omega) ?_)
            rintro A3 c3 w3 - - hk3 hr3
            have O3 := Lib.hid (HG.out.2.1 _ _ hk3 hr3)
            clear hk3 hr3
            go_wp2
            go_ret3
            refine .inl ⟨by rw [HE.out, if_pos Hsum.out], A3, c3, ?_, ?_⟩
            · rw [HP.out.2, HP.out.1]
              rfl
            · rw [HP.out.2, HP.out.1]
              exact O3.out
          · have hq : ((4294967295 - (s2 : Int)) != (m : Int)) = true := by simp; omega
            have hx : (bits BinOp.xor IntKind.u32 (if IntKind.u32.signed = true then -1 else IntKind.u32.max) (s2 : Int) != (m : Int)) = true := by rw [show (if IntKind.u32.signed = true then -1 else IntKind.u32.max) = IntKind.u32.max from rfl, hnot]; exact hq
            have Hsum := Lib.hid hsum
            clear hsum
            go_wp2
            go_ret3
            refine .inr ⟨?_, ?_, OF.out⟩
            · rw [HE.out, if_neg Hsum.out]; decide
            · rw [HE.out, if_neg Hsum.out]; rfl
end Go.Proofs.Ytonomljdljcmaaa
