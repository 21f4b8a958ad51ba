/-
  The document's sum, four bytes and number.
  Conditions: none beyond each theorem's own.
-/
import Derived.Test.YtonomljdljcmaaaLent
namespace Go.Proofs.Ytonomljdljcmaaa
set_option linter.unusedVariables false
set_option linter.unusedSimpArgs false
open Go.RowKit

set_option maxHeartbeats 1600000 in
theorem rstep_calls (w : World) (m : Nat) (x : UInt8) (hm : m < 4294967296) :
    Calls Try.prog 35 #[.int .u32 m, .int .u8 x.toNat] w fun e w' => e = .returned (.int .u32 (crcStep m x)) ∧ w = w' := by
  have hx256 := byte_lt x
  have hxor := u32_xor_nat m x.toNat (by omega) (by omega)
  have hxl := xor32 (a := m) (b := x.toNat) (by omega) (by omega)
  obtain ⟨y, hy⟩ : ∃ y, m ^^^ x.toNat = y := ⟨_, rfl⟩
  have hst := Lib.hid (show crcStep m x = crcIter 8 y by rw [crcStep, hy])
  rw [hy] at hxor hxl
  clear hy
  go_enter Try.func35, Try.ntmps35
  go_wp2
  go_loop [0, 5] (fun t0 t => ∃ k : Nat, k ≤ 8 ∧ t0 = .int .u32 (crcIter k y : Nat) ∧ t = .int .i64 k) (fun _ t => 8 - (intOf t).toNat)
  case atStart => exact ⟨0, by omega, rfl, rfl⟩
  case round =>
    obtain ⟨k, hk, rfl, rfl⟩ := hrel
    have hil := crcIter_lt hxl k
    clear hxor
    by_cases hk8 : k < 8
    · obtain ⟨z, hz⟩ : ∃ z, crcIter k y = z := ⟨_, rfl⟩
      have hnext := Lib.hid (show crcIter (k + 1) y = crcBit z by rw [← hz]; rfl)
      rw [hz] at hil
      simp only [hz]
      have hxor : bits .xor .u32 ((z : Int) / 2) 2197175160 = ((z / 2 ^^^ 2197175160 : Nat) : Int) := u32_xor_nat (z / 2) 2197175160 (by omega) (by omega)
      clear hz
      by_cases hodd : z % 2 = 1
      · have hb1 := Lib.hid (show crcBit z = z / 2 ^^^ 2197175160 by rw [crcBit, if_pos hodd])
        have ho : ((z : Int) % 2 == 1) = true := by simp; omega
        have ho2 : (z : Int) % 2 = 1 := by omega
        clear hodd
        go_wp2
        go_round
        case rel => exact ⟨k + 1, by omega, by rw [hnext.out, hb1.out] <;> try rfl, by go_num⟩
        case measure => simp [intOf]; omega
      · have hb1 := Lib.hid (show crcBit z = z / 2 by rw [crcBit, if_neg hodd])
        have ho : ((z : Int) % 2 == 1) = false := by simp; omega
        have ho2 : ¬ (z : Int) % 2 = 1 := by omega
        clear hodd
        go_wp2
        go_round
        case rel => exact ⟨k + 1, by omega, by rw [hnext.out, hb1.out] <;> try rfl, by go_num⟩
        case measure => simp [intOf]; omega
    · obtain rfl : k = 8 := by omega
      go_wp2
      go_ret
      exact ⟨by rw [hst.out]; rfl, rfl⟩

set_option maxHeartbeats 1600000 in
theorem rsum_calls (w : World) (A : Option Addr) (c : Nat) (b : List UInt8) (hb : Rd w A (bts b)) (hl : b.length ≤ 1000000000000) :
    Calls Try.prog 18 #[.slice A b.length c] w fun e w' => e = .returned (.int .u32 (crcSum b : Nat)) ∧ w = w' := by
  have H := Lib.hid hb
  clear hb
  go_enter Try.func18, Try.ntmps18
  go_wp2
  go_loop [3, 4] (fun t0 t => ∃ i : Nat, i ≤ b.length ∧ t0 = .int .u32 (crcMore 4294967295 (b.take i) : Nat) ∧ t = .int .i64 i) (fun _ t => b.length - (intOf t).toNat)
  case atStart => exact ⟨0, Nat.zero_le _, rfl, rfl⟩
  case round =>
    obtain ⟨i, hi, rfl, rfl⟩ := hrel
    have hm := crcMore_lt (s := 4294967295) (by omega) (b.take i)
    by_cases hib : i < b.length
    · obtain ⟨x, hx⟩ : ∃ x, b[i]? = some x := ⟨_, List.getElem?_eq_getElem hib⟩
      obtain ⟨g, off, rfl, hc⟩ := H.out i _ (bts_get hx)
      have hstep := Lib.hid (crcMore_take (s := 4294967295) hx)
      obtain ⟨m, hmm⟩ : ∃ m, crcMore 4294967295 (b.take i) = m := ⟨_, rfl⟩
      rw [hmm] at hm hstep
      simp only [hmm]
      have HC := Lib.hid (rstep_calls w m x hm)
      clear hmm hx
      unfold byteV at hc
      go_wp2_with fail
      refine (HC.out).mono ?_
      rintro e w' ⟨rfl, rfl⟩
      go_wp2
      go_round
      case rel => exact ⟨i + 1, by omega, by rw [hstep.out], by go_num⟩
      case measure => simp [intOf]; omega
    · obtain rfl : i = b.length := by omega
      rw [List.take_length] at *
      have hnot := not32 _ hm
      have hcs := Lib.hid (show crcSum b = 4294967295 - crcMore 4294967295 b from rfl)
      obtain ⟨m, hmm⟩ : ∃ m, crcMore 4294967295 b = m := ⟨_, rfl⟩
      rw [hmm] at hm hnot hcs
      simp only [hmm]
      clear hmm
      go_wp2
      go_ret
      exact ⟨by rw [hcs.out, ← hnot]; rfl, rfl⟩
set_option maxHeartbeats 1600000 in
theorem rfour_calls (w : World) (n : Nat) (hn : n < 4294967296) :
    Calls Try.prog 34 #[.int .u32 n] w fun e w' => e = .returned (.slice (some ⟨w.heap.size, 0, none⟩) 4 4) ∧ w.alloc (.cells (bts (fourB n)).toArray 5) = w' := by
  go_enter Try.func34, Try.ntmps34
  go_wp2
  go_ret
  refine ⟨rfl, ?_⟩
  have e0 : ((UInt8.ofNat n).toNat : Int) = (n : Int) % 256 := by simp
  have e1 : ((UInt8.ofNat (n / 256)).toNat : Int) = (n : Int) / 256 % 256 := by simp
  have e2 : ((UInt8.ofNat (n / 65536)).toNat : Int) = (n : Int) / 65536 % 256 := by simp
  have e3 : ((UInt8.ofNat (n / 16777216)).toNat : Int) = (n : Int) / 16777216 := by
    have : (UInt8.ofNat (n / 16777216)).toNat = n / 16777216 := by simp; omega
    rw [this]; rfl
  simp only [fourB, bts, List.map_cons, List.map_nil, byteV, e0, e1, e2, e3]

set_option maxHeartbeats 1600000 in
theorem rwhole_calls (w : World) (g off n c : Nat) (b0 b1 b2 b3 : UInt8) (h4 : 4 ≤ n) (k0 : w.cell? ⟨g, off, none⟩ = some (byteV b0)) (k1 : w.cell? ⟨g, off + 1, none⟩ = some (byteV b1)) (k2 : w.cell? ⟨g, off + 2, none⟩ = some (byteV b2)) (k3 : w.cell? ⟨g, off + 3, none⟩ = some (byteV b3)) :
    Calls Try.prog 37 #[.slice (some ⟨g, off, none⟩) n c] w fun e w' => e = .returned (.int .i64 (b0.toNat + b1.toNat * 256 + b2.toNat * 65536 + b3.toNat * 16777216 : Nat)) ∧ ∃ d, w' = w.drewN d := by
  have l0 := byte_lt b0
  have l1 := byte_lt b1
  have l2 := byte_lt b2
  have l3 := byte_lt b3
  obtain ⟨a0, h0⟩ : ∃ a, b0.toNat = a := ⟨_, rfl⟩
  obtain ⟨a1, h1⟩ : ∃ a, b1.toNat = a := ⟨_, rfl⟩
  obtain ⟨a2, h2⟩ : ∃ a, b2.toNat = a := ⟨_, rfl⟩
  obtain ⟨a3, h3⟩ : ∃ a, b3.toNat = a := ⟨_, rfl⟩
  simp only [byteV, h0, h1, h2, h3] at *
  have e1 : (1 : Int) < (n : Int) := by omega
  have e0 : (0 : Int) < (n : Int) := by omega
  have e2 : (2 : Int) < (n : Int) := by omega
  have e3 : (3 : Int) < (n : Int) := by omega
  clear h0 h1 h2 h3
  go_enter Try.func37, Try.ntmps37
  go_wp2
  go_quiet (fail)
  go_wp2
  go_ret
  refine ⟨?_, _, rfl⟩
  simp
  omega
end Go.Proofs.Ytonomljdljcmaaa
