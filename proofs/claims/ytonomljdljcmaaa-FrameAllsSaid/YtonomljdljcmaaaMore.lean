/-
  more: a sum that goes on over bytes.
  Conditions: none beyond each theorem's own.
-/
import Derived.Test.YtonomljdljcmaaaCrc
import Derived.Test.YtonomljdljcmaaaProg
import Derived.WalkKit
import Derived.LoopTactic
namespace Go.Proofs.Ytonomljdljcmaaa
set_option linter.unusedVariables false
set_option linter.unusedSimpArgs false
open Go.RowKit

set_option maxHeartbeats 1600000 in
theorem more_calls (w : World) (A : Option Addr) (c s : Nat) (b : List UInt8) (hb : Rd w A (bts b)) (hs : s < 4294967296) (hl : b.length ≤ 1000000000000) :
    Calls Try.prog 32 #[.int .u32 s, .slice A b.length c] w fun e w' => e = .returned (.int .u32 (crcMore s b)) ∧ w = w' := by
  have H := Lib.hid hb
  clear hb
  go_enter Try.func32, Try.ntmps32
  go_wp2
  go_loop [0, 10] (fun t0 t => ∃ i : Nat, i ≤ b.length ∧ t0 = .int .u32 (crcMore s (b.take i) : Nat) ∧ t = .int .i64 i) (fun _ t => b.length - (intOf t).toNat)
  case atStart => exact ⟨0, Nat.zero_le _, rfl, rfl⟩
  case round =>
    obtain ⟨i, hi, rfl, rfl⟩ := hrel
    have hm := crcMore_lt hs (b.take i)
    by_cases hib : i < b.length
    · obtain ⟨x, hx⟩ : ∃ x, b[i]? = some x := ⟨_, List.getElem?_eq_getElem hib⟩
      obtain ⟨g, off, rfl, hc⟩ := H.out i _ (bts_get hx)
      have hstep := Lib.hid (crcMore_take (s := s) hx)
      obtain ⟨m, hmm⟩ : ∃ m, crcMore s (b.take i) = m := ⟨_, rfl⟩
      have hx256 := byte_lt x
      rw [hmm] at hm hstep
      simp only [hmm]
      have hxor := u32_xor_nat m x.toNat (by omega) (by omega)
      have hxl := xor32 (a := m) (b := x.toNat) (by omega) (by omega)
      clear hmm hx
      unfold byteV at hc
      go_wp2
      obtain ⟨y, hy⟩ : ∃ y, m ^^^ x.toNat = y := ⟨_, rfl⟩
      simp only [hy] at hxl ⊢
      have hst : crcStep m x = crcIter 8 y := by rw [crcStep, hy]
      rw [hst] at hstep
      clear hxor hy hst
      go_loop [0, 18] (fun t0 t => ∃ k : Nat, k ≤ 8 ∧ t0 = .int .u32 (crcIter k y : Nat) ∧ t = .int .i64 k) (fun _ t => 8 - (intOf t).toNat)
      case atStart => exact ⟨0, by omega, rfl, rfl⟩
      case round =>
        obtain ⟨k, hk, rfl, rfl⟩ := hrel
        have hil := crcIter_lt hxl k
        by_cases hk8 : k < 8
        · obtain ⟨z, hz⟩ : ∃ z, crcIter k y = z := ⟨_, rfl⟩
          have hnext := Lib.hid (show crcIter (k + 1) y = crcBit z by rw [← hz]; rfl)
          rw [hz] at hil
          simp only [hz]
          have hand := u32_and_nat z 1 hil (by omega)
          rw [nat_mask1] at hand
          have hxor : bits .xor .u32 ((z : Int) / 2) 2197175160 = ((z / 2 ^^^ 2197175160 : Nat) : Int) := u32_xor_nat (z / 2) 2197175160 (by omega) (by omega)
          clear hz
          by_cases hodd : z % 2 = 1
          · have hb1 : crcBit z = z / 2 ^^^ 2197175160 := by rw [crcBit, if_pos hodd]
            rw [hodd] at hand
            have hand' : bits .and .u32 (z : Int) 1 = 1 := hand
            clear hand
            go_wp2
            go_round
            case rel => exact ⟨k + 1, by omega, by rw [hnext.out, hb1] <;> try rfl, by go_num⟩
            case measure => simp [intOf]; omega
          · have hb1 : crcBit z = z / 2 := by rw [crcBit, if_neg hodd]
            rw [show z % 2 = 0 by omega] at hand
            have hand' : bits .and .u32 (z : Int) 1 = 0 := hand
            clear hand
            go_wp2
            go_round
            case rel => exact ⟨k + 1, by omega, by rw [hnext.out, hb1] <;> try rfl, by go_num⟩
            case measure => simp [intOf]; omega
        · obtain rfl : k = 8 := by omega
          go_wp2
          go_round
          case rel => exact ⟨i + 1, by omega, by rw [hstep.out], by go_num⟩
          case measure => simp [intOf]; omega
    · obtain rfl : i = b.length := by omega
      rw [List.take_length] at *
      go_wp2
      go_ret
      exact ⟨rfl, rfl⟩
end Go.Proofs.Ytonomljdljcmaaa
