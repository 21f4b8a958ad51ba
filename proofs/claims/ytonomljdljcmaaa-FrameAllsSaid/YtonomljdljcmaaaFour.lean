/-
  four and read: a number as four bytes.
  Conditions: none beyond each theorem's own.
-/
import Derived.Test.YtonomljdljcmaaaMore
import Derived.StillTactics
import Derived.Deep.QuietTactic
import Derived.BigQuiet
namespace Go.Proofs.Ytonomljdljcmaaa
set_option linter.unusedVariables false
set_option linter.unusedSimpArgs false
open Go.RowKit

def fourB (n : Nat) : List UInt8 := [UInt8.ofNat n, UInt8.ofNat (n / 256), UInt8.ofNat (n / 65536), UInt8.ofNat (n / 16777216)]

set_option maxHeartbeats 1600000 in
theorem four_calls (w : World) (n : Nat) (hn : n < 4294967296) :
    Calls Try.prog 39 #[.int .u32 n] w fun e w' => e = .returned (.slice (some ⟨w.heap.size, 0, none⟩) 4 4) ∧ w.alloc (.cells (bts (fourB n)).toArray 5) = w' := by
  go_enter Try.func39, Try.ntmps39
  go_wp2
  go_ret
  refine ⟨rfl, ?_⟩
  have e0 : ((UInt8.ofNat n).toNat : Int) = (n : Int) % 256 := by simp
  have e1 : ((UInt8.ofNat (n / 256)).toNat : Int) = (n : Int) / 256 % 256 := by simp
  have e2 : ((UInt8.ofNat (n / 65536)).toNat : Int) = (n : Int) / 65536 % 256 := by simp
  have e3 : ((UInt8.ofNat (n / 16777216)).toNat : Int) = (n : Int) / 16777216 := by
    have : (UInt8.ofNat (n / 16777216)).toNat = n / 16777216 := by simp; omega
    rw [this]; rfl
  simp only [fourB, bts, List.map_cons, List.map_nil, byteV, e0, e1, e2, e3]

theorem not32 (s : Nat) (h : s < 4294967296) : bits BinOp.xor IntKind.u32 IntKind.u32.max (s : Int) = ((4294967295 - s : Nat) : Int) := by
  have h1 := u32_xor_nat 4294967295 s (by omega) h
  have h2 : (BitVec.allOnes 32 ^^^ BitVec.ofNat 32 s).toNat = (~~~ BitVec.ofNat 32 s).toNat := by rw [BitVec.allOnes_xor]
  rw [BitVec.toNat_xor, BitVec.toNat_not, BitVec.toNat_allOnes, BitVec.toNat_ofNat, Nat.mod_eq_of_lt (by omega)] at h2
  have h3 : 4294967295 ^^^ s = 4294967295 - s := h2
  rw [h3] at h1
  exact h1

theorem nat_of4 (a b c d : Nat) (ha : a < 256) (hb : b < 256) (hc : c < 256) (hd : d < 256) : ((a ||| b * 256) ||| c * 65536) ||| d * 16777216 = a + b * 256 + c * 65536 + d * 16777216 := by
  have h1 := nat_join 8 (b * 256) a (by omega) (by omega)
  rw [Nat.or_comm] at h1
  have h2 := nat_join 16 (c * 65536) (b * 256 + a) (by omega) (by omega)
  rw [Nat.or_comm] at h2
  have h3 := nat_join 24 (d * 16777216) (c * 65536 + (b * 256 + a)) (by omega) (by omega)
  rw [Nat.or_comm] at h3
  rw [h1, h2, h3]
  omega
def readN (b : List UInt8) : Nat := (b.getD 0 0).toNat + (b.getD 1 0).toNat * 256 + (b.getD 2 0).toNat * 65536 + (b.getD 3 0).toNat * 16777216

set_option maxHeartbeats 1600000 in
theorem read_calls (w : World) (g off n c : Nat) (b0 b1 b2 b3 : UInt8) (h4 : 4 ≤ n) (k0 : w.cell? ⟨g, off, none⟩ = some (byteV b0)) (k1 : w.cell? ⟨g, off + 1, none⟩ = some (byteV b1)) (k2 : w.cell? ⟨g, off + 2, none⟩ = some (byteV b2)) (k3 : w.cell? ⟨g, off + 3, none⟩ = some (byteV b3)) :
    Calls Try.prog 36 #[.slice (some ⟨g, off, none⟩) n c] w fun e w' => e = .returned (.int .u32 (b0.toNat + b1.toNat * 256 + b2.toNat * 65536 + b3.toNat * 16777216 : Nat)) ∧ ∃ d, w' = w.drewN d := by
  have l0 := byte_lt b0
  have l1 := byte_lt b1
  have l2 := byte_lt b2
  have l3 := byte_lt b3
  obtain ⟨a0, h0⟩ : ∃ a, b0.toNat = a := ⟨_, rfl⟩
  obtain ⟨a1, h1⟩ : ∃ a, b1.toNat = a := ⟨_, rfl⟩
  obtain ⟨a2, h2⟩ : ∃ a, b2.toNat = a := ⟨_, rfl⟩
  obtain ⟨a3, h3⟩ : ∃ a, b3.toNat = a := ⟨_, rfl⟩
  simp only [byteV, h0, h1, h2, h3] at *
  have e1 : (1 : Int) < (n : Int) := by omega
  have e0 : (0 : Int) < (n : Int) := by omega
  have e2 : (2 : Int) < (n : Int) := by omega
  have e3 : (3 : Int) < (n : Int) := by omega
  clear h0 h1 h2 h3
  go_enter Try.func36, Try.ntmps36
  go_wp2
  go_quiet (fail)
  have E : bits BinOp.or IntKind.u32 (bits BinOp.or IntKind.u32 (bits BinOp.or IntKind.u32 (a0 : Int) ((a1 : Int) * 256)) ((a2 : Int) * 65536)) ((a3 : Int) * 16777216) = ((a0 + a1 * 256 + a2 * 65536 + a3 * 16777216 : Nat) : Int) := by
    have h1 := u32_or_nat a0 (a1 * 256) (by omega) (by omega)
    have j1 : a0 ||| a1 * 256 < 65536 := Nat.or_lt_two_pow (n := 16) (by omega) (by omega)
    have h2 := u32_or_nat (a0 ||| a1 * 256) (a2 * 65536) (by omega) (by omega)
    have j2 : (a0 ||| a1 * 256) ||| a2 * 65536 < 16777216 := Nat.or_lt_two_pow (n := 24) (by omega) (by omega)
    have h3 := u32_or_nat ((a0 ||| a1 * 256) ||| a2 * 65536) (a3 * 16777216) (by omega) (by omega)
    rw [nat_of4 a0 a1 a2 a3 (by omega) (by omega) (by omega) (by omega)] at h3
    rw [← h2, ← h1] at h3
    exact h3
  go_wp2
  go_ret
  exact ⟨by rw [E]; rfl, _, rfl⟩
end Go.Proofs.Ytonomljdljcmaaa
