/-
  The sum over bytes, as numbers; and bytes as values.
  Conditions: none beyond each theorem's own.
-/
import Derived.Test.YtonomljdljcmaaaOwnOps
import Derived.Laws.BitsAllLaws
namespace Go.Proofs.Ytonomljdljcmaaa
set_option linter.unusedVariables false
set_option linter.unusedSimpArgs false
open Go.RowKit

def byteV (c : UInt8) : Value := .int .u8 (c.toNat : Int)
def bts (b : List UInt8) : List Value := b.map byteV
theorem bts_length (b : List UInt8) : (bts b).length = b.length := by simp [bts]
theorem bts_one {b : List UInt8} : ∀ u ∈ bts b, u.oneCell' = true := by
  intro u hu
  simp only [bts, List.mem_map] at hu
  obtain ⟨x, _, rfl⟩ := hu
  rfl
theorem bts_get {b : List UInt8} {i : Nat} {x : UInt8} (h : b[i]? = some x) : (bts b)[i]? = some (byteV x) := by simp [bts, h]
theorem bts_append (a b : List UInt8) : bts (a ++ b) = bts a ++ bts b := by simp [bts]
theorem bts_take (b : List UInt8) (n : Nat) : bts (b.take n) = (bts b).take n := by simp [bts, List.map_take]
theorem bts_drop (b : List UInt8) (n : Nat) : bts (b.drop n) = (bts b).drop n := by simp [bts, List.map_drop]

def crcBit (s : Nat) : Nat := if s % 2 = 1 then (s / 2) ^^^ 2197175160 else s / 2
def crcIter : Nat → Nat → Nat
  | 0, s => s
  | k + 1, s => crcBit (crcIter k s)
def crcStep (s : Nat) (c : UInt8) : Nat := crcIter 8 (s ^^^ c.toNat)
def crcMore (s : Nat) (b : List UInt8) : Nat := b.foldl crcStep s
def crcSum (b : List UInt8) : Nat := 4294967295 - crcMore 4294967295 b

theorem xor32 {a b : Nat} (ha : a < 4294967296) (hb : b < 4294967296) : a ^^^ b < 4294967296 := Nat.xor_lt_two_pow (n := 32) ha hb
theorem crcBit_lt {s : Nat} (h : s < 4294967296) : crcBit s < 4294967296 := by
  unfold crcBit
  split
  · exact xor32 (by omega) (by omega)
  · omega
theorem crcIter_lt {s : Nat} (h : s < 4294967296) : ∀ k, crcIter k s < 4294967296
  | 0 => h
  | k + 1 => crcBit_lt (crcIter_lt h k)
theorem byte_lt (c : UInt8) : c.toNat < 256 := c.toNat_lt
theorem crcStep_lt {s : Nat} (h : s < 4294967296) (c : UInt8) : crcStep s c < 4294967296 := crcIter_lt (xor32 h (by have := byte_lt c; omega)) 8
theorem crcMore_lt {s : Nat} (h : s < 4294967296) (b : List UInt8) : crcMore s b < 4294967296 := by
  induction b generalizing s with
  | nil => exact h
  | cons c b ih => exact ih (crcStep_lt h c)
theorem crcMore_take {s i : Nat} {b : List UInt8} {c : UInt8} (h : b[i]? = some c) : crcMore s (b.take (i + 1)) = crcStep (crcMore s (b.take i)) c := by
  rw [List.take_add_one, h]
  simp [crcMore]
theorem crcMore_append (s : Nat) (a b : List UInt8) : crcMore s (a ++ b) = crcMore (crcMore s a) b := by simp [crcMore]
end Go.Proofs.Ytonomljdljcmaaa
