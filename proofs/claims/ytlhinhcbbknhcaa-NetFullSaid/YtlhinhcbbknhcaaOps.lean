/-
  The operations that a law of chapter 14 is handed; few.
  Conditions: none beyond each theorem's own.
-/
import Derived.Test.YtlhinhcbbknhcaaByt
import Derived.WalkSpells
namespace Go.Proofs.Ytlhinhcbbknhcaa
set_option linter.unusedVariables false
set_option linter.unusedSimpArgs false
open Go.RowKit

structure Op5 where
  kind : Int
  a : Int
  b : Int
  up : Bool
  dat : List UInt8
def In64 (x : Int) : Prop := -9223372036854775808 ≤ x ∧ x ≤ 9223372036854775807
/-- The operations, as they lie in memory. -/
def Ops (w : World) (A : Option Addr) (l : List Op5) : Prop := ∀ i o, l[i]? = some o → ∃ b off Ad cd, A = some ⟨b, off, none⟩ ∧ b < w.heap.size ∧
  w.cell? ⟨b, off + i * 5, none⟩ = some (.int .i64 o.kind) ∧ w.cell? ⟨b, off + i * 5 + 1, none⟩ = some (.int .i64 o.a) ∧ w.cell? ⟨b, off + i * 5 + 2, none⟩ = some (.int .i64 o.b) ∧
  w.cell? ⟨b, off + i * 5 + 3, none⟩ = some (.bool o.up) ∧ w.cell? ⟨b, off + i * 5 + 4, none⟩ = some (.slice Ad o.dat.length cd) ∧
  o.dat.length ≤ cd ∧ cd ≤ maxLen ∧ o.dat.length ≤ 140737488351232 ∧ Rd w Ad (bts o.dat) ∧ In64 o.kind ∧ In64 o.a ∧ In64 o.b

set_option maxRecDepth 100000 in
set_option maxHeartbeats 1600000 in
theorem few_calls (w : World) (A : Option Addr) (c : Nat) (l : List Op5) (hops : Ops w A l) (hlen : l.length ≤ 140737488351232) :
    Calls Try.prog 8 #[.slice A l.length c] w fun e w' => ∃ r, e = .returned (.bool r) ∧ w = w' ∧ (r = true → l.length ≤ 300) := by
  have H := Lib.hid hops
  clear hops
  go_enter Try.func8, Try.ntmps8
  go_wp2
  go_loopw [3, 4] (fun ta tb wr => ∃ (i k : Nat), i ≤ l.length ∧ ta = .int .i64 k ∧ tb = .int .i64 i ∧ wr = w ∧ k ≤ 40000) (fun _ tb _ => l.length - (intOf tb).toNat)
  case atStart => exact ⟨0, 0, Nat.zero_le _, rfl, rfl, rfl, by omega⟩
  case round =>
    obtain ⟨i, k, hi, rfl, rfl, rfl, hk⟩ := hrel
    by_cases hin : i < l.length
    · have i1 : (i : Int) < (l.length : Int) := by omega
      by_cases h3 : i < 300
      · have i2 : (i : Int) < 300 := by omega
        obtain ⟨o, ho⟩ : ∃ o, l[i]? = some o := ⟨_, List.getElem?_eq_getElem hin⟩
        obtain ⟨b, off, Ad, cd, rfl, hbl, -, -, -, -, c4, hd1, hd2, hd3, -⟩ := H.out i o ho
        obtain ⟨d, hd⟩ : ∃ d, o.dat.length = d := ⟨_, rfl⟩
        rw [hd] at c4 hd1 hd3
        clear ho hd hd1 hd2
        go_wp2
        go_roundw
        case rel =>
          refine ⟨i + 1, min (k + min d 20000) 40000, by omega, ?_, by go_num, trivial, by omega⟩
          congr 1
          split <;> split <;> omega
        case measure => simp [intOf]; omega
      · have i2 : ¬ (i : Int) < 300 := by omega
        go_wp2
        all_goals go_ret
        all_goals (by_cases hk2 : (k : Int) ≤ 20000 <;> simp [hk2] <;> omega)
    · have i1 : ¬ (i : Int) < (l.length : Int) := by omega
      go_wp2
      all_goals go_ret
      all_goals (by_cases hk2 : (k : Int) ≤ 20000 <;> simp [hk2] <;> omega)
end Go.Proofs.Ytlhinhcbbknhcaa
