/-
  The operations that a law of chapter 7 is handed: three numbers each, read where they lie.
  Conditions: none beyond each theorem's own.
-/
import Derived.Test.YtbncicfbgfmekaaBox
namespace Go.Proofs.Ytbncicfbgfmekaa
set_option linter.unusedVariables false
set_option linter.unusedSimpArgs false
open Go.RowKit

structure Op3 where
  kind : Int
  n : Int
  lane : Int

def In64 (n : Int) : Prop := -9223372036854775808 ≤ n ∧ n ≤ 9223372036854775807

def Ops (w : World) (A : Option Addr) (ops : List Op3) : Prop := ∀ i o, ops[i]? = some o → ∃ b off, A = some ⟨b, off, none⟩ ∧ b < w.heap.size ∧
  w.cell? ⟨b, off + i * 3, none⟩ = some (.int .i64 o.kind) ∧ w.cell? ⟨b, off + i * 3 + 1, none⟩ = some (.int .i64 o.n) ∧ w.cell? ⟨b, off + i * 3 + 2, none⟩ = some (.int .i64 o.lane) ∧ In64 o.kind ∧ In64 o.n ∧ In64 o.lane

theorem Ops.later {w w' : World} {A : Option Addr} {ops : List Op3} (h : Ops w A ops) (hb : Below w.heap.size w w') : Ops w' A ops := fun i o ho => by
  obtain ⟨b, off, h1, h2, h3, h4, h5, h6⟩ := h i o ho
  exact ⟨b, off, h1, Nat.lt_of_lt_of_le h2 hb.size, (hb.cell h2).trans h3, (hb.cell h2).trans h4, (hb.cell h2).trans h5, h6⟩

/-- room%64 taken twice, as the laws do it. -/
theorem room_mod (room : Int) : 0 ≤ (room.tmod 64 + 64).tmod 64 ∧ (room.tmod 64 + 64).tmod 64 ≤ 63 ∧ -63 ≤ room.tmod 64 ∧ room.tmod 64 ≤ 63 := by
  have h1 := Int.tmod_lt_of_pos room (show (0 : Int) < 64 by decide)
  have h2 := Int.lt_tmod_of_pos room (show (0 : Int) < 64 by decide)
  have h3 : (room.tmod 64 + 64).tmod 64 = (room.tmod 64 + 64) % 64 := Int.tmod_eq_emod_of_nonneg (by omega)
  rw [h3]
  omega
end Go.Proofs.Ytbncicfbgfmekaa
