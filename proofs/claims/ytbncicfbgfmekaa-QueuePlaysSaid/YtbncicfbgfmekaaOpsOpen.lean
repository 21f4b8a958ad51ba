/-
  The operations that a law of chapter 7 is handed, out of the reading of its argument.
  Conditions: none beyond each theorem's own.
-/
import Derived.Test.YtbncicfbgfmekaaOps
import Derived.ProofKit
import Derived.Deep.Slices
import Derived.Deep.Strs
import Derived.SizedLaws
namespace Go.Proofs.Ytbncicfbgfmekaa
set_option linter.unusedVariables false
set_option linter.unusedSimpArgs false
open Go.RowKit Go.Deep Go.ChangeShapes Go.WideShapes

theorem in64_of_wf {x : Int} (h : (Lit.int .i64 x).wf = true) : In64 x := by
  simp [Lit.wf, IntKind.min, IntKind.max, IntKind.signed, IntKind.bits] at h
  exact ⟨by omega, by omega⟩

/-- A cell that is there lies at a plain place. -/
theorem plain_of_cell {w : World} {a : Addr} {v : Value} (h : w.cell? a = some v) : a.spot = none := by
  unfold World.cell? at h
  split at h
  · cases hs : a.spot with
    | none => rfl
    | some s => simp [hs] at h
  · cases h

section
variable {H : Type} {enc : TypeId × Value → H} {P : Program} {w : World} {base : Nat} {spare : Nat → Bool} {held : Bool}
theorem ops_open {t e : TypeId} {f0 f1 f2 : Field} {fuel : Nat} {A : Option Addr} {len cap : Nat} {x : DataW H × List MemPlace} (ht : P.underlying t = some (.slice e)) (he : P.underlying e = some (.struct #[f0, f1, f2]))
    (ce : P.cellsOf e = 3) (o0 : f0.offset = 0) (o1 : f1.offset = 1) (o2 : f2.offset = 2) (c0 : P.cellsOf f0.type = 1) (c1 : P.cellsOf f1.type = 1) (c2 : P.cellsOf f2.type = 1)
    (i0 : P.underlying f0.type = some (.int .i64)) (i1 : P.underlying f1.type = some (.int .i64)) (i2 : P.underlying f2.type = some (.int .i64))
    (h : DataW.trod enc P w base spare held fuel t [.slice A len cap] = some x) :
    ∃ ops : List Op3, ops.length = len ∧ Ops w A ops ∧ ((x.1 = .nil ∧ len = 0) ∨ ∃ elems sp, x.1 = .slice elems sp ∧ elems.length = len) := by
  rcases open_slice ht h with ⟨h0, rfl⟩ | ⟨a, len', cap', m, n, D, Pl, hcs, hb, hl, hm, hmm, rfl, hx⟩
  · simp at h0
    obtain ⟨rfl, rfl, rfl⟩ := h0
    exact ⟨[], rfl, fun i o ho => by simp at ho, .inl ⟨rfl, rfl⟩⟩
  · simp at hcs
    obtain ⟨rfl, rfl, rfl⟩ := hcs
    have hlm : len ≤ m := by rw [hmm]; split <;> omega
    have hplain : 0 < len → a.spot = none := fun h0 => by
      obtain ⟨cs', h1, h2⟩ := hx 0 (by omega)
      rw [ce] at h1
      obtain ⟨_, hlen, hcell⟩ := World.cells?_some h1
      have h3 := hcell 0 (by omega)
      rw [List.getElem?_eq_getElem (by omega)] at h3
      have := plain_of_cell h3
      simpa [Addr.add] using this
    obtain ⟨b0, off0, sp⟩ := a
    have each : ∀ i, i < len → ∃ o : Op3, ∃ b off, some (⟨b0, off0, sp⟩ : Addr) = some (⟨b, off, none⟩ : Addr) ∧ b < w.heap.size ∧ w.cell? ⟨b, off + i * 3, none⟩ = some (.int .i64 o.kind) ∧ w.cell? ⟨b, off + i * 3 + 1, none⟩ = some (.int .i64 o.n) ∧
        w.cell? ⟨b, off + i * 3 + 2, none⟩ = some (.int .i64 o.lane) ∧ In64 o.kind ∧ In64 o.n ∧ In64 o.lane := by
      intro i hi
      obtain rfl : sp = none := hplain (by omega)
      obtain ⟨cs', h1, h2⟩ := hx i (by omega)
      rw [ce] at h1
      obtain ⟨_, hlen, hcell⟩ := World.cells?_some h1
      obtain ⟨y0, y1, y2, k, rfl', hcl, t0, t1, t2⟩ := trod_struct3 he h2
      rw [ce] at hcl
      match cs', hcl with
      | [v0, v1, v2], _ =>
        simp [o0, o1, o2, c0, c1, c2] at t0 t1 t2
        obtain ⟨n0, e0, _, w0⟩ := DataW.trod_int i0 t0
        obtain ⟨n1, e1, _, w1⟩ := DataW.trod_int i1 t1
        obtain ⟨n2, e2, _, w2⟩ := DataW.trod_int i2 t2
        simp at e0 e1 e2
        subst e0 e1 e2
        have g0 := hcell 0 (by omega)
        have g1 := hcell 1 (by omega)
        have g2 := hcell 2 (by omega)
        rw [add_add] at g0 g1 g2
        simp at g0 g1 g2
        simp only [Addr.add_lit] at g0 g1 g2
        exact ⟨⟨n0, n1, n2⟩, b0, off0, rfl, World.block_lt_of_cell? w _ g0, g0, by rw [Nat.add_assoc]; exact g1, by rw [Nat.add_assoc]; exact g2, in64_of_wf w0, in64_of_wf w1, in64_of_wf w2⟩
    have : Inhabited Op3 := ⟨⟨0, 0, 0⟩⟩
    obtain ⟨f, hf⟩ := choose_lt each
    refine ⟨(List.range len).map f, by simp, fun i o ho => ?_, .inr ⟨_, _, rfl, by simp⟩⟩
    have hi : i < len := by
      have := (List.getElem?_eq_some_iff.1 ho).1
      simpa using this
    rw [List.getElem?_map, List.getElem?_range hi] at ho
    simp at ho
    subst ho
    exact hf i hi
end
end Go.Proofs.Ytbncicfbgfmekaa
