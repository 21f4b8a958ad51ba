/-
  The deeds that LogMatching is handed, out of the reading of its argument.
  Conditions: none beyond each theorem's own.
-/
import Derived.Test.YtepnkhiclgjmpaaLOpen
namespace Go.Proofs.Ytepnkhiclgjmpaa
set_option linter.unusedVariables false
set_option linter.unusedSimpArgs false
open Go.RowKit Go.Deep Go.ChangeShapes Go.WideShapes

structure Deed5 where
  kind : Int
  of_ : Int
  to_ : Int
  n : Int
  m : Int
instance : Inhabited Deed5 := ⟨⟨0, 0, 0, 0, 0⟩⟩
def Deeds (w : World) (A : Option Addr) (l : List Deed5) : Prop := ∀ (i : Nat) (o : Deed5), l[i]? = some o → ∃ b off, A = some ⟨b, off, none⟩ ∧ b < w.heap.size ∧
  w.cell? ⟨b, off + i * 5, none⟩ = some (.int .i64 o.kind) ∧ w.cell? ⟨b, off + i * 5 + 1, none⟩ = some (.int .i64 o.of_) ∧ w.cell? ⟨b, off + i * 5 + 2, none⟩ = some (.int .i64 o.to_) ∧
  w.cell? ⟨b, off + i * 5 + 3, none⟩ = some (.int .i64 o.n) ∧ w.cell? ⟨b, off + i * 5 + 4, none⟩ = some (.int .i64 o.m) ∧ In64 o.kind ∧ In64 o.of_ ∧ In64 o.to_ ∧ In64 o.n ∧ In64 o.m

section
variable {H : Type} {enc : TypeId × Value → H} {w : World} {base : Nat} {spare : Nat → Bool} {held : Bool}
theorem trod_struct5 {P : Program} {t : TypeId} {f0 f1 f2 f3 f4 : Field} {fuel : Nat} {cs : List Value} {x : DataW H × List MemPlace} (ht : P.underlying t = some (.struct #[f0, f1, f2, f3, f4])) (h : DataW.trod enc P w base spare held fuel t cs = some x) :
    ∃ y0 y1 y2 y3 y4 n, x.1 = .agg [y0.1, y1.1, y2.1, y3.1, y4.1] ∧ cs.length = P.cellsOf t ∧ DataW.trod enc P w base spare held n f0.type ((cs.drop f0.offset).take (P.cellsOf f0.type)) = some y0 ∧
      DataW.trod enc P w base spare held n f1.type ((cs.drop f1.offset).take (P.cellsOf f1.type)) = some y1 ∧ DataW.trod enc P w base spare held n f2.type ((cs.drop f2.offset).take (P.cellsOf f2.type)) = some y2 ∧
      DataW.trod enc P w base spare held n f3.type ((cs.drop f3.offset).take (P.cellsOf f3.type)) = some y3 ∧ DataW.trod enc P w base spare held n f4.type ((cs.drop f4.offset).take (P.cellsOf f4.type)) = some y4 := by
  obtain ⟨xs, n, _, rfl, hl, hlen, hf⟩ := DataW.trod_struct ht h
  match xs, hlen with
  | [y0, y1, y2, y3, y4], _ => exact ⟨y0, y1, y2, y3, y4, n, by simp, hl, by simpa using hf 0 f0 rfl, by simpa using hf 1 f1 rfl, by simpa using hf 2 f2 rfl, by simpa using hf 3 f3 rfl, by simpa using hf 4 f4 rfl⟩
structure LayD (P : Program) : Prop where
  u50 : P.underlying 50 = some (.slice 53)
  u3 : P.underlying 3 = some (.int .i64)
  u53 : ∃ f0 f1 f2 f3 f4 : Field, P.underlying 53 = some (.struct #[f0, f1, f2, f3, f4]) ∧ f0.type = 3 ∧ f1.type = 3 ∧ f2.type = 3 ∧ f3.type = 3 ∧ f4.type = 3 ∧ f0.offset = 0 ∧ f1.offset = 1 ∧ f2.offset = 2 ∧ f3.offset = 3 ∧ f4.offset = 4
  c53 : P.cellsOf 53 = 5
  c3 : P.cellsOf 3 = 1
theorem layD : LayD Try.prog := ⟨Try.underlying50, Try.underlying3, ⟨_, _, _, _, _, Try.underlying53, rfl, rfl, rfl, rfl, rfl, rfl, rfl, rfl, rfl, rfl⟩, by kernel_rfl, by kernel_rfl⟩
theorem deeds_open {P : Program} (K : LayD P) {fuel : Nat} {A : Option Addr} {len cap : Nat} {x : DataW H × List MemPlace}
    (h : DataW.trod enc P w base spare held fuel 50 [.slice A len cap] = some x) :
    ∃ l : List Deed5, l.length = len ∧ Deeds w A l := by
  rcases open_slice K.u50 h with ⟨h0, rfl⟩ | ⟨a, len', cap', m, n, D, Pl, hcs, hb, hl, hm, hmm, rfl, hx⟩
  · simp at h0
    obtain ⟨rfl, rfl, rfl⟩ := h0
    exact ⟨[], rfl, fun i o ho => by simp at ho⟩
  · simp at hcs
    obtain ⟨rfl, rfl, rfl⟩ := hcs
    obtain ⟨f0, f1, f2, f3, f4, hs53, y0, y1, y2, y3, y4, z0, z1, z2, z3, z4⟩ := K.u53
    have ce := K.c53
    have c3 := K.c3
    have hlm : len ≤ m := by rw [hmm]; split <;> omega
    have hplain : 0 < len → a.spot = none := fun h0 => by
      obtain ⟨cs', h1, h2⟩ := hx 0 (by omega)
      rw [ce] at h1
      obtain ⟨_, hlen, hcell⟩ := World.cells?_some h1
      have h3 := hcell 0 (by omega)
      rw [List.getElem?_eq_getElem (by omega)] at h3
      have := plain_of_cell h3
      simpa [Addr.add] using this
    obtain ⟨b0, off0, sp⟩ := a
    have each : ∀ i, i < len → ∃ o : Deed5, ∃ b off, some (⟨b0, off0, sp⟩ : Addr) = some (⟨b, off, none⟩ : Addr) ∧ b < w.heap.size ∧
        w.cell? ⟨b, off + i * 5, none⟩ = some (.int .i64 o.kind) ∧ w.cell? ⟨b, off + i * 5 + 1, none⟩ = some (.int .i64 o.of_) ∧ w.cell? ⟨b, off + i * 5 + 2, none⟩ = some (.int .i64 o.to_) ∧
        w.cell? ⟨b, off + i * 5 + 3, none⟩ = some (.int .i64 o.n) ∧ w.cell? ⟨b, off + i * 5 + 4, none⟩ = some (.int .i64 o.m) ∧ In64 o.kind ∧ In64 o.of_ ∧ In64 o.to_ ∧ In64 o.n ∧ In64 o.m := by
      intro i hi
      obtain rfl : sp = none := hplain (by omega)
      obtain ⟨cs', h1, h2⟩ := hx i (by omega)
      rw [ce] at h1
      obtain ⟨_, hlen, hcell⟩ := World.cells?_some h1
      obtain ⟨p0, p1, p2, p3, p4, k, hagg, hcl, t0, t1, t2, t3, t4⟩ := trod_struct5 hs53 h2
      rw [ce] at hcl
      match cs', hcl with
      | [v0, v1, v2, v3, v4], _ =>
        simp [c3, y0, y1, y2, y3, y4, z0, z1, z2, z3, z4] at t0 t1 t2 t3 t4
        obtain ⟨n0, e0, _, w0⟩ := DataW.trod_int K.u3 t0
        obtain ⟨n1, e1, _, w1⟩ := DataW.trod_int K.u3 t1
        obtain ⟨n2, e2, _, w2⟩ := DataW.trod_int K.u3 t2
        obtain ⟨n3, e3, _, w3⟩ := DataW.trod_int K.u3 t3
        obtain ⟨n4, e4, _, w4⟩ := DataW.trod_int K.u3 t4
        simp at e0 e1 e2 e3 e4
        subst e0 e1 e2 e3 e4
        have g0 := hcell 0 (by omega)
        have g1 := hcell 1 (by omega)
        have g2 := hcell 2 (by omega)
        have g3 := hcell 3 (by omega)
        have g4 := hcell 4 (by omega)
        rw [add_add] at g0 g1 g2 g3 g4
        simp at g0 g1 g2 g3 g4
        simp only [Addr.add_lit] at g0 g1 g2 g3 g4
        exact ⟨⟨n0, n1, n2, n3, n4⟩, b0, off0, rfl, World.block_lt_of_cell? w _ g0, g0, by rw [Nat.add_assoc]; exact g1, by rw [Nat.add_assoc]; exact g2, by rw [Nat.add_assoc]; exact g3, by rw [Nat.add_assoc]; exact g4, in64_of_wf w0, in64_of_wf w1, in64_of_wf w2, in64_of_wf w3, in64_of_wf w4⟩
    obtain ⟨f, hf⟩ := choose_lt each
    refine ⟨(List.range len).map f, by simp, fun i o ho => ?_⟩
    have hi : i < len := by
      have := (List.getElem?_eq_some_iff.1 ho).1
      simpa using this
    rw [List.getElem?_map, List.getElem?_range hi] at ho
    simp at ho
    subst ho
    exact hf i hi
end
end Go.Proofs.Ytepnkhiclgjmpaa
