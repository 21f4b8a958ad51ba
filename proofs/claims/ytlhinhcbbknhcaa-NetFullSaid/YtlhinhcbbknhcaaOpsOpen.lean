/-
  The operations that a law of chapter 14 is handed, out of the reading of its argument.
  Conditions: none beyond each theorem's own.
-/
import Derived.Test.YtlhinhcbbknhcaaOps
import Derived.ProofKit
import Derived.ChangeSlices
import Derived.Deep.Slices
import Derived.Deep.Strs
import Derived.SizedLaws
namespace Go.Proofs.Ytlhinhcbbknhcaa
set_option linter.unusedVariables false
set_option linter.unusedSimpArgs false
open Go.RowKit Go.Deep Go.ChangeShapes Go.WideShapes

theorem in64_of_wf {x : Int} (h : (Lit.int .i64 x).wf = true) : In64 x := by
  simp [Lit.wf, IntKind.min, IntKind.max, IntKind.signed, IntKind.bits] at h
  exact ⟨by omega, by omega⟩

theorem plain_of_cell {w : World} {a : Addr} {v : Value} (h : w.cell? a = some v) : a.spot = none := by
  unfold World.cell? at h
  split at h
  · cases hs : a.spot with
    | none => rfl
    | some s => simp [hs] at h
  · cases h

theorem u8_of_wf {n : Int} (h : (Lit.int .u8 n).wf = true) : 0 ≤ n ∧ n ≤ 255 := by
  simp [Lit.wf, IntKind.min, IntKind.max, IntKind.signed, IntKind.bits] at h
  omega
theorem byteV_of {n : Int} (h : 0 ≤ n ∧ n ≤ 255) : byteV (UInt8.ofNat n.toNat) = .int .u8 n := by
  have : ((UInt8.ofNat n.toNat).toNat : Int) = n := by
    rw [UInt8.toNat_ofNat']
    omega
  rw [byteV, this]

section
variable {H : Type} {enc : TypeId × Value → H} {P : Program} {w : World} {base : Nat} {spare : Nat → Bool} {held : Bool}
theorem bytes_open {t e : TypeId} {fuel : Nat} {A : Option Addr} {len cap : Nat} {x : DataW H × List MemPlace} (ht : P.underlying t = some (.slice e)) (he : P.underlying e = some (.int .u8)) (ce : P.cellsOf e = 1)
    (h : DataW.trod enc P w base spare held fuel t [.slice A len cap] = some x) :
    ∃ b : List UInt8, b.length = len ∧ Rd w A (bts b) ∧ b.length ≤ cap ∧ cap ≤ maxLen ∧ ((x.1 = .nil ∧ len = 0) ∨ ∃ elems sp, x.1 = .slice elems sp ∧ elems.length = len) := by
  rcases open_ints ht he ce h with ⟨h0, rfl⟩ | ⟨a, len', cap', zs, hcs, hb, hl, hm, hz, rfl, hcell, hwf⟩
  · simp at h0
    obtain ⟨rfl, rfl, rfl⟩ := h0
    exact ⟨[], rfl, Rd.nil _ _, Nat.zero_le _, Nat.zero_le _, .inl ⟨rfl, rfl⟩⟩
  · simp at hcs
    obtain ⟨rfl, rfl, rfl⟩ := hcs
    have hlz : len ≤ zs.length := by rw [hz]; split <;> omega
    have hlen : ((zs.take len).map fun n => UInt8.ofNat n.toNat).length = len := by simp; omega
    refine ⟨(zs.take len).map fun n => UInt8.ofNat n.toNat, hlen, fun j u hu => ?_, by rw [hlen]; omega, hm, .inr ⟨_, _, rfl, by simp [lits]; omega⟩⟩
    have hj : j < len := by
      have := (List.getElem?_eq_some_iff.1 hu).1
      rw [bts_length, hlen] at this
      exact this
    have h1 := hcell j (by omega)
    have h2 : zs[j]? = some (zs.getD j 0) := by
      rw [List.getD_eq_getElem?_getD, List.getElem?_eq_getElem (by omega)]; rfl
    have h3 : u = .int .u8 (zs.getD j 0) := by
      simp only [bts, List.map_map, List.getElem?_map, List.getElem?_take, if_pos hj, h2, Option.map_some, Function.comp, Option.some.injEq] at hu
      rw [← hu]
      exact byteV_of (u8_of_wf (hwf _ (List.mem_of_getElem? h2)))
    have hsp : a.spot = none := by simpa [Addr.add] using plain_of_cell (hcell 0 (by omega))
    obtain ⟨b0, o0, sp⟩ := a
    subst hsp
    rw [Addr.add_lit] at h1
    exact ⟨b0, o0, rfl, by rw [h3]; exact h1⟩

theorem trod_struct5 {t : TypeId} {f0 f1 f2 f3 f4 : Field} {fuel : Nat} {cs : List Value} {x : DataW H × List MemPlace} (ht : P.underlying t = some (.struct #[f0, f1, f2, f3, f4])) (h : DataW.trod enc P w base spare held fuel t cs = some x) :
    ∃ y0 y1 y2 y3 y4 n, x.1 = .agg [y0.1, y1.1, y2.1, y3.1, y4.1] ∧ cs.length = P.cellsOf t ∧ DataW.trod enc P w base spare held n f0.type ((cs.drop f0.offset).take (P.cellsOf f0.type)) = some y0 ∧
      DataW.trod enc P w base spare held n f1.type ((cs.drop f1.offset).take (P.cellsOf f1.type)) = some y1 ∧ DataW.trod enc P w base spare held n f2.type ((cs.drop f2.offset).take (P.cellsOf f2.type)) = some y2 ∧
      DataW.trod enc P w base spare held n f3.type ((cs.drop f3.offset).take (P.cellsOf f3.type)) = some y3 ∧ DataW.trod enc P w base spare held n f4.type ((cs.drop f4.offset).take (P.cellsOf f4.type)) = some y4 := by
  obtain ⟨xs, n, _, rfl, hl, hlen, hf⟩ := DataW.trod_struct ht h
  match xs, hlen with
  | [y0, y1, y2, y3, y4], _ => exact ⟨y0, y1, y2, y3, y4, n, by simp, hl, by simpa using hf 0 f0 rfl, by simpa using hf 1 f1 rfl, by simpa using hf 2 f2 rfl, by simpa using hf 3 f3 rfl, by simpa using hf 4 f4 rfl⟩

theorem weightsAll_mem {e : TypeId} {d : DataW H} : ∀ {ds : List (DataW H)}, d ∈ ds → ∀ n ∈ d.weights P e, n ∈ DataW.weightsAll P e ds
  | d' :: ds, hd, n, hn => by
    simp only [DataW.weightsAll, List.mem_append]
    rcases List.mem_cons.1 hd with rfl | hd
    · exact .inl hn
    · exact .inr (weightsAll_mem hd n hn)

theorem ops_open {t e u : TypeId} {f0 f1 f2 f3 f4 : Field} {fuel : Nat} {A : Option Addr} {len cap : Nat} {x : DataW H × List MemPlace} (ht : P.underlying t = some (.slice e)) (he : P.underlying e = some (.struct #[f0, f1, f2, f3, f4]))
    (ce : P.cellsOf e = 5) (o0 : f0.offset = 0) (o1 : f1.offset = 1) (o2 : f2.offset = 2) (o3 : f3.offset = 3) (o4 : f4.offset = 4) (c0 : P.cellsOf f0.type = 1) (c1 : P.cellsOf f1.type = 1) (c2 : P.cellsOf f2.type = 1) (c3 : P.cellsOf f3.type = 1) (c4 : P.cellsOf f4.type = 1)
    (i0 : P.underlying f0.type = some (.int .i64)) (i1 : P.underlying f1.type = some (.int .i64)) (i2 : P.underlying f2.type = some (.int .i64)) (i3 : P.underlying f3.type = some .bool) (i4 : P.underlying f4.type = some (.slice u)) (iu : P.underlying u = some (.int .u8)) (cu : P.cellsOf u = 1) (bu : P.bytesOf u = 1)
    (h : DataW.trod enc P w base spare held fuel t [.slice A len cap] = some x) (hw : ∀ n ∈ x.1.weights P t, n ≤ 140737488351232) :
    ∃ ops : List Op5, ops.length = len ∧ Ops w A ops ∧ ((x.1 = .nil ∧ len = 0) ∨ ∃ elems sp, x.1 = .slice elems sp ∧ elems.length = len) := by
  rcases open_slice ht h with ⟨h0, rfl⟩ | ⟨a, len', cap', m, n, D, Pl, hcs, hb, hl, hm, hmm, rfl, hx⟩
  · simp at h0
    obtain ⟨rfl, rfl, rfl⟩ := h0
    exact ⟨[], rfl, fun i o ho => by simp at ho, .inl ⟨rfl, rfl⟩⟩
  · simp at hcs
    obtain ⟨rfl, rfl, rfl⟩ := hcs
    have hlm : len ≤ m := by rw [hmm]; split <;> omega
    have hplain : 0 < len → a.spot = none := fun h0 => by
      obtain ⟨cs', h1, h2⟩ := hx 0 (by omega)
      rw [ce] at h1
      obtain ⟨_, hlen, hcell⟩ := World.cells?_some h1
      have h3 := hcell 0 (by omega)
      rw [List.getElem?_eq_getElem (by omega)] at h3
      have := plain_of_cell h3
      simpa [Addr.add] using this
    obtain ⟨b0, off0, sp⟩ := a
    have each : ∀ i, i < len → ∃ o : Op5, ∃ b off Ad cd, some (⟨b0, off0, sp⟩ : Addr) = some (⟨b, off, none⟩ : Addr) ∧ b < w.heap.size ∧
        w.cell? ⟨b, off + i * 5, none⟩ = some (.int .i64 o.kind) ∧ w.cell? ⟨b, off + i * 5 + 1, none⟩ = some (.int .i64 o.a) ∧ w.cell? ⟨b, off + i * 5 + 2, none⟩ = some (.int .i64 o.b) ∧
        w.cell? ⟨b, off + i * 5 + 3, none⟩ = some (.bool o.up) ∧ w.cell? ⟨b, off + i * 5 + 4, none⟩ = some (.slice Ad o.dat.length cd) ∧
        o.dat.length ≤ cd ∧ cd ≤ maxLen ∧ o.dat.length ≤ 140737488351232 ∧ Rd w Ad (bts o.dat) ∧ In64 o.kind ∧ In64 o.a ∧ In64 o.b := by
      intro i hi
      obtain rfl : sp = none := hplain (by omega)
      obtain ⟨cs', h1, h2⟩ := hx i (by omega)
      rw [ce] at h1
      obtain ⟨_, hlen, hcell⟩ := World.cells?_some h1
      obtain ⟨y0, y1, y2, y3, y4, k, hagg, hcl, t0, t1, t2, t3, t4⟩ := trod_struct5 he h2
      rw [ce] at hcl
      match cs', hcl with
      | [v0, v1, v2, v3, v4], _ =>
        simp [o0, o1, o2, o3, o4, c0, c1, c2, c3, c4] at t0 t1 t2 t3 t4
        obtain ⟨n0, e0, _, w0⟩ := DataW.trod_int i0 t0
        obtain ⟨n1, e1, _, w1⟩ := DataW.trod_int i1 t1
        obtain ⟨n2, e2, _, w2⟩ := DataW.trod_int i2 t2
        obtain ⟨b3, e3, _⟩ := DataW.trod_bool i3 t3
        simp at e0 e1 e2 e3
        subst e0 e1 e2 e3
        obtain ⟨A', l', c', hv⟩ : ∃ A' l' c', v4 = .slice A' l' c' := by
          rcases DataW.trod_slice i4 t4 with ⟨h0, _⟩ | ⟨a', l', c', _, _, _, _, h0, _⟩
          · simp at h0; exact ⟨_, _, _, h0⟩
          · simp at h0; exact ⟨_, _, _, h0⟩
        subst hv
        obtain ⟨b, hbl, hr, hc, hcm, hd⟩ := bytes_open i4 iu cu t4
        have hle : b.length ≤ 140737488351232 := by
          rcases hd with ⟨_, h0⟩ | ⟨elems, spr, he4, hl4⟩
          · omega
          · have hmem : (elems.length + spr.length) * P.bytesOf u ∈ y4.1.weights P f4.type := by rw [he4]; simp [DataW.weights, i4]
            have hmem2 : (elems.length + spr.length) * P.bytesOf u ∈ (D i).weights P e := by
              have hagg' : D i = .agg [y0.1, y1.1, y2.1, y3.1, y4.1] := hagg
              rw [hagg']
              simp only [DataW.weights, he, DataW.weightsEach, List.map_cons, List.map_nil, List.mem_append]
              exact .inr (.inr (.inr (.inr (.inl hmem))))
            have := hw _ (by
              simp only [DataW.weights, ht, List.mem_cons, List.mem_append]
              exact .inr (.inl (weightsAll_mem (List.mem_map.2 ⟨i, List.mem_range.2 hi, rfl⟩) _ hmem2)))
            rw [bu, Nat.mul_one] at this
            omega
        have g0 := hcell 0 (by omega)
        have g1 := hcell 1 (by omega)
        have g2 := hcell 2 (by omega)
        have g3 := hcell 3 (by omega)
        have g4 := hcell 4 (by omega)
        rw [add_add] at g0 g1 g2 g3 g4
        simp at g0 g1 g2 g3 g4
        simp only [Addr.add_lit] at g0 g1 g2 g3 g4
        refine ⟨⟨n0, n1, n2, b3, b⟩, b0, off0, A', c', rfl, World.block_lt_of_cell? w _ g0, g0, by rw [Nat.add_assoc]; exact g1, by rw [Nat.add_assoc]; exact g2, by rw [Nat.add_assoc]; exact g3, ?_, by omega, hcm, hle, hr, in64_of_wf w0, in64_of_wf w1, in64_of_wf w2⟩
        rw [Nat.add_assoc, hbl]; exact g4
    have : Inhabited Op5 := ⟨⟨0, 0, 0, false, []⟩⟩
    obtain ⟨f, hf⟩ := choose_lt each
    refine ⟨(List.range len).map f, by simp, fun i o ho => ?_, .inr ⟨_, _, rfl, by simp⟩⟩
    have hi : i < len := by
      have := (List.getElem?_eq_some_iff.1 ho).1
      simpa using this
    rw [List.getElem?_map, List.getElem?_range hi] at ho
    simp at ho
    subst ho
    exact hf i hi
end
end Go.Proofs.Ytlhinhcbbknhcaa
