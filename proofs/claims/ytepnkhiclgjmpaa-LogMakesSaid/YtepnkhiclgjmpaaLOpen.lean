/-
  The ints, entries and operations that a law of chapter 8 is handed, out of the reading of its arguments.
  Conditions: none beyond each theorem's own.
-/
import Derived.Test.YtepnkhiclgjmpaaBuilt
import Derived.ProofKit
import Derived.ChangeSlices
import Derived.Deep.Slices
import Derived.Deep.Strs
import Derived.SizedLaws
namespace Go.Proofs.Ytepnkhiclgjmpaa
set_option linter.unusedVariables false
set_option linter.unusedSimpArgs false
open Go.RowKit Go.Deep Go.ChangeShapes Go.WideShapes

theorem in64_of_wf {x : Int} (h : (Lit.int .i64 x).wf = true) : In64 x := by
  simp [Lit.wf, IntKind.min, IntKind.max, IntKind.signed, IntKind.bits] at h
  exact ⟨by omega, by omega⟩
theorem plain_of_cell {w : World} {a : Addr} {v : Value} (h : w.cell? a = some v) : a.spot = none := by
  unfold World.cell? at h
  split at h
  · cases hs : a.spot with
    | none => rfl
    | some s => simp [hs] at h
  · cases h
theorem u8_of_wf {n : Int} (h : (Lit.int .u8 n).wf = true) : 0 ≤ n ∧ n ≤ 255 := by
  simp [Lit.wf, IntKind.min, IntKind.max, IntKind.signed, IntKind.bits] at h
  omega
theorem weightsAll_mem {H : Type} {P : Program} {e : TypeId} {d : DataW H} : ∀ {ds : List (DataW H)}, d ∈ ds → ∀ n ∈ d.weights P e, n ∈ DataW.weightsAll P e ds
  | d' :: ds, hd, n, hn => by
    simp only [DataW.weightsAll, List.mem_append]
    rcases List.mem_cons.1 hd with rfl | hd
    · exact .inl hn
    · exact .inr (weightsAll_mem hd n hn)

/-- Entries as an argument. -/
def EArg (w : World) (A : Option Addr) (c : Nat) (es : List E) : Prop :=
  es.length ≤ c ∧ c ≤ maxLen ∧ es.length ≤ 140737488351232 ∧ ERd w A es ∧ ∀ m, m ∈ es → m.dat.length ≤ 140737488351232 ∧ In64 m.term ∧ In64 m.index ∧ In64 m.kind
theorem EArg.below {w w' : World} {A : Option Addr} {c : Nat} {es : List E} (h : EArg w A c es) (hb : Below w.heap.size w w') : EArg w' A c es := ⟨h.1, h.2.1, h.2.2.1, h.2.2.2.1.below hb, h.2.2.2.2⟩
structure Op8 where
  kind : Int
  n : Int
  term : Int
  m : Int
  e : List E
  b : List UInt8
instance : Inhabited Op8 := ⟨⟨0, 0, 0, 0, [], []⟩⟩
/-- Operations as an argument. -/
def Ops8 (w : World) (A : Option Addr) (l : List Op8) : Prop := ∀ i o, l[i]? = some o → ∃ b off Ae ce Ab cb, A = some ⟨b, off, none⟩ ∧ b < w.heap.size ∧
  w.cell? ⟨b, off + i * 6, none⟩ = some (.int .i64 o.kind) ∧ w.cell? ⟨b, off + i * 6 + 1, none⟩ = some (.int .i64 o.n) ∧ w.cell? ⟨b, off + i * 6 + 2, none⟩ = some (.int .i64 o.term) ∧
  w.cell? ⟨b, off + i * 6 + 3, none⟩ = some (.int .i64 o.m) ∧ w.cell? ⟨b, off + i * 6 + 4, none⟩ = some (.slice Ae o.e.length ce) ∧ w.cell? ⟨b, off + i * 6 + 5, none⟩ = some (.slice Ab o.b.length cb) ∧
  EArg w Ae ce o.e ∧ (o.b.length ≤ cb ∧ cb ≤ maxLen ∧ o.b.length ≤ 140737488351232 ∧ Rd w Ab (bts o.b)) ∧ In64 o.kind ∧ In64 o.n ∧ In64 o.term ∧ In64 o.m

section
variable {H : Type} {enc : TypeId × Value → H} {w : World} {base : Nat} {spare : Nat → Bool} {held : Bool}
theorem bytes_open {P : Program} {t e : TypeId} {fuel : Nat} {A : Option Addr} {len cap : Nat} {x : DataW H × List MemPlace} (ht : P.underlying t = some (.slice e)) (he : P.underlying e = some (.int .u8)) (ce : P.cellsOf e = 1)
    (h : DataW.trod enc P w base spare held fuel t [.slice A len cap] = some x) :
    ∃ b : List UInt8, b.length = len ∧ Rd w A (bts b) ∧ b.length ≤ cap ∧ cap ≤ maxLen ∧ ((x.1 = .nil ∧ len = 0) ∨ ∃ elems sp, x.1 = .slice elems sp ∧ elems.length = len) := by
  rcases open_ints ht he ce h with ⟨h0, rfl⟩ | ⟨a, len', cap', zs, hcs, hb, hl, hm, hz, rfl, hcell, hwf⟩
  · simp at h0
    obtain ⟨rfl, rfl, rfl⟩ := h0
    exact ⟨[], rfl, Rd.nil _ _, Nat.zero_le _, Nat.zero_le _, .inl ⟨rfl, rfl⟩⟩
  · simp at hcs
    obtain ⟨rfl, rfl, rfl⟩ := hcs
    have hlz : len ≤ zs.length := by rw [hz]; split <;> omega
    have hlen : ((zs.take len).map fun n => UInt8.ofNat n.toNat).length = len := by simp; omega
    refine ⟨(zs.take len).map fun n => UInt8.ofNat n.toNat, hlen, fun j u hu => ?_, by rw [hlen]; omega, hm, .inr ⟨_, _, rfl, by simp [lits]; omega⟩⟩
    have hj : j < len := by
      have := (List.getElem?_eq_some_iff.1 hu).1
      rw [bts_length, hlen] at this
      exact this
    have h1 := hcell j (by omega)
    have h2 : zs[j]? = some (zs.getD j 0) := by
      rw [List.getD_eq_getElem?_getD, List.getElem?_eq_getElem (by omega)]; rfl
    have h3 : u = .int .u8 (zs.getD j 0) := by
      simp only [bts, List.map_map, List.getElem?_map, List.getElem?_take, if_pos hj, h2, Option.map_some, Function.comp, Option.some.injEq] at hu
      rw [← hu]
      exact byteV_of (u8_of_wf (hwf _ (List.mem_of_getElem? h2)))
    have hsp : a.spot = none := by simpa [Addr.add] using plain_of_cell (hcell 0 (by omega))
    obtain ⟨b0, o0, sp⟩ := a
    subst hsp
    rw [Addr.add_lit] at h1
    exact ⟨b0, o0, rfl, by rw [h3]; exact h1⟩
theorem ints_open {P : Program} {t e : TypeId} {fuel : Nat} {A : Option Addr} {len cap : Nat} {x : DataW H × List MemPlace} (ht : P.underlying t = some (.slice e)) (he : P.underlying e = some (.int .i64)) (ce : P.cellsOf e = 1)
    (h : DataW.trod enc P w base spare held fuel t [.slice A len cap] = some x) :
    ∃ b : List Int, b.length = len ∧ Rd w A (ints b) := by
  rcases open_ints ht he ce h with ⟨h0, rfl⟩ | ⟨a, len', cap', zs, hcs, hb, hl, hm, hz, rfl, hcell, hwf⟩
  · simp at h0
    obtain ⟨rfl, rfl, rfl⟩ := h0
    exact ⟨[], rfl, Rd.nil _ _⟩
  · simp at hcs
    obtain ⟨rfl, rfl, rfl⟩ := hcs
    have hlz : len ≤ zs.length := by rw [hz]; split <;> omega
    have hlen : (zs.take len).length = len := by simp; omega
    refine ⟨zs.take len, hlen, fun j u hu => ?_⟩
    have hj : j < len := by
      have := (List.getElem?_eq_some_iff.1 hu).1
      rw [ints_length, hlen] at this
      exact this
    have h1 := hcell j (by omega)
    have h2 : zs[j]? = some (zs.getD j 0) := by
      rw [List.getD_eq_getElem?_getD, List.getElem?_eq_getElem (by omega)]; rfl
    have h3 : u = .int .i64 (zs.getD j 0) := by
      simp only [ints, List.getElem?_map, List.getElem?_take, if_pos hj, h2, Option.map_some, Option.some.injEq] at hu
      exact hu.symm
    have hsp : a.spot = none := by simpa [Addr.add] using plain_of_cell (hcell 0 (by omega))
    obtain ⟨b0, o0, sp⟩ := a
    subst hsp
    rw [Addr.add_lit] at h1
    exact ⟨b0, o0, rfl, by rw [h3]; exact h1⟩

theorem trod_struct4 {P : Program} {t : TypeId} {f0 f1 f2 f3 : Field} {fuel : Nat} {cs : List Value} {x : DataW H × List MemPlace} (ht : P.underlying t = some (.struct #[f0, f1, f2, f3])) (h : DataW.trod enc P w base spare held fuel t cs = some x) :
    ∃ y0 y1 y2 y3 n, x.1 = .agg [y0.1, y1.1, y2.1, y3.1] ∧ cs.length = P.cellsOf t ∧ DataW.trod enc P w base spare held n f0.type ((cs.drop f0.offset).take (P.cellsOf f0.type)) = some y0 ∧
      DataW.trod enc P w base spare held n f1.type ((cs.drop f1.offset).take (P.cellsOf f1.type)) = some y1 ∧ DataW.trod enc P w base spare held n f2.type ((cs.drop f2.offset).take (P.cellsOf f2.type)) = some y2 ∧
      DataW.trod enc P w base spare held n f3.type ((cs.drop f3.offset).take (P.cellsOf f3.type)) = some y3 := by
  obtain ⟨xs, n, _, rfl, hl, hlen, hf⟩ := DataW.trod_struct ht h
  match xs, hlen with
  | [y0, y1, y2, y3], _ => exact ⟨y0, y1, y2, y3, n, by simp, hl, by simpa using hf 0 f0 rfl, by simpa using hf 1 f1 rfl, by simpa using hf 2 f2 rfl, by simpa using hf 3 f3 rfl⟩
theorem trod_struct6 {P : Program} {t : TypeId} {f0 f1 f2 f3 f4 f5 : Field} {fuel : Nat} {cs : List Value} {x : DataW H × List MemPlace} (ht : P.underlying t = some (.struct #[f0, f1, f2, f3, f4, f5])) (h : DataW.trod enc P w base spare held fuel t cs = some x) :
    ∃ y0 y1 y2 y3 y4 y5 n, x.1 = .agg [y0.1, y1.1, y2.1, y3.1, y4.1, y5.1] ∧ cs.length = P.cellsOf t ∧ DataW.trod enc P w base spare held n f0.type ((cs.drop f0.offset).take (P.cellsOf f0.type)) = some y0 ∧
      DataW.trod enc P w base spare held n f1.type ((cs.drop f1.offset).take (P.cellsOf f1.type)) = some y1 ∧ DataW.trod enc P w base spare held n f2.type ((cs.drop f2.offset).take (P.cellsOf f2.type)) = some y2 ∧
      DataW.trod enc P w base spare held n f3.type ((cs.drop f3.offset).take (P.cellsOf f3.type)) = some y3 ∧ DataW.trod enc P w base spare held n f4.type ((cs.drop f4.offset).take (P.cellsOf f4.type)) = some y4 ∧
      DataW.trod enc P w base spare held n f5.type ((cs.drop f5.offset).take (P.cellsOf f5.type)) = some y5 := by
  obtain ⟨xs, n, _, rfl, hl, hlen, hf⟩ := DataW.trod_struct ht h
  match xs, hlen with
  | [y0, y1, y2, y3, y4, y5], _ => exact ⟨y0, y1, y2, y3, y4, y5, n, by simp, hl, by simpa using hf 0 f0 rfl, by simpa using hf 1 f1 rfl, by simpa using hf 2 f2 rfl, by simpa using hf 3 f3 rfl, by simpa using hf 4 f4 rfl, by simpa using hf 5 f5 rfl⟩

/-- What of the program's types the openers lean on. -/
structure Lay8 (P : Program) : Prop where
  u23 : P.underlying 23 = some (.slice 26)
  u24 : P.underlying 24 = some (.slice 5)
  u61 : P.underlying 61 = some (.slice 60)
  u5 : P.underlying 5 = some (.int .u8)
  u3 : P.underlying 3 = some (.int .i64)
  u26 : ∃ f0 f1 f2 f3 : Field, P.underlying 26 = some (.struct #[f0, f1, f2, f3]) ∧ f0.type = 3 ∧ f1.type = 3 ∧ f2.type = 3 ∧ f3.type = 24 ∧ f0.offset = 0 ∧ f1.offset = 1 ∧ f2.offset = 2 ∧ f3.offset = 3
  u60 : ∃ f0 f1 f2 f3 f4 f5 : Field, P.underlying 60 = some (.struct #[f0, f1, f2, f3, f4, f5]) ∧ f0.type = 3 ∧ f1.type = 3 ∧ f2.type = 3 ∧ f3.type = 3 ∧ f4.type = 23 ∧ f5.type = 24 ∧ f0.offset = 0 ∧ f1.offset = 1 ∧ f2.offset = 2 ∧ f3.offset = 3 ∧ f4.offset = 4 ∧ f5.offset = 5
  c26 : P.cellsOf 26 = 4
  c60 : P.cellsOf 60 = 6
  c3 : P.cellsOf 3 = 1
  c23 : P.cellsOf 23 = 1
  c24 : P.cellsOf 24 = 1
  c5 : P.cellsOf 5 = 1
  b5 : P.bytesOf 5 = 1
  b26 : P.bytesOf 26 = 48
  b60 : P.bytesOf 60 = 80
theorem lay8 : Lay8 Try.prog := ⟨Try.underlying23, Try.underlying24, Try.underlying61, Try.underlying5, Try.underlying3, ⟨_, _, _, _, Try.underlying26, rfl, rfl, rfl, rfl, rfl, rfl, rfl, rfl⟩, ⟨_, _, _, _, _, _, Try.underlying60, rfl, rfl, rfl, rfl, rfl, rfl, rfl, rfl, rfl, rfl, rfl, rfl⟩,
  by kernel_rfl, by kernel_rfl, by kernel_rfl, by kernel_rfl, by kernel_rfl, by kernel_rfl, by kernel_rfl, by kernel_rfl, by kernel_rfl⟩

theorem ents_open {P : Program} (K : Lay8 P) {fuel : Nat} {A : Option Addr} {len cap : Nat} {x : DataW H × List MemPlace}
    (h : DataW.trod enc P w base spare held fuel 23 [.slice A len cap] = some x) (hw : ∀ n ∈ x.1.weights P 23, n ≤ 140737488351232) :
    ∃ es : List E, es.length = len ∧ EArg w A cap es := by
  rcases open_slice K.u23 h with ⟨h0, rfl⟩ | ⟨a, len', cap', m, n, D, Pl, hcs, hb, hl, hm, hmm, rfl, hx⟩
  · simp at h0
    obtain ⟨rfl, rfl, rfl⟩ := h0
    exact ⟨[], rfl, Nat.le_refl _, Nat.zero_le _, Nat.zero_le _, ERd.nil _ _, fun m hm => by cases hm⟩
  · simp at hcs
    obtain ⟨rfl, rfl, rfl⟩ := hcs
    obtain ⟨f0, f1, f2, f3, hs26, y0, y1, y2, y3, z0, z1, z2, z3⟩ := K.u26
    have ce := K.c26
    have c3 := K.c3
    have c24 := K.c24
    have c5 := K.c5
    have b5 := K.b5
    have b26 := K.b26
    have hlm : len ≤ m := by rw [hmm]; split <;> omega
    have hplain : 0 < len → a.spot = none := fun h0 => by
      obtain ⟨cs', h1, h2⟩ := hx 0 (by omega)
      rw [ce] at h1
      obtain ⟨_, hlen, hcell⟩ := World.cells?_some h1
      have h3 := hcell 0 (by omega)
      rw [List.getElem?_eq_getElem (by omega)] at h3
      have := plain_of_cell h3
      simpa [Addr.add] using this
    obtain ⟨b0, off0, sp⟩ := a
    have each : ∀ i, i < len → ∃ o : E, ∃ b off Ad cd, some (⟨b0, off0, sp⟩ : Addr) = some (⟨b, off, none⟩ : Addr) ∧ b < w.heap.size ∧
        w.cell? ⟨b, off + i * 4, none⟩ = some (.int .i64 o.term) ∧ w.cell? ⟨b, off + i * 4 + 1, none⟩ = some (.int .i64 o.index) ∧ w.cell? ⟨b, off + i * 4 + 2, none⟩ = some (.int .i64 o.kind) ∧
        w.cell? ⟨b, off + i * 4 + 3, none⟩ = some (.slice Ad o.dat.length cd) ∧
        o.dat.length ≤ cd ∧ cd ≤ maxLen ∧ Rd w Ad (bts o.dat) ∧ o.dat.length ≤ 140737488351232 ∧ In64 o.term ∧ In64 o.index ∧ In64 o.kind := by
      intro i hi
      obtain rfl : sp = none := hplain (by omega)
      obtain ⟨cs', h1, h2⟩ := hx i (by omega)
      rw [ce] at h1
      obtain ⟨_, hlen, hcell⟩ := World.cells?_some h1
      obtain ⟨p0, p1, p2, p3, k, hagg, hcl, t0, t1, t2, t3⟩ := trod_struct4 hs26 h2
      rw [ce] at hcl
      match cs', hcl with
      | [v0, v1, v2, v3], _ =>
        simp [c3, c24, y0, y1, y2, y3, z0, z1, z2, z3] at t0 t1 t2 t3
        obtain ⟨n0, e0, _, w0⟩ := DataW.trod_int K.u3 t0
        obtain ⟨n1, e1, _, w1⟩ := DataW.trod_int K.u3 t1
        obtain ⟨n2, e2, _, w2⟩ := DataW.trod_int K.u3 t2
        simp at e0 e1 e2
        subst e0 e1 e2
        obtain ⟨A', l', c', hv⟩ : ∃ A' l' c', v3 = .slice A' l' c' := by
          rcases DataW.trod_slice K.u24 t3 with ⟨h0, _⟩ | ⟨a', l', c', _, _, _, _, h0, _⟩
          · simp at h0; exact ⟨_, _, _, h0⟩
          · simp at h0; exact ⟨_, _, _, h0⟩
        subst hv
        obtain ⟨b, hbl, hr, hc, hcm, hd⟩ := bytes_open K.u24 K.u5 c5 t3
        have hle : b.length ≤ 140737488351232 := by
          rcases hd with ⟨_, h0⟩ | ⟨elems, spr, he4, hl4⟩
          · omega
          · have hmem : (elems.length + spr.length) * P.bytesOf 5 ∈ p3.1.weights P 24 := by rw [he4]; simp [DataW.weights, K.u24]
            have hmem2 : (elems.length + spr.length) * P.bytesOf 5 ∈ (D i).weights P 26 := by
              have hagg' : D i = .agg [p0.1, p1.1, p2.1, p3.1] := hagg
              rw [hagg']
              simp only [DataW.weights, hs26, DataW.weightsEach, y3, List.map_cons, List.map_nil, List.mem_append]
              exact .inr (.inr (.inr (.inl hmem)))
            have := hw _ (by
              simp only [DataW.weights, K.u23, List.mem_cons, List.mem_append]
              exact .inr (.inl (weightsAll_mem (List.mem_map.2 ⟨i, List.mem_range.2 hi, rfl⟩) _ hmem2)))
            rw [b5, Nat.mul_one] at this
            omega
        have g0 := hcell 0 (by omega)
        have g1 := hcell 1 (by omega)
        have g2 := hcell 2 (by omega)
        have g3 := hcell 3 (by omega)
        rw [add_add] at g0 g1 g2 g3
        simp at g0 g1 g2 g3
        simp only [Addr.add_lit] at g0 g1 g2 g3
        refine ⟨⟨n0, n1, n2, b⟩, b0, off0, A', c', rfl, World.block_lt_of_cell? w _ g0, g0, by rw [Nat.add_assoc]; exact g1, by rw [Nat.add_assoc]; exact g2, ?_, by omega, hcm, hr, hle, in64_of_wf w0, in64_of_wf w1, in64_of_wf w2⟩
        rw [Nat.add_assoc, hbl]; exact g3
    obtain ⟨f, hf⟩ := choose_lt each
    have hfl : ((List.range len).map f).length = len := by simp
    have get : ∀ {i : Nat} {o : E}, ((List.range len).map f)[i]? = some o → i < len ∧ o = f i := fun {i o} ho => by
      have hi : i < len := by
        have := (List.getElem?_eq_some_iff.1 ho).1
        simpa using this
      rw [List.getElem?_map, List.getElem?_range hi] at ho
      simp at ho
      exact ⟨hi, ho.symm⟩
    refine ⟨(List.range len).map f, hfl, by omega, hm, ?_, fun i o ho => ?_, fun o ho => ?_⟩
    · have := hw (((List.range len).map D ).length * 48 + (m - len) * 48) (by
        simp only [DataW.weights, K.u23, List.mem_cons, List.mem_append, b26]
        left; simp [Nat.add_mul])
      rw [List.length_map, List.length_range] at this
      rw [hfl]; omega
    · obtain ⟨hi, rfl⟩ := get ho
      obtain ⟨b, off, Ad, cd, h1, h2, h3, h4, h5, h6, h7, h8, h9, -⟩ := hf i hi
      exact ⟨b, off, Ad, cd, h1, h2, h3, h4, h5, h6, h7, h8, h9⟩
    · obtain ⟨i, hi⟩ := List.getElem?_of_mem ho
      obtain ⟨hi', rfl⟩ := get hi
      obtain ⟨b, off, Ad, cd, h1, h2, h3, h4, h5, h6, h7, h8, h9, h10⟩ := hf i hi'
      exact h10

theorem ops_open {P : Program} (K : Lay8 P) {fuel : Nat} {A : Option Addr} {len cap : Nat} {x : DataW H × List MemPlace}
    (h : DataW.trod enc P w base spare held fuel 61 [.slice A len cap] = some x) (hw : ∀ n ∈ x.1.weights P 61, n ≤ 140737488351232) :
    ∃ es : List Op8, es.length = len ∧ Ops8 w A es ∧ es.length ≤ 140737488351232 := by
  rcases open_slice K.u61 h with ⟨h0, rfl⟩ | ⟨a, len', cap', m, n, D, Pl, hcs, hb, hl, hm, hmm, rfl, hx⟩
  · simp at h0
    obtain ⟨rfl, rfl, rfl⟩ := h0
    exact ⟨[], rfl, fun i o ho => by simp at ho, Nat.zero_le _⟩
  · simp at hcs
    obtain ⟨rfl, rfl, rfl⟩ := hcs
    obtain ⟨f0, f1, f2, f3, f4, f5, hs60, y0, y1, y2, y3, y4, y5, z0, z1, z2, z3, z4, z5⟩ := K.u60
    have ce := K.c60
    have c3 := K.c3
    have c24 := K.c24
    have c23 := K.c23
    have c5 := K.c5
    have b5 := K.b5
    have b60 := K.b60
    have hlm : len ≤ m := by rw [hmm]; split <;> omega
    have hplain : 0 < len → a.spot = none := fun h0 => by
      obtain ⟨cs', h1, h2⟩ := hx 0 (by omega)
      rw [ce] at h1
      obtain ⟨_, hlen, hcell⟩ := World.cells?_some h1
      have h3 := hcell 0 (by omega)
      rw [List.getElem?_eq_getElem (by omega)] at h3
      have := plain_of_cell h3
      simpa [Addr.add] using this
    obtain ⟨b0, off0, sp⟩ := a
    have each : ∀ i, i < len → ∃ o : Op8, ∃ b off Ae ce Ab cb, some (⟨b0, off0, sp⟩ : Addr) = some (⟨b, off, none⟩ : Addr) ∧ b < w.heap.size ∧
        w.cell? ⟨b, off + i * 6, none⟩ = some (.int .i64 o.kind) ∧ w.cell? ⟨b, off + i * 6 + 1, none⟩ = some (.int .i64 o.n) ∧ w.cell? ⟨b, off + i * 6 + 2, none⟩ = some (.int .i64 o.term) ∧
        w.cell? ⟨b, off + i * 6 + 3, none⟩ = some (.int .i64 o.m) ∧ w.cell? ⟨b, off + i * 6 + 4, none⟩ = some (.slice Ae o.e.length ce) ∧ w.cell? ⟨b, off + i * 6 + 5, none⟩ = some (.slice Ab o.b.length cb) ∧
        EArg w Ae ce o.e ∧ (o.b.length ≤ cb ∧ cb ≤ maxLen ∧ o.b.length ≤ 140737488351232 ∧ Rd w Ab (bts o.b)) ∧ In64 o.kind ∧ In64 o.n ∧ In64 o.term ∧ In64 o.m := by
      intro i hi
      obtain rfl : sp = none := hplain (by omega)
      obtain ⟨cs', h1, h2⟩ := hx i (by omega)
      rw [ce] at h1
      obtain ⟨_, hlen, hcell⟩ := World.cells?_some h1
      obtain ⟨p0, p1, p2, p3, p4, p5, k, hagg, hcl, t0, t1, t2, t3, t4, t5⟩ := trod_struct6 hs60 h2
      rw [ce] at hcl
      match cs', hcl with
      | [v0, v1, v2, v3, v4, v5], _ =>
        simp [c3, c24, c23, y0, y1, y2, y3, y4, y5, z0, z1, z2, z3, z4, z5] at t0 t1 t2 t3 t4 t5
        obtain ⟨n0, e0, _, w0⟩ := DataW.trod_int K.u3 t0
        obtain ⟨n1, e1, _, w1⟩ := DataW.trod_int K.u3 t1
        obtain ⟨n2, e2, _, w2⟩ := DataW.trod_int K.u3 t2
        obtain ⟨n3, e3, _, w3⟩ := DataW.trod_int K.u3 t3
        simp at e0 e1 e2 e3
        subst e0 e1 e2 e3
        obtain ⟨A', l', c', hv⟩ : ∃ A' l' c', v4 = .slice A' l' c' := by
          rcases DataW.trod_slice K.u23 t4 with ⟨h0, _⟩ | ⟨a', l', c', _, _, _, _, h0, _⟩
          · simp at h0; exact ⟨_, _, _, h0⟩
          · simp at h0; exact ⟨_, _, _, h0⟩
        subst hv
        obtain ⟨A2, l2, c2, hv⟩ : ∃ A' l' c', v5 = .slice A' l' c' := by
          rcases DataW.trod_slice K.u24 t5 with ⟨h0, _⟩ | ⟨a', l', c', _, _, _, _, h0, _⟩
          · simp at h0; exact ⟨_, _, _, h0⟩
          · simp at h0; exact ⟨_, _, _, h0⟩
        subst hv
        have each2 : ∀ n, n ∈ p4.1.weights P 23 ∨ n ∈ p5.1.weights P 24 → n ≤ 140737488351232 := fun n hn => hw _ (by
          have hmem2 : n ∈ (D i).weights P 60 := by
            have hagg' : D i = .agg [p0.1, p1.1, p2.1, p3.1, p4.1, p5.1] := hagg
            rw [hagg']
            simp only [DataW.weights, hs60, DataW.weightsEach, y4, y5, List.map_cons, List.map_nil, List.mem_append]
            rcases hn with hn | hn
            · exact .inr (.inr (.inr (.inr (.inl hn))))
            · exact .inr (.inr (.inr (.inr (.inr (.inl hn)))))
          simp only [DataW.weights, K.u61, List.mem_cons, List.mem_append]
          exact .inr (.inl (weightsAll_mem (List.mem_map.2 ⟨i, List.mem_range.2 hi, rfl⟩) _ hmem2)))
        obtain ⟨es, hel, hE⟩ := ents_open K t4 (fun n hn => each2 n (.inl hn))
        obtain ⟨b, hbl, hr, hc, hcm, hd⟩ := bytes_open K.u24 K.u5 c5 t5
        have hle : b.length ≤ 140737488351232 := by
          rcases hd with ⟨_, h0⟩ | ⟨elems, spr, he4, hl4⟩
          · omega
          · have := each2 ((elems.length + spr.length) * P.bytesOf 5) (.inr (by rw [he4]; simp [DataW.weights, K.u24]))
            rw [b5, Nat.mul_one] at this
            omega
        have g0 := hcell 0 (by omega)
        have g1 := hcell 1 (by omega)
        have g2 := hcell 2 (by omega)
        have g3 := hcell 3 (by omega)
        have g4 := hcell 4 (by omega)
        have g5 := hcell 5 (by omega)
        rw [add_add] at g0 g1 g2 g3 g4 g5
        simp at g0 g1 g2 g3 g4 g5
        simp only [Addr.add_lit] at g0 g1 g2 g3 g4 g5
        refine ⟨⟨n0, n1, n2, n3, es, b⟩, b0, off0, A', c', A2, c2, rfl, World.block_lt_of_cell? w _ g0, g0, by rw [Nat.add_assoc]; exact g1, by rw [Nat.add_assoc]; exact g2, by rw [Nat.add_assoc]; exact g3, ?_, ?_, hE, ⟨by omega, hcm, hle, hr⟩, in64_of_wf w0, in64_of_wf w1, in64_of_wf w2, in64_of_wf w3⟩
        · rw [Nat.add_assoc, hel]; exact g4
        · rw [Nat.add_assoc, hbl]; exact g5
    obtain ⟨f, hf⟩ := choose_lt each
    have hfl : ((List.range len).map f).length = len := by simp
    refine ⟨(List.range len).map f, hfl, fun i o ho => ?_, ?_⟩
    · have hi : i < len := by
        have := (List.getElem?_eq_some_iff.1 ho).1
        simpa using this
      rw [List.getElem?_map, List.getElem?_range hi] at ho
      simp at ho
      subst ho
      exact hf i hi
    · have := hw (((List.range len).map D ).length * 80 + (m - len) * 80) (by
        simp only [DataW.weights, K.u61, List.mem_cons, List.mem_append, b60]
        left; simp [Nat.add_mul])
      rw [List.length_map, List.length_range] at this
      rw [hfl]; omega
end
end Go.Proofs.Ytepnkhiclgjmpaa
