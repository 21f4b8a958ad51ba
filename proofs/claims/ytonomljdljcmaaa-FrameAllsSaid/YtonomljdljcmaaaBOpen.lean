/-
  Bytes, and lists of bytes, out of the reading of an argument.
  Conditions: none beyond each theorem's own.
-/
import Derived.Test.YtonomljdljcmaaaLists
import Derived.ProofKit
import Derived.ChangeSlices
import Derived.Deep.Slices
import Derived.Deep.Strs
import Derived.SizedLaws
namespace Go.Proofs.Ytonomljdljcmaaa
set_option linter.unusedVariables false
set_option linter.unusedSimpArgs false
open Go.RowKit Go.Deep Go.ChangeShapes Go.WideShapes

theorem plain_of_cell {w : World} {a : Addr} {v : Value} (h : w.cell? a = some v) : a.spot = none := by
  unfold World.cell? at h
  split at h
  · cases hs : a.spot with
    | none => rfl
    | some s => simp [hs] at h
  · cases h

theorem u8_of_wf {n : Int} (h : (Lit.int .u8 n).wf = true) : 0 ≤ n ∧ n ≤ 255 := by
  simp [Lit.wf, IntKind.min, IntKind.max, IntKind.signed, IntKind.bits] at h
  omega
theorem byteV_of {n : Int} (h : 0 ≤ n ∧ n ≤ 255) : byteV (UInt8.ofNat n.toNat) = .int .u8 n := by
  have : ((UInt8.ofNat n.toNat).toNat : Int) = n := by
    rw [UInt8.toNat_ofNat']
    omega
  rw [byteV, this]

section
variable {H : Type} {enc : TypeId × Value → H} {P : Program} {w : World} {base : Nat} {spare : Nat → Bool} {held : Bool}
theorem bytes_open {t e : TypeId} {fuel : Nat} {A : Option Addr} {len cap : Nat} {x : DataW H × List MemPlace} (ht : P.underlying t = some (.slice e)) (he : P.underlying e = some (.int .u8)) (ce : P.cellsOf e = 1)
    (h : DataW.trod enc P w base spare held fuel t [.slice A len cap] = some x) :
    ∃ b : List UInt8, b.length = len ∧ Rd w A (bts b) ∧ b.length ≤ cap ∧ cap ≤ maxLen ∧ ((x.1 = .nil ∧ len = 0) ∨ ∃ elems sp, x.1 = .slice elems sp ∧ elems.length = len) := by
  rcases open_ints ht he ce h with ⟨h0, rfl⟩ | ⟨a, len', cap', zs, hcs, hb, hl, hm, hz, rfl, hcell, hwf⟩
  · simp at h0
    obtain ⟨rfl, rfl, rfl⟩ := h0
    exact ⟨[], rfl, Rd.nil _ _, Nat.zero_le _, Nat.zero_le _, .inl ⟨rfl, rfl⟩⟩
  · simp at hcs
    obtain ⟨rfl, rfl, rfl⟩ := hcs
    have hlz : len ≤ zs.length := by rw [hz]; split <;> omega
    have hlen : ((zs.take len).map fun n => UInt8.ofNat n.toNat).length = len := by simp; omega
    refine ⟨(zs.take len).map fun n => UInt8.ofNat n.toNat, hlen, fun j u hu => ?_, by rw [hlen]; omega, hm, .inr ⟨_, _, rfl, by simp [lits]; omega⟩⟩
    have hj : j < len := by
      have := (List.getElem?_eq_some_iff.1 hu).1
      rw [bts_length, hlen] at this
      exact this
    have h1 := hcell j (by omega)
    have h2 : zs[j]? = some (zs.getD j 0) := by
      rw [List.getD_eq_getElem?_getD, List.getElem?_eq_getElem (by omega)]; rfl
    have h3 : u = .int .u8 (zs.getD j 0) := by
      simp only [bts, List.map_map, List.getElem?_map, List.getElem?_take, if_pos hj, h2, Option.map_some, Function.comp, Option.some.injEq] at hu
      rw [← hu]
      exact byteV_of (u8_of_wf (hwf _ (List.mem_of_getElem? h2)))
    have hsp : a.spot = none := by simpa [Addr.add] using plain_of_cell (hcell 0 (by omega))
    obtain ⟨b0, o0, sp⟩ := a
    subst hsp
    rw [Addr.add_lit] at h1
    exact ⟨b0, o0, rfl, by rw [h3]; exact h1⟩

theorem lists_open {t q e : TypeId} {fuel : Nat} {A : Option Addr} {len cap : Nat} {x : DataW H × List MemPlace} (ht : P.underlying t = some (.slice q)) (hq : P.underlying q = some (.slice e)) (he : P.underlying e = some (.int .u8)) (cq : P.cellsOf q = 1) (ce : P.cellsOf e = 1)
    (h : DataW.trod enc P w base spare held fuel t [.slice A len cap] = some x) :
    ∃ L : List (List UInt8), L.length = len ∧ RdM w A L ∧ len ≤ cap ∧ cap ≤ maxLen ∧ (∀ x, x ∈ L → x.length ≤ maxLen) ∧ ((x.1 = .nil ∧ len = 0) ∨ ∃ elems sp, x.1 = .slice elems sp ∧ elems.length = len) := by
  rcases open_slice1 ht cq h with ⟨h0, rfl⟩ | ⟨a, len', cap', m, n, V, D, Pl, hcs, hb, hl, hm, hmm, rfl, hx⟩
  · simp at h0
    obtain ⟨rfl, rfl, rfl⟩ := h0
    exact ⟨[], rfl, fun k xs hk => by simp at hk, Nat.le_refl _, Nat.zero_le _, fun x hx => by simp at hx, .inl ⟨rfl, rfl⟩⟩
  · simp at hcs
    obtain ⟨rfl, rfl, rfl⟩ := hcs
    have hlm : len ≤ m := by rw [hmm]; split <;> omega
    have each : ∀ i, i < len → ∃ b : List UInt8, ∃ A' c', w.cell? (a.add i) = some (.slice A' b.length c') ∧ b.length ≤ c' ∧ c' ≤ maxLen ∧ Rd w A' (bts b) := by
      intro i hi
      obtain ⟨h1, h2⟩ := hx i (by omega)
      obtain ⟨A', l', c', hv⟩ : ∃ A' l' c', V i = .slice A' l' c' := by
        rcases DataW.trod_slice hq h2 with ⟨h0, _⟩ | ⟨a', l', c', _, _, _, _, h0, _⟩
        · simp at h0; exact ⟨_, _, _, h0⟩
        · simp at h0; exact ⟨_, _, _, h0⟩
      rw [hv] at h1 h2
      obtain ⟨b, hbl, hr, hc, hcm, -⟩ := bytes_open hq he ce h2
      exact ⟨b, A', c', by rw [hbl]; exact h1, hc, hcm, hr⟩
    have : Inhabited (List UInt8) := ⟨[]⟩
    obtain ⟨f, hf⟩ := choose_lt each
    refine ⟨(List.range len).map f, by simp, fun k xs hk => ?_, hl, hm, fun x hx => ?_, .inr ⟨_, _, rfl, by simp⟩⟩
    · have hi : k < len := by
        have := (List.getElem?_eq_some_iff.1 hk).1
        simpa using this
      rw [List.getElem?_map, List.getElem?_range hi] at hk
      simp at hk
      subst hk
      obtain ⟨A', c', h1, h2, h3, h4⟩ := hf k hi
      have hsp : a.spot = none := by
        obtain ⟨_, _, g1, _⟩ := hf 0 (by omega)
        simpa [Addr.add] using plain_of_cell g1
      obtain ⟨b0, o0, sp⟩ := a
      subst hsp
      rw [Addr.add_lit] at h1
      exact ⟨b0, o0, A', c', rfl, h1, h2, h3, h4⟩
    · rw [List.mem_map] at hx
      obtain ⟨i, hi, rfl⟩ := hx
      obtain ⟨A', c', h1, h2, h3, h4⟩ := hf i (by simpa using hi)
      omega
end
end Go.Proofs.Ytonomljdljcmaaa
