/-
  A copy onto a row that is owned, elements of any size.
  No program stands here but as a variable. Conditions: none beyond each theorem's own.
-/
import Derived.Test.YtlhinhcbbknhcaaAppOwn
import Derived.Laws.IdiomCopy
namespace Go.Proofs.Ytlhinhcbbknhcaa
set_option linter.unusedVariables false
set_option linter.unusedSimpArgs false
open Go.RowKit

theorem run_copy_any {P : Program} (w : World) (dT sT ty elem : TypeId) (size b o dLen dCap : Nat) (a : Addr) (sLen sCap : Nat) (cs : List Value)
    (hu : P.underlying dT = some (.slice elem)) (hs : (P.info? elem).map (·.size) = some size) (hn : cs.length = Nat.min sLen dLen * size)
    (hsrc : ∀ j v, cs[j]? = some v → w.cell? (a.add j) = some v) (hc : ∀ j, j < cs.length → (w.cell? ⟨b, o + j, none⟩).isSome = true) (hf : ∀ j, j < cs.length → w.frozen? ⟨b, o + j, none⟩ = false) (h1 : ∀ v ∈ cs, v.oneCell' = true) :
    (Builtin.copy_ #[dT, sT] ty #[.slice (some ⟨b, o, none⟩) dLen dCap, .slice (some a) sLen sCap]).run P w = .ok (goInt (Nat.min sLen dLen)) (w.setCells b o cs) := by
  have hl := run_loadCells_list (P := P) w a cs hsrc
  have hst := run_storeCells_cells (P := P) b o cs 0 w (by simpa using hc) (by simpa using hf) h1
  cases hq : P.info? elem with
  | none => simp [hq] at hs
  | some i =>
    have hi : i.size = size := by simpa [hq] using hs
    rw [hn] at hl
    simp [Builtin.copy_, run_underlying hu, Builtin.lenOf, Builtin.firstCells, sizeOf, typeInfo, hq, hi, hl, hst]

theorem Own.setCells {S : Nat → Prop} {w0 : World} {L : List SP} {e : TypeId} {size n c g off : Nat} : ∀ (cs : List Value) (j : Nat) (xs : List Value) (w : World), j + cs.length ≤ xs.length → Own S w0 w (SP.row e size (.slice (some ⟨g, off, none⟩) n c) xs :: L) →
    Own S w0 (w.setCells g (off + j) cs) (SP.row e size (.slice (some ⟨g, off, none⟩) n c) (xs.take j ++ cs ++ xs.drop (j + cs.length)) :: L)
  | [], j, xs, w, hj, h => by
    simp only [List.append_nil, List.length_nil, Nat.add_zero, List.take_append_drop]
    exact h
  | v :: cs, j, xs, w, hj, h => by
    simp only [List.length_cons] at hj
    have h1 := h.store (j := j) (by omega) v
    have h2 := Own.setCells cs (j + 1) (xs.set j v) _ (by rw [List.length_set]; omega) h1
    have e1 : (xs.set j v).take (j + 1) ++ cs ++ (xs.set j v).drop (j + 1 + cs.length) = xs.take j ++ (v :: cs) ++ xs.drop (j + (v :: cs).length) := by
      rw [List.take_add_one, List.take_set_of_le (Nat.le_refl _), List.drop_set_of_lt (by omega), List.getElem?_set, if_pos rfl, if_pos (by omega)]
      simp [Nat.add_assoc, Nat.add_comm 1]
    rw [e1] at h2
    exact h2
theorem Own.widen {S : Nat → Prop} {w0 w : World} {L : List SP} {e : TypeId} {size n c g off m : Nat} {xs : List Value} (h : Own S w0 w (SP.row e size (.slice (some ⟨g, off, none⟩) n c) xs :: L)) (hm : n + m ≤ c) :
    ∃ ys : List Value, ys.length = m * size ∧ Own S w0 w (SP.row e size (.slice (some ⟨g, off, none⟩) (n + m) c) (xs ++ ys) :: L) := by
  rcases h.head with ⟨h1, _⟩ | ⟨g', off', n', cap, cur, h1, hg, hb, b1, b2, b3, b4, hx⟩
  · cases h1
  · cases h1
    have hle : (n + m) * size ≤ c * size := Nat.mul_le_mul_right _ hm
    rw [Nat.add_mul] at hle
    refine ⟨((cur.toList.drop off).drop (n * size)).take (m * size), by rw [List.length_take, List.length_drop, List.length_drop, Array.length_toList]; omega, h.imp fun T hr => ?_⟩
    rcases hr with ⟨h2, _⟩ | ⟨g2, off2, n2, cap2, cur2, h2, hg2, hb2, c1, c2, c3, c4, hx2⟩
    · cases h2
    · cases h2
      have hcur : cur2 = cur := by
        rw [hb] at hb2
        injection hb2 with hb2
        injection hb2 with hb2
        exact hb2.symm
      subst hcur
      refine .inr ⟨g, off, n + m, c, cur2, rfl, hg2, hb2, hm, c2, c3, by rw [List.length_append, c4, List.length_take, List.length_drop, List.length_drop, Array.length_toList, Nat.add_mul]; omega, ?_⟩
      rw [Nat.add_mul, List.take_add, hx2]
end Go.Proofs.Ytlhinhcbbknhcaa
