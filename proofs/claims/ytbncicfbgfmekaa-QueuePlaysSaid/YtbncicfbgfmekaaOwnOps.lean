/-
  Steps on slices that a law owns: reading, storing, cutting, appending.
  Conditions: none beyond each theorem's own.
-/
import Derived.Test.YtbncicfbgfmekaaRowOps
namespace Go.Proofs.Ytbncicfbgfmekaa
set_option linter.unusedVariables false
set_option linter.unusedSimpArgs false
open Go.RowKit

section
variable {S : Nat → Prop} {w0 w : World} {R : List SP} {e : TypeId} {size n c : Nat} {A : Option Addr} {xs : List Value}

theorem Own.rd (h : Own S w0 w (SP.row e size (.slice A n c) xs :: R)) : Rd w A xs := Rd.of_row h.head
theorem Own.cell {j : Nat} {u : Value} (h : Own S w0 w (SP.row e size (.slice A n c) xs :: R)) (hu : xs[j]? = some u) : ∃ g off, A = some ⟨g, off, none⟩ ∧ w.cell? ⟨g, off + j, none⟩ = some u ∧ w.frozen? ⟨g, off + j, none⟩ = false := by
  obtain ⟨g, off, h1, _, h2, h3⟩ := SP.row_cell h.head hu
  exact ⟨g, off, h1, h2, h3⟩
theorem Own.store {g off j : Nat} (h : Own S w0 w (SP.row e size (.slice (some ⟨g, off, none⟩) n c) xs :: R)) (hj : j < xs.length) (u : Value) :
    Own S w0 (w.setCell ⟨g, off + j, none⟩ u) (SP.row e size (.slice (some ⟨g, off, none⟩) n c) (xs.set j u) :: R) := by
  obtain ⟨T, hr, hlt, hback⟩ := h.open
  obtain ⟨g', off', e1, hT, _, _⟩ := SP.row_cell hr (j := j) (List.getElem?_eq_getElem hj)
  injection e1 with e1
  injection e1 with e1 e2
  subst e1 e2
  exact hback _ _ ((Keeps.refl _ _).setCell (.inl hT) u) ((SP.row e size _ _).mono (SP.row_store hr hj u) (fun k hk => .inl hk))

/-- A cut, as the walk spells it. -/
theorem Own.cutLit {g off k : Nat} (h : Own S w0 w (SP.row e 1 (.slice (some ⟨g, off, none⟩) n c) xs :: R)) (hk : k ≤ n) (hn : n ≤ c) (hx : xs.length = n) :
    Own S w0 w (SP.row e 1 (.slice (if c = k then some ⟨g, off, none⟩ else some ⟨g, off + k, none⟩) (n - k) (c - k)) (xs.drop k) :: R) :=
  h.imp fun T hr => by
    have := SP.row_cut hr (l := k) (h' := n) (m := c) hk (Nat.le_refl _) hn (Nat.le_refl _)
    rw [Nat.mul_one, Nat.mul_one, List.take_of_length_le (by rw [List.length_drop]; omega)] at this
    simp only [sliced, Nat.mul_one, Option.map_some, Addr.add_lit] at this
    exact this

/-- An append: what the law on append asks, and the way back. -/
theorem Own.grow1 (h : Own S w0 w (SP.row e size (.slice A n c) xs :: R)) (cs : Array Value) (t : TypeId) :
    ∃ T : Nat → Prop, (SP.row e size (.slice A n c) xs).At (w.alloc (.cells cs t)) T ∧ ∀ w' A', Keeps T (w.alloc (.cells cs t)) w' → SP.At A' w' (grow T (w.alloc (.cells cs t)) w') → Own S w0 w' (A' :: R) := by
  obtain ⟨T, h1, _, h3⟩ := (h.move ((Below.refl _ _).alloc (Nat.le_refl _) (.cells cs t))).open
  exact ⟨T, h1, h3⟩
theorem Own.row_le (hs : 0 < size) (h : Own S w0 w (SP.row e size (.slice A n c) xs :: R)) (hx : xs.length = n * size) : n ≤ c ∧ c ≤ maxLen := by
  obtain ⟨A', c', h1, h2, h3⟩ := SP.row_shape hs h.head hx
  injection h1 with _ _ h1
  subst h1
  exact ⟨h2, h3⟩
theorem Own.row_none (h : Own S w0 w (SP.row e size (.slice none n c) xs :: R)) : n = 0 ∧ c = 0 ∧ xs = [] := by
  rcases h.head with ⟨h1, h2⟩ | ⟨g, off, n', cap, cur, h1, _⟩
  · injection h1 with _ h3 h4
    exact ⟨h3, h4, h2⟩
  · cases h1
theorem Own.row_addr {v : Value} (h : Own S w0 w (SP.row e size v xs :: R)) : (v = .slice none 0 0 ∧ xs = []) ∨ ∃ g off n c, v = .slice (some ⟨g, off, none⟩) n c := by
  rcases h.head with h1 | ⟨g, off, n', cap, cur, h1, _⟩
  · exact .inl h1
  · exact .inr ⟨g, off, n', cap, h1⟩
end
end Go.Proofs.Ytbncicfbgfmekaa
