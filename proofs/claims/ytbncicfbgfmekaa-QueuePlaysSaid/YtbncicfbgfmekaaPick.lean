/-
  What is owned, put into another order by places, or let go; blocks that are stored into.
  Conditions: none beyond each theorem's own.
-/
import Derived.Test.YtbncicfbgfmekaaStepOwn
namespace Go.Proofs.Ytbncicfbgfmekaa
set_option linter.unusedVariables false
set_option linter.unusedSimpArgs false
open Go.RowKit

theorem filterMap_range {α : Type} (L : List α) : (List.range L.length).filterMap (L[·]?) = L := by
  induction L with
  | nil => rfl
  | cons x L ih =>
    rw [List.length_cons, List.range_succ_eq_map, List.filterMap_cons]
    simp only [List.getElem?_cons_zero, List.filterMap_map]
    congr 1

section
variable {S : Nat → Prop} {w0 w : World} {L R : List SP}
theorem Own.drop_left {L1 L2 : List SP} (h : Own S w0 w (L1 ++ L2)) : Own S w0 w L2 := ⟨h.lt, h.keeps, SP.sep_right (SP.stars_split h.at_)⟩
/-- Those at these places, in this order; the others are let go. -/
theorem Own.pick (h : Own S w0 w (L ++ R)) (idx : List Nat) (hp : (List.range L.length).isPerm (idx ++ (List.range L.length).filter (fun i => !idx.contains i)) = true := by rfl) : Own S w0 w (idx.filterMap (L[·]?) ++ R) := by
  have h1 := (List.isPerm_iff.1 hp).filterMap (L[·]?)
  rw [filterMap_range, List.filterMap_append] at h1
  have h2 := h.perm ((h1.append_right R).trans ((List.perm_append_comm.append_right R)))
  rw [List.append_assoc] at h2
  exact h2.drop_left
theorem Own.blk_free {g : Nat} {t : TypeId} {cs : Array Value} (h : Own S w0 w (SP.blk g t cs :: R)) (i : Nat) : w.frozen? ⟨g, i, none⟩ = false := frozen_of_row w g i cs t h.head.2
theorem Own.blk_set {g : Nat} {t : TypeId} {cs : Array Value} (h : Own S w0 w (SP.blk g t cs :: R)) (i : Nat) (u : Value) : Own S w0 (w.setCell ⟨g, i, none⟩ u) (SP.blk g t (cs.setIfInBounds i u) :: R) := by
  refine h.step ?_
  rintro T ⟨hg, hb⟩ hlt
  exact ⟨(Keeps.refl _ _).setCell (.inl hg) u, .inl hg, heap_setCell_same w g i cs t u hb⟩
end
example {S : Nat → Prop} {w0 w : World} {R : List SP} {a b c d : SP} (h : Own S w0 w (a :: b :: c :: d :: R)) : Own S w0 w (d :: b :: R) := h.pick (L := [_, _, _, _]) [3, 1]
theorem Own.snoc {S : Nat → Prop} {w0 w : World} {R X : List SP} {A : SP} (h : Own S w0 w (SP.stars X :: A :: R)) : Own S w0 w (SP.stars (X ++ [A]) :: R) := by
  have h1 := h.flat
  rw [show X ++ A :: R = (X ++ [A]) ++ R by simp] at h1
  exact h1.unflat
end Go.Proofs.Ytbncicfbgfmekaa
