/-
  slices.Clone at []int.
  Conditions: at most a million elements.
-/
import Derived.Test.YtbncicfbgfmekaaDelI
namespace Go.Proofs.Ytbncicfbgfmekaa
set_option linter.unusedVariables false
set_option linter.unusedSimpArgs false
open Go.RowKit

set_option maxHeartbeats 400000 in
theorem clone_calls (w : World) {A : Option Addr} {c : Nat} {xs : List Value} (hr : Rd w A xs) (h1x : ∀ u ∈ xs, u.oneCell' = true) (hm : xs.length ≤ 1000000) :
    Calls Try.prog 42 #[.slice A xs.length c] w fun e w' => ∃ A' c', e = .returned (.slice A' xs.length c') ∧ Below w.heap.size w w' ∧ (SP.row 3 1 (.slice A' xs.length c') xs).At w' (fun k => w.heap.size ≤ k ∧ k < w'.heap.size) := by
  have heq := fun (W : World) (a : Option Addr) (n c : Nat) => Lib.run_eql_slice_nil (P := Try.prog) W 30 3 a n c 0 0 Try.underlying30
  cases A with
  | none =>
    have hnil : xs = [] := by
      cases xs with
      | nil => rfl
      | cons u r => obtain ⟨g, off, h, _⟩ := hr 0 u rfl; cases h
    subst hnil
    clear hr h1x
    simp only [List.length_nil]
    go_enter Try.func42, Try.ntmps42
    go_wp2
    go_ret
    exact ⟨none, 0, rfl, Below.refl _ _, SP.row_nil _ _ _ _⟩
  | some a =>
    have H := Lib.hid (And.intro hr h1x)
    clear hr h1x
    generalize hn : xs.length = n at *
    have hn' := Lib.hid hn
    clear hn
    go_enter Try.func42, Try.ntmps42
    go_wp2_with (at_builtin; refine wpList_append_row (S := fun k => k = w.heap.size) rfl (.tmp 5) (.tmp 6) 30 rfl 3 (.int .i64 0) 1 8 Try.underlying30 Try.info3 rfl (by decide) rfl (n := 0) rfl (SP.row_new w 3 1 0 #[] rfl (by decide) rfl) _ n c xs rfl ?hl ?hr H.out.2 ?h63 ?hb ?_)
    case hl => have := hn'.out; omega
    case hr => exact H.out.1.below ((Below.refl _ _).alloc (Nat.le_refl _) _)
    case h63 => unfold maxLen; omega
    case hb => omega
    rintro A' c' w2 - hk hr3
    have hs := hk.size
    have hfin : Below w.heap.size w w2 := ((Below.refl w.heap.size w).alloc (Nat.le_refl _) _).trans (hk.to_below (by simp) (fun k hk => by omega))
    have hfin2 : (SP.row 3 1 (.slice A' n c') xs).At w2 (fun k => w.heap.size ≤ k ∧ k < w2.heap.size) := (SP.row 3 1 _ _).mono hr3 (fun k hk => by simp at hs; rcases hk with hk | ⟨hk, hk'⟩; omega; simp at hk; omega)
    have hf := Lib.hid (And.intro hfin hfin2)
    clear hk hr3 hfin hfin2 hs
    go_wp2
    go_ret
    exact ⟨_, _, rfl, hf.out⟩
end Go.Proofs.Ytbncicfbgfmekaa
