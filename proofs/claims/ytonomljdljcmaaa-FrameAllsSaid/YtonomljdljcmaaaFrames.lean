/-
  The frames from the beginning of bytes on, as lists.
  Conditions: none beyond each theorem's own.
-/
import Derived.Test.YtonomljdljcmaaaOne
namespace Go.Proofs.Ytonomljdljcmaaa
set_option linter.unusedVariables false
set_option linter.unusedSimpArgs false
open Go.RowKit

theorem getErr_ok {r : List UInt8} (h : getErr r = 0) : 4 ≤ r.length ∧ readN r ≤ 1048576 ∧ 8 + readN r ≤ r.length ∧ (pay r).length = readN r := by
  unfold getErr at h
  by_cases h1 : r.length < 4
  · rw [if_pos h1] at h; cases h
  · rw [if_neg h1] at h
    by_cases h2 : 1048576 < readN r
    · rw [if_pos h2] at h; cases h
    · rw [if_neg h2] at h
      by_cases h3 : r.length < 8 + readN r
      · rw [if_pos h3] at h; cases h
      · refine ⟨by omega, by omega, by omega, ?_⟩
        rw [pay, List.length_take, List.length_drop]
        omega
theorem getErr_le (r : List UInt8) : getErr r ≤ 5 := by
  unfold getErr
  repeat' split
  all_goals omega
theorem getErr_short {r : List UInt8} (h : r.length < 4) : getErr r = 2 := by unfold getErr; rw [if_pos h]

/-- The payloads of the frames, as far as they go. -/
def frs (r : List UInt8) : List (List UInt8) :=
  if h : getErr r = 0 then pay r :: frs (r.drop (8 + (pay r).length)) else []
termination_by r.length
decreasing_by
  have := getErr_ok h
  rw [List.length_drop]
  omega
theorem frs_ok {r : List UInt8} (h : getErr r = 0) : frs r = pay r :: frs (r.drop (8 + (pay r).length)) := by rw [frs, dif_pos h]
theorem frs_end {r : List UInt8} (h : getErr r ≠ 0) : frs r = [] := by rw [frs, dif_neg h]

/-- How many bytes payloads take as frames. -/
def span : List (List UInt8) → Nat
  | [] => 0
  | p :: l => 8 + p.length + span l
theorem span_append (a b : List (List UInt8)) : span (a ++ b) = span a + span b := by
  induction a with
  | nil => simp [span]
  | cons p a ih => simp only [List.cons_append, span, ih]; omega
theorem span_snoc (a : List (List UInt8)) (p : List UInt8) : span (a ++ [p]) = span a + (8 + p.length) := by rw [span_append]; rfl
theorem drop_shorter {r : List UInt8} {n : Nat} (h : getErr r = 0) (hn : n = (pay r).length) : (r.drop (8 + n)).length < r.length ∧ 8 + n + (r.drop (8 + n)).length ≤ r.length := by
  obtain ⟨h1, -, h3, h4⟩ := getErr_ok h
  rw [List.length_drop]
  subst hn
  omega
theorem span_cons (p : List UInt8) (l : List (List UInt8)) : span (p :: l) = 8 + p.length + span l := rfl
theorem span_step {r : List UInt8} (h : getErr r = 0) (ih : span (frs (r.drop (8 + (pay r).length))) ≤ (r.drop (8 + (pay r).length)).length) : span (frs r) ≤ r.length := by
  rw [frs_ok h, span_cons]
  have h2 := drop_shorter h rfl
  omega
theorem span_frs (n : Nat) : ∀ r : List UInt8, r.length < n → span (frs r) ≤ r.length := by
  induction n with
  | zero => intro r h; omega
  | succ n ih =>
    intro r hr
    by_cases h : getErr r = 0
    · have h1 := drop_shorter h rfl
      exact span_step h (ih _ (by omega))
    · rw [frs_end h]; exact Nat.zero_le _
theorem span_le (r : List UInt8) : span (frs r) ≤ r.length := span_frs _ r (Nat.lt_succ_self _)
theorem span_length (l : List (List UInt8)) : 8 * l.length ≤ span l := by
  induction l with
  | nil => simp [span]
  | cons p l ih => simp only [span, List.length_cons]; omega

theorem frs_stop (n : Nat) : ∀ r : List UInt8, r.length < n → getErr (r.drop (span (frs r))) ≠ 0 := by
  induction n with
  | zero => intro r h; omega
  | succ n ih =>
    intro r hr
    by_cases h : getErr r = 0
    · have h1 := drop_shorter h rfl
      have h2 := ih _ (show (r.drop (8 + (pay r).length)).length < n by omega)
      rw [List.drop_drop] at h2
      rw [frs_ok h, span_cons]
      exact h2
    · rw [frs_end h]; exact h
theorem frs_last (r : List UInt8) : getErr (r.drop (span (frs r))) ≠ 0 := frs_stop _ r (Nat.lt_succ_self _)

/-- What has come, and what is still to come. -/
def Come (b : List UInt8) (l : List (List UInt8)) : Prop := frs b = l ++ frs (b.drop (span l)) ∧ span l ≤ b.length
theorem come_nil (b : List UInt8) : Come b [] := ⟨by simp [span], Nat.zero_le _⟩
theorem come_snoc {b : List UInt8} {l : List (List UInt8)} (h : Come b l) (he : getErr (b.drop (span l)) = 0) : Come b (l ++ [pay (b.drop (span l))]) := by
  have h1 := getErr_ok he
  rw [List.length_drop] at h1
  refine ⟨?_, ?_⟩
  · rw [h.1, frs_ok he, span_snoc, List.drop_drop]
    simp
  · rw [span_snoc]
    have := h.2
    omega
theorem come_end {b : List UInt8} {l : List (List UInt8)} (h : Come b l) (he : getErr (b.drop (span l)) ≠ 0) : frs b = l := by
  rw [h.1, frs_end he, List.append_nil]

def allErr (b : List UInt8) : Nat := if span (frs b) = b.length then 0 else getErr (b.drop (span (frs b)))
end Go.Proofs.Ytonomljdljcmaaa
