/-
  Frames as lists of bytes: a frame is parsed back; what stands behind does not matter; a torn one is short; with a bit turned it is an error.
  Conditions: none beyond each theorem's own.
-/
import Derived.Test.YtonomljdljcmaaaAny
namespace Go.Proofs.Ytonomljdljcmaaa
set_option linter.unusedVariables false
set_option linter.unusedSimpArgs false
open Go.RowKit

theorem readN_four (n : Nat) (r : List UInt8) (hn : n < 4294967296) : readN (fourB n ++ r) = n := by
  simp only [readN, fourB, List.cons_append, List.nil_append, List.getD_cons_zero, List.getD_cons_succ, UInt8.toNat_ofNat']
  omega
theorem sumOf_lt (p : List UInt8) : 4294967295 - crcMore (crcMore 4294967295 (fourB p.length)) p < 4294967296 := by omega

theorem readN_append {r : List UInt8} (s : List UInt8) (h : 4 ≤ r.length) : readN (r ++ s) = readN r := by
  have key : ∀ i, i < 4 → (r ++ s).getD i 0 = r.getD i 0 := fun i hi => by
    rw [List.getD_eq_getElem?_getD, List.getD_eq_getElem?_getD, List.getElem?_append_left (by omega)]
  simp only [readN, key 0 (by omega), key 1 (by omega), key 2 (by omega), key 3 (by omega)]
theorem readN_take {r : List UInt8} {k : Nat} (h : 4 ≤ k) : readN (r.take k) = readN r := by
  have key : ∀ i, i < 4 → (r.take k).getD i 0 = r.getD i 0 := fun i hi => by
    rw [List.getD_eq_getElem?_getD, List.getD_eq_getElem?_getD, List.getElem?_take, if_pos (by omega)]
  simp only [readN, key 0 (by omega), key 1 (by omega), key 2 (by omega), key 3 (by omega)]

theorem frameB_read (p s : List UInt8) (hp : p.length ≤ 1048576) : readN (frameB p ++ s) = p.length := by
  rw [frameB, List.append_assoc]
  exact readN_four _ _ (by omega)
theorem frameB_pay (p s : List UInt8) (hp : p.length ≤ 1048576) : pay (frameB p ++ s) = p := by
  rw [pay, frameB_read p s hp]
  have : (frameB p ++ s).drop 8 = p ++ s := by
    simp [frameB, fourB]
  rw [this, List.take_left]
theorem frameB_get (p s : List UInt8) (hp : p.length ≤ 1048576) : getErr (frameB p ++ s) = 0 := by
  have hl := frameB_length p
  have h4 : (frameB p ++ s).take 4 = fourB p.length := by simp [frameB, fourB]
  have h5 : readN ((frameB p ++ s).drop 4) = 4294967295 - crcMore (crcMore 4294967295 (fourB p.length)) p := by
    have : (frameB p ++ s).drop 4 = fourB (4294967295 - crcMore (crcMore 4294967295 (fourB p.length)) p) ++ (p ++ s) := by simp [frameB, fourB]
    rw [this]
    exact readN_four _ _ (sumOf_lt p)
  unfold getErr
  rw [frameB_read p s hp, frameB_pay p s hp, h4, h5, List.length_append, hl, if_neg (by omega), if_neg (by omega), if_neg (by omega), if_pos rfl]

theorem getErr_append {r : List UInt8} (s : List UInt8) (h : getErr r = 0) : getErr (r ++ s) = 0 ∧ pay (r ++ s) = pay r := by
  have ho := getErr_ok h
  have hr := readN_append s ho.1
  have hp : pay (r ++ s) = pay r := by
    rw [pay, pay, hr, List.drop_append_of_le_length (by omega), List.take_append_of_le_length (by rw [List.length_drop]; omega)]
  have hr2 : readN ((r ++ s).drop 4) = readN (r.drop 4) := by
    rw [List.drop_append_of_le_length (by omega)]
    exact readN_append s (by rw [List.length_drop]; omega)
  have ht : (r ++ s).take 4 = r.take 4 := List.take_append_of_le_length (by omega)
  refine ⟨?_, hp⟩
  unfold getErr at h ⊢
  rw [hr, hp, hr2, ht, List.length_append, if_neg (by omega), if_neg (by omega), if_neg (by omega)]
  rw [if_neg (by omega), if_neg (by omega), if_neg (by omega)] at h
  exact h

theorem one_frame (p : List UInt8) (hp : p.length ≤ 1048576) : oneE (frameB p) = 0 ∧ oneP (frameB p) = p := by
  have h1 := frameB_get p [] hp
  have h2 := frameB_pay p [] hp
  rw [List.append_nil] at h1 h2
  have h3 : oneE (frameB p) = 0 := by
    rw [oneE, if_pos (by rw [frameB_length]; omega), oneErr, if_pos h1, h2, frameB_length, if_neg (by omega)]
  exact ⟨h3, by rw [oneP, if_pos h3, h2]⟩

theorem joinB_cons (p : List UInt8) (L : List (List UInt8)) : joinB (p :: L) = frameB p ++ joinB L := by simp [joinB]
theorem joinB_span (L : List (List UInt8)) : (joinB L).length = span L := by
  induction L with
  | nil => rfl
  | cons p L ih => rw [joinB_cons, List.length_append, frameB_length, ih, span_cons]
theorem frs_frame (p s : List UInt8) (hp : p.length ≤ 1048576) : frs (frameB p ++ s) = p :: frs s := by
  rw [frs_ok (frameB_get p s hp), frameB_pay p s hp]
  have : (frameB p ++ s).drop (8 + p.length) = s := by rw [← frameB_length p, List.drop_left]
  rw [this]

/-- Any front of joined frames: those that are whole in it. -/
theorem torn (L : List (List UInt8)) (hL : allFit L) : ∀ (cut : Nat), cut ≤ span L → ∃ k, k ≤ L.length ∧ frs ((joinB L).take cut) = L.take k ∧ span (L.take k) ≤ cut ∧ (∀ p, L[k]? = some p → cut < span (L.take k) + 8 + p.length) ∧
    (span (L.take k) ≠ cut → getErr (((joinB L).take cut).drop (span (L.take k))) = 2) := by
  induction L with
  | nil =>
    intro cut hc
    refine ⟨0, Nat.le_refl _, ?_, Nat.zero_le _, fun p hp => by simp at hp, fun h => ?_⟩
    · rw [frs_end (by rw [getErr_short (by simp [joinB])]; decide)]; rfl
    · simp [joinB]; exact getErr_short (by simp)
  | cons p L ih =>
    intro cut hc
    rw [span_cons] at hc
    have hp : p.length ≤ 1048576 := hL p List.mem_cons_self
    have hfl := frameB_length p
    by_cases hbig : 8 + p.length ≤ cut
    · obtain ⟨k, h1, h2, h3, h4, h5⟩ := ih (fun x hx => hL x (List.mem_cons_of_mem _ hx)) (cut - (8 + p.length)) (by omega)
      have ht : (joinB (p :: L)).take cut = frameB p ++ (joinB L).take (cut - (8 + p.length)) := by
        rw [joinB_cons, List.take_append, List.take_of_length_le (by omega), hfl]
      have hs : span ((p :: L).take (k + 1)) = 8 + p.length + span (L.take k) := by rw [List.take_succ_cons, span_cons]
      refine ⟨k + 1, by simp; omega, ?_, by omega, fun q hq => ?_, fun h => ?_⟩
      · rw [ht, frs_frame _ _ hp, h2, List.take_succ_cons]
      · have := h4 q (by simpa using hq)
        omega
      · rw [hs, ht, ← hfl, List.drop_append]
        have h6 := h5 (by omega)
        rw [List.drop_of_length_le (by omega), List.nil_append, Nat.add_sub_cancel_left]
        rw [hfl]
        exact h6
    · have herr : getErr ((joinB (p :: L)).take cut) = 2 := by
        by_cases h4 : cut < 4
        · exact getErr_short (by rw [List.length_take]; omega)
        · have hr : readN ((joinB (p :: L)).take cut) = p.length := by
            rw [readN_take (by omega), joinB_cons]
            exact frameB_read p _ hp
          have hl : ((joinB (p :: L)).take cut).length = cut := by
            rw [List.length_take, joinB_span, span_cons]; omega
          unfold getErr
          rw [hr, hl, if_neg (by omega), if_neg (by omega), if_pos (by omega)]
      refine ⟨0, Nat.zero_le _, ?_, Nat.zero_le _, fun q hq => ?_, fun _ => ?_⟩
      · rw [frs_end (by rw [herr]; decide)]; rfl
      · simp at hq; subst hq; simp [span]; omega
      · simpa [span] using herr
theorem joined (L : List (List UInt8)) (hL : allFit L) : frs (joinB L) = L := by
  induction L with
  | nil => exact frs_end (by rw [getErr_short (by simp [joinB])]; decide)
  | cons p L ih => rw [joinB_cons, frs_frame _ _ (hL p List.mem_cons_self), ih (fun x hx => hL x (List.mem_cons_of_mem _ hx))]
end Go.Proofs.Ytonomljdljcmaaa
