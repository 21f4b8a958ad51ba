/-
  The order of a log's marks; what is committed stays, or goes. No program stands here.
  Conditions: none beyond each theorem's own.
-/
import Derived.Test.YtepnkhiclgjmpaaHandsPure
namespace Go.Proofs.Ytepnkhiclgjmpaa
set_option linter.unusedVariables false
set_option linter.unusedSimpArgs false
open Go.RowKit

theorem entries_at {y : Lg} {j : Nat} {m : E} (h : y.L[j]? = some m) (hi : m.index = y.index + 1 + (j : Int)) : y.entries m.index 1 = ([m], 0) := by
  have hj := List.getElem?_eq_some_iff.1 h
  unfold Lg.entries Lg.lastI
  rw [if_neg (by omega), if_neg (by have := hj.1; omega), show (m.index - y.index - 1).toNat = j by omega, List.drop_eq_getElem_cons hj.1, hj.2]
  rfl
/-- What is committed of a log. -/
def Lg.done (x : Lg) : List E := x.L.take (x.c - x.index).toNat
theorem done_mem {x : Lg} (hx : x.Ok) {m : E} (h : m ∈ x.done) : ∃ j, x.L[j]? = some m ∧ j < (x.c - x.index).toNat ∧ m.index = x.index + 1 + (j : Int) := by
  obtain ⟨j, hj⟩ := List.getElem?_of_mem h
  unfold Lg.done at hj
  rw [List.getElem?_take] at hj
  split at hj
  · rename_i hl
    exact ⟨j, hj, hl, (hx.idx j m hj).1⟩
  · cases hj
theorem done_entries {x : Lg} (hx : x.Ok) : x.entries (x.index + 1) (x.c - x.index) = (x.done, 0) := by
  unfold Lg.entries Lg.lastI Lg.done
  rw [if_neg (by omega), if_neg (by omega), show (x.index + 1 - x.index - 1).toNat = 0 by omega, List.drop_zero]
theorem done_length {x : Lg} (hx : x.Ok) : x.done.length = (x.c - x.index).toNat := by
  have := hx.a3
  unfold Lg.lastI at this
  unfold Lg.done
  rw [List.length_take]; omega
/-- Marks never fall; what was committed lies where it lay, or is gone. -/
structure Stays (x y : Lg) : Prop where
  c : x.c ≤ y.c
  ap : x.ap ≤ y.ap
  ad : x.ad ≤ y.ad
  holds : ∀ m, m ∈ x.done → y.index < m.index → y.entries m.index 1 = ([m], 0)
section
variable {x y : Lg}
theorem Stays.of (hx : x.Ok) (hi : y.index = x.index) (hL : y.L.take (x.c - x.index).toNat = x.L.take (x.c - x.index).toNat) (h1 : x.c ≤ y.c) (h2 : x.ap ≤ y.ap) (h3 : x.ad ≤ y.ad) : Stays x y := by
  refine ⟨h1, h2, h3, fun m hm _ => ?_⟩
  obtain ⟨j, hj, hjl, hmi⟩ := done_mem hx hm
  refine entries_at (j := j) ?_ (by rw [hi]; exact hmi)
  have := congrArg (·[j]?) hL
  simp only [List.getElem?_take, if_pos hjl] at this
  rw [this]; exact hj
theorem Stays.refl (hx : x.Ok) : Stays x x := Stays.of hx rfl rfl (Int.le_refl _) (Int.le_refl _) (Int.le_refl _)
theorem append_stays (hx : x.Ok) (t k : Int) (d : List UInt8) : Stays x (x.append t k d).2 ∧ (x.append t k d).2.ap = x.ap := by
  rcases append_ways x t k d with h | ⟨e, h⟩
  · rw [h]; exact ⟨Stays.refl hx, rfl⟩
  · rw [h]
    have := hx.a3
    unfold Lg.lastI at this
    refine ⟨Stays.of hx rfl ?_ (Int.le_refl _) (Int.le_refl _) (Int.le_refl _), rfl⟩
    show (x.L ++ [e]).take _ = _
    rw [List.take_append_of_le_length (by omega)]
theorem commit_le (x : Lg) (i : Int) : x.c ≤ (x.commit i).2.c ∧ (x.commit i).2.ap = x.ap ∧ (x.commit i).2.ad = x.ad := by
  unfold Lg.commit
  split
  · exact ⟨Int.le_refl _, rfl, rfl⟩
  · exact ⟨by simp only; omega, rfl, rfl⟩
theorem commit_stays (hx : x.Ok) (i : Int) : Stays x (x.commit i).2 ∧ (x.commit i).2.ap = x.ap := by
  obtain ⟨h1, h2, h3⟩ := commit_le x i
  obtain ⟨g1, g2, g3⟩ := commit_L x i
  exact ⟨Stays.of hx g2 (by rw [g1]) h1 (by omega) (by omega), h2⟩
theorem try_stays (hx : x.Ok) {i t c : Int} {es : List E} (ht : Tried i es) : Stays x (x.try_ i t c es).2 ∧ (x.try_ i t c es).2.ap = x.ap := by
  rcases try_ways x i t c es with h | ⟨-, -, h⟩ | ⟨j, m, h1, h2, h3, h4, h5⟩
  · rw [h]; exact ⟨Stays.refl hx, rfl⟩
  · rw [h]; exact commit_stays hx _
  · rw [h5]
    have hfr := tried_front ht h1 h2 h3
    have hcm : x.c < m.index := by omega
    obtain ⟨f, hf⟩ : ∃ f : Nat, m.index - 1 = x.index + (f : Int) := ⟨(m.index - 1 - x.index).toNat, by have := hx.a0; have := hx.a1; have := hx.a2; omega⟩
    have hfl : f ≤ x.L.length := by unfold Lg.lastI at hfr; omega
    obtain ⟨hL, -⟩ := lay_idx hx ht h3 hf hfl
    obtain ⟨k1, k2, k3⟩ := commit_le (x.lay m.index (es.drop j)) (min c (i + es.length))
    obtain ⟨g1, g2, g3⟩ := commit_L (x.lay m.index (es.drop j)) (min c (i + es.length))
    refine ⟨Stays.of hx g2 ?_ k1 (Int.le_of_eq k2.symm) (Int.le_of_eq k3.symm), k2⟩
    rw [g1, hL, List.take_append_of_le_length (by rw [List.length_take]; omega), List.take_take, Nat.min_eq_left (by omega)]
theorem hand_stays (hx : x.Ok) : Stays x x.hand.2 ∧ x.hand.2.ap = x.ap := ⟨Stays.of hx rfl rfl (Int.le_refl _) (Int.le_refl _) (Int.le_refl _), rfl⟩
theorem stable_stays (hx : x.Ok) (i t : Int) : Stays x (x.stable i t).2 ∧ (x.stable i t).2.ap = x.ap := by
  unfold Lg.stable
  split
  · exact ⟨Stays.refl hx, rfl⟩
  · exact ⟨Stays.of hx rfl rfl (Int.le_refl _) (Int.le_refl _) (Int.le_refl _), rfl⟩
theorem applied_stays (hx : x.Ok) (i : Int) : Stays x (x.applied i).2 ∧ (x.applied i).2.ap = x.ap := by
  unfold Lg.applied
  split
  · exact ⟨Stays.refl hx, rfl⟩
  · exact ⟨Stays.of hx rfl rfl (Int.le_refl _) (Int.le_refl _) (by simp only; omega), rfl⟩
theorem next_stays (hx : x.Ok) (most : Int) : Stays x (x.next most).2 ∧ (x.next most).2.ap = x.ap + ((x.next most).1.length : Int) ∧ ∀ (k : Nat) (e : E), (x.next most).1[k]? = some e → e.index = x.ap + 1 + (k : Int) := by
  have h0 : 0 ≤ x.nextN most ∧ x.nextN most ≤ x.c - x.ap := by
    have := hx.a2; have := hx.b2
    unfold Lg.nextN; omega
  have h1 := hx.a0
  have h2 := hx.a1
  have h3 := hx.a3
  unfold Lg.lastI at h3
  refine ⟨Stays.of hx rfl rfl (Int.le_refl _) (by simp only [Lg.next]; omega) (Int.le_refl _), ?_, fun k e he => ?_⟩
  · simp only [Lg.next, Lg.cut, List.length_take, List.length_drop]; omega
  · simp only [Lg.next, Lg.cut] at he
    rw [List.getElem?_take] at he
    split at he
    · rw [List.getElem?_drop] at he
      have := (hx.idx _ _ he).1
      omega
    · cases he
theorem compact_stays (hx : x.Ok) (i : Int) : Stays x (x.compact i).2 ∧ (x.compact i).2.ap = x.ap := by
  unfold Lg.compact
  split
  · exact ⟨Stays.refl hx, rfl⟩
  · split
    · exact ⟨Stays.refl hx, rfl⟩
    · rename_i h1 h2
      refine ⟨⟨Int.le_refl _, Int.le_refl _, Int.le_refl _, fun m hm hi => ?_⟩, rfl⟩
      obtain ⟨j, hj, hjl, hmi⟩ := done_mem hx hm
      simp only at hi
      refine entries_at (j := j - (i - x.index).toNat) ?_ (by simp only; omega)
      simp only [List.getElem?_drop]
      rw [show (i - x.index).toNat + (j - (i - x.index).toNat) = j by omega]
      exact hj
theorem restore_stays (hx : x.Ok) (i t : Int) : Stays x (x.restore i t).2 ∧ (x.restore i t).2.ap = if (x.restore i t).1 = 0 then i else x.ap := by
  unfold Lg.restore
  split
  · exact ⟨Stays.refl hx, rfl⟩
  · rename_i h
    have hc : x.c < i := Int.not_le.1 fun h' => h (.inr (.inr h'))
    have := hx.a1
    have := hx.a2
    refine ⟨⟨by simp only; omega, by simp only; omega, by simp only; omega, fun m hm hi => ?_⟩, rfl⟩
    obtain ⟨j, hj, hjl, hmi⟩ := done_mem hx hm
    simp only at hi
    omega
end
end Go.Proofs.Ytepnkhiclgjmpaa
