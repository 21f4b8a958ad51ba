/-
  A Try that was taken, made once more; what may says of entries. No program stands here.
  Conditions: none beyond each theorem's own.
-/
import Derived.Test.YtepnkhiclgjmpaaFew
namespace Go.Proofs.Ytepnkhiclgjmpaa
set_option linter.unusedVariables false
set_option linter.unusedSimpArgs false
open Go.RowKit

theorem may_tried {i t : Int} {es : List E} (h : mayB i t es = true) : Tried i es ∧ 0 ≤ i ∧ i ≤ maxI ∧ 0 ≤ t ∧ t ≤ maxI ∧ es.length ≤ 64 ∧ formB i t es = true ∧ checkAll es = 0 := by
  unfold mayB appB at h
  simp only [Bool.and_eq_true, decide_eq_true_eq] at h
  obtain ⟨⟨h1, h2⟩, ⟨⟨h3, h4⟩, -⟩, h6⟩ := h
  have h1 := of_decide_eq_true h1
  have h2 := of_decide_eq_true h2
  refine ⟨⟨fun j m hm => ?_, fun m hm => ?_⟩, h1.1, h1.2, h2.1, h2.2, h3, h6, h4⟩
  · have := formB_idx h6 j m hm
    have hc := checkE_ok (checkAll_mem h4 m (List.mem_of_getElem? hm))
    exact ⟨this, hc.2.2.1, hc.2.2.2.1⟩
  · exact (checkE_ok (checkAll_mem h4 m hm)).2.2.2.2.2

theorem at_same {x y : Lg} (h1 : y.index = x.index) (h2 : y.term = x.term) (f : Nat) (h3 : y.L.take f = x.L.take f) {i : Int} (hi : i ≤ x.index + (f : Int)) : y.at i = x.at i := by
  unfold Lg.at Lg.entry?
  rw [h1, h2]
  split
  · rfl
  · split
    · rfl
    · have h : y.L[(i - x.index - 1).toNat]? = x.L[(i - x.index - 1).toNat]? := by
        have hk : (i - x.index - 1).toNat < f := by omega
        have := congrArg (fun l => l[(i - x.index - 1).toNat]?) h3
        simp only [List.getElem?_take, if_pos hk] at this
        exact this
      rw [h]
theorem at_row {x : Lg} {k : Nat} {e : E} (h : x.L[k]? = some e) {i : Int} (hi : i = x.index + 1 + (k : Int)) : x.at i = (e.term, 0) := by
  subst hi
  unfold Lg.at Lg.entry?
  rw [if_neg (by omega), if_neg (by omega), if_pos (by omega), show (x.index + 1 + (k : Int) - x.index - 1).toNat = k by omega, h]
theorem has_same {x y : Lg} (h1 : y.index = x.index) (h2 : y.term = x.term) (f : Nat) (h3 : y.L.take f = x.L.take f) {i : Int} (hi : i ≤ x.index + (f : Int)) (t : Int) : y.has i t = x.has i t := by
  unfold Lg.has; rw [at_same h1 h2 f h3 hi]
theorem has_in {x : Lg} {k : Nat} {e : E} (h : x.L[k]? = some e) {i : Int} (hi : i = x.index + 1 + (k : Int)) : x.has i e.term = true := by
  unfold Lg.has; rw [at_row h hi]; exact decide_eq_true ⟨rfl, rfl⟩
theorem skip_all {x : Lg} : ∀ {es : List E}, (∀ m, m ∈ es → x.has m.index m.term = true) → x.skip es = es.length
  | [], _ => rfl
  | e :: es, h => by
    rw [Lg.skip, if_pos (h e List.mem_cons_self), skip_all (fun m hm => h m (List.mem_cons_of_mem _ hm)), List.length_cons]
theorem commit_has (x : Lg) (k i t : Int) : (x.commit k).2.has i t = x.has i t := by unfold Lg.commit; split <;> rfl
theorem commit_L (x : Lg) (k : Int) : (x.commit k).2.L = x.L ∧ (x.commit k).2.index = x.index ∧ (x.commit k).2.term = x.term := by unfold Lg.commit; split <;> exact ⟨rfl, rfl, rfl⟩
theorem commit_twice (x : Lg) (k : Int) : ((x.commit k).2.commit k).2 = (x.commit k).2 := by
  by_cases h : min k x.lastI ≤ x.c
  · have h1 : x.commit k = (false, x) := by rw [Lg.commit, if_pos h]
    rw [h1]; simp only; rw [h1]
  · have h1 : x.commit k = (true, { x with c := min k x.lastI }) := by rw [Lg.commit, if_neg h]
    rw [h1]
    have h2 : min k (Lg.lastI { x with c := min k x.lastI }) ≤ (Lg.c { x with c := min k x.lastI }) := Int.le_refl (min k x.lastI)
    show (Lg.commit { x with c := min k x.lastI } k).2 = _
    rw [Lg.commit, if_pos h2]
theorem try_again {z : Lg} {i t c : Int} {es : List E} (hh : z.has i t = true) (ha : ∀ m, m ∈ es → z.has m.index m.term = true) :
    (z.commit (min c (i + es.length))).2.try_ i t c es = ((i + es.length, true), (z.commit (min c (i + es.length))).2) := by
  rw [try_all (by rw [commit_has]; exact hh) (skip_all fun m hm => by rw [commit_has]; exact ha m hm), commit_twice]
/-- Where the entries that were laid stand. -/
theorem lay_all {x : Lg} {i t : Int} {es : List E} {j : Nat} {m : E} (hx : x.Ok) (ht : Tried i es) (h : x.has i t = true) (hs : x.skip es = j) (hm : es[j]? = some m) (hb : x.c < m.index) :
    (x.lay m.index (es.drop j)).has i t = true ∧ ∀ p, p ∈ es → (x.lay m.index (es.drop j)).has p.index p.term = true := by
  have hfr := tried_front ht h hs hm
  have hjl := (List.getElem?_eq_some_iff.1 hm).1
  obtain ⟨f, hf⟩ : ∃ f : Nat, m.index - 1 = x.index + (f : Int) := ⟨(m.index - 1 - x.index).toNat, by have := hx.a0; have := hx.a1; have := hx.a2; omega⟩
  have hfl : f ≤ x.L.length := by unfold Lg.lastI at hfr; omega
  obtain ⟨hL, -⟩ := lay_idx hx ht hm hf hfl
  have htk : (x.lay m.index (es.drop j)).L.take f = x.L.take f := by
    rw [hL, List.take_append_of_le_length (by rw [List.length_take]; omega), List.take_take, Nat.min_self]
  have hmi := (ht.idx j m hm).1
  have hw := has_within h
  refine ⟨(has_same (y := x.lay m.index (es.drop j)) (x := x) rfl rfl f htk (by omega) t).trans h, fun p hp => ?_⟩
  obtain ⟨k, hk⟩ := List.getElem?_of_mem hp
  have hpi := (ht.idx k p hk).1
  by_cases hkj : k < j
  · refine (has_same (y := x.lay m.index (es.drop j)) (x := x) rfl rfl f htk (by omega) p.term).trans ?_
    exact skip_had (x := x) es k p (by omega) hk
  · refine has_in (k := f + (k - j)) ?_ ?_
    · rw [hL, List.getElem?_append_right (by rw [List.length_take]; omega), List.length_take, Nat.min_eq_left hfl, Nat.add_sub_cancel_left, List.getElem?_drop, show j + (k - j) = k by omega, hk]
    · show p.index = x.index + 1 + ((f + (k - j) : Nat) : Int)
      omega
theorem try_twice {x y : Lg} {i t c n : Int} {es : List E} (hx : x.Ok) (ht : Tried i es) (h : x.try_ i t c es = ((n, true), y)) : n = i + es.length ∧ y.try_ i t c es = ((n, true), y) := by
  rcases try_ways x i t c es with h1 | ⟨h1, h2, h3⟩ | ⟨j, m, h1, h2, h3, h4, h5⟩
  · rw [h1] at h; simp at h
  · rw [h3] at h
    simp only [Prod.mk.injEq] at h
    obtain ⟨⟨rfl, -⟩, rfl⟩ := h
    refine ⟨rfl, try_again h1 fun m hm => ?_⟩
    obtain ⟨k, hk⟩ := List.getElem?_of_mem hm
    exact skip_had (x := x) es k m (by rw [h2]; exact (List.getElem?_eq_some_iff.1 hk).1) hk
  · rw [h5] at h
    simp only [Prod.mk.injEq] at h
    obtain ⟨⟨rfl, -⟩, rfl⟩ := h
    obtain ⟨g1, g2⟩ := lay_all hx ht h1 h2 h3 (by omega)
    exact ⟨rfl, try_again g1 g2⟩
theorem try_not {x y : Lg} {i t c n : Int} {es : List E} (h : x.try_ i t c es = ((n, false), y)) : n = 0 ∧ y = x := by
  rcases try_ways x i t c es with h1 | ⟨h1, h2, h3⟩ | ⟨j, m, h1, h2, h3, h4, h5⟩
  · rw [h1] at h; simp at h; exact ⟨h.1.symm, h.2.symm⟩
  · rw [h3] at h; simp at h
  · rw [h5] at h; simp at h
/-- All the entries of a log that begins at nothing. -/
theorem entries_all {x : Lg} (h : x.index = 0) : x.entries 1 10000 = (x.L.take 10000, 0) := by
  unfold Lg.entries Lg.lastI
  rw [h, if_neg (by omega), if_neg (by omega)]
  simp
end Go.Proofs.Ytepnkhiclgjmpaa
