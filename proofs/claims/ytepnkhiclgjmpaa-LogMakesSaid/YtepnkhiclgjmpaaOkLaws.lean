/-
  Each operation keeps a log in order; no program stands here.
  Conditions: none beyond each theorem's own.
-/
import Derived.Test.YtepnkhiclgjmpaaLog7
namespace Go.Proofs.Ytepnkhiclgjmpaa
set_option linter.unusedVariables false
set_option linter.unusedSimpArgs false

section
variable {x : Lg}
theorem commit_isOk (hx : x.Ok) (i : Int) : (x.commit i).2.Ok := by
  unfold Lg.commit
  split
  · exact hx
  · rename_i h
    obtain ⟨i0, i1, len, idx, dat, a0, a1, a2, a3, b2, b3, b4⟩ := hx
    exact ⟨i0, i1, len, idx, dat, a0, a1, by simp only; omega, by simp only [Lg.lastI] at *; omega, b2, b3, b4⟩
theorem hand_isOk (hx : x.Ok) : x.hand.2.Ok := by
  obtain ⟨i0, i1, len, idx, dat, a0, a1, a2, a3, b2, b3, b4⟩ := hx
  exact ⟨i0, i1, len, idx, dat, a0, a1, a2, a3, b2, by simp only [Lg.hand, Lg.lastI] at *; omega, by simp only [Lg.hand, Lg.lastI] at *; omega⟩
theorem stable_isOk (hx : x.Ok) (i t : Int) : (x.stable i t).2.Ok := by
  unfold Lg.stable
  split
  · exact hx
  · rename_i h
    obtain ⟨i0, i1, len, idx, dat, a0, a1, a2, a3, b2, b3, b4⟩ := hx
    have h1 : x.s < i ∧ i ≤ x.h := ⟨Int.not_le.1 fun h' => h (.inl h'), Int.not_lt.1 fun h' => h (.inr (.inl h'))⟩
    exact ⟨i0, i1, len, idx, dat, a0, a1, a2, a3, by simp only; omega, by simp only; omega, b4⟩
theorem next_isOk (hx : x.Ok) (most : Int) : (x.next most).2.Ok := by
  obtain ⟨i0, i1, len, idx, dat, a0, a1, a2, a3, b2, b3, b4⟩ := hx
  have h : 0 ≤ x.nextN most ∧ x.nextN most ≤ x.c - x.ap ∧ x.nextN most ≤ x.s - x.ap := by unfold Lg.nextN; omega
  exact ⟨i0, i1, len, idx, dat, a0, by simp only [Lg.next]; omega, by simp only [Lg.next]; omega, a3, by simp only [Lg.next]; omega, b3, b4⟩
theorem applied_isOk (hx : x.Ok) (i : Int) : (x.applied i).2.Ok := by
  unfold Lg.applied
  split
  · exact hx
  · obtain ⟨i0, i1, len, idx, dat, a0, a1, a2, a3, b2, b3, b4⟩ := hx
    exact ⟨i0, i1, len, idx, dat, by simp only; omega, by simp only; omega, a2, a3, b2, b3, b4⟩
theorem restore_isOk (hx : x.Ok) (i t : Int) : (x.restore i t).2.Ok := by
  unfold Lg.restore
  split
  · exact hx
  · rename_i h
    have h1 : 1 ≤ i ∧ i ≤ maxI := Classical.byContradiction fun h' => h (.inl h')
    exact ⟨by simp only; omega, h1.2, by simp, fun j e he => by simp at he, fun e he => by simp at he, Int.le_refl _, Int.le_refl _, Int.le_refl _, by simp [Lg.lastI], Int.le_refl _, Int.le_refl _, by simp [Lg.lastI]⟩
theorem compact_isOk (hx : x.Ok) (i : Int) : (x.compact i).2.Ok := by
  unfold Lg.compact
  split
  · exact hx
  · split
    · exact hx
    · obtain ⟨i0, i1, len, idx, dat, a0, a1, a2, a3, b2, b3, b4⟩ := hx
      rename_i h1 h2
      have hl : (x.L.drop (i - x.index).toNat).length = x.L.length - (i - x.index).toNat := List.length_drop
      unfold Lg.lastI at *
      refine ⟨by simp only; omega, ?_, by simp only; omega, fun j e he => ?_, fun e he => dat e (List.mem_of_mem_drop he), by simp only; omega, a1, a2, by simp only [Lg.lastI]; omega, b2, b3, by simp only [Lg.lastI]; omega⟩
      · have hlast := Lg.Ok.last (x := x) ⟨i0, i1, len, idx, dat, a0, a1, a2, a3, b2, b3, b4⟩
        unfold Lg.lastI at hlast
        simp only
        omega
      · simp only [List.getElem?_drop] at he ⊢
        have := idx _ e he
        omega
theorem append_isOk (hx : x.Ok) (t k : Int) (d : List UInt8) : (x.append t k d).2.Ok := by
  unfold Lg.append
  split
  · exact hx
  · split
    · exact hx
    · split
      · exact hx
      · split
        · exact hx
        · rename_i h1 h2 h3 h4
          have hc := checkE_ok (m := ⟨t, x.lastI + 1, k, d⟩) (Classical.byContradiction fun h => h4 h)
          obtain ⟨i0, i1, len, idx, dat, a0, a1, a2, a3, b2, b3, b4⟩ := hx
          unfold Lg.lastI at *
          refine ⟨i0, i1, by simp only [List.length_append, List.length_cons, List.length_nil]; omega, fun j e he => ?_, fun e he => ?_, a0, a1, a2, ?_, b2, b3, ?_⟩
          · by_cases hj : j < x.L.length
            · simp only [List.getElem?_append_left hj] at he
              exact idx j e he
            · simp only [List.getElem?_append_right (Nat.le_of_not_lt hj)] at he
              have hj2 : j - x.L.length = 0 := by
                have := (List.getElem?_eq_some_iff.1 he).1
                simp at this; omega
              rw [hj2] at he
              simp only [List.getElem?_cons_zero, Option.some.injEq] at he
              subst he
              simp only
              exact ⟨by omega, hc.2.2.2.1⟩
          · rcases List.mem_append.1 he with he | he
            · exact dat e he
            · simp only [List.mem_singleton] at he
              subst he
              exact hc.2.2.2.2.2
          · simp only [Lg.lastI, List.length_append, List.length_cons, List.length_nil]; omega
          · simp only [Lg.lastI, List.length_append, List.length_cons, List.length_nil]; omega
theorem lay_isOk {i t : Int} {es : List E} {j : Nat} {m : E} (hx : x.Ok) (ht : Tried i es) (h : x.has i t = true) (hs : x.skip es = j) (hm : es[j]? = some m) (hb : ¬ (m.index ≤ x.c ∨ 10000 < m.index - 1 - x.index + (es.length : Int) - (j : Int))) : (x.lay m.index (es.drop j)).Ok := by
  have hfr := tried_front ht h hs hm
  have hjl := (List.getElem?_eq_some_iff.1 hm).1
  have hcm : x.c < m.index := by omega
  obtain ⟨f, hf⟩ : ∃ f : Nat, m.index - 1 = x.index + (f : Int) := ⟨(m.index - 1 - x.index).toNat, by have := hx.a0; have := hx.a1; have := hx.a2; omega⟩
  have hfl : f ≤ x.L.length := by unfold Lg.lastI at hfr; omega
  obtain ⟨hL, hidx⟩ := lay_idx hx ht hm hf hfl
  have hlen : (x.L.take f ++ es.drop j).length = f + (es.length - j) := by rw [List.length_append, List.length_take, List.length_drop]; omega
  obtain ⟨i0, i1, len, idx, dat, a0, a1, a2, a3, b2, b3, b4⟩ := hx
  refine ⟨i0, i1, by rw [hL, hlen]; omega, by rw [hL]; exact hidx, fun e he => ?_, a0, a1, a2, ?_, ?_, ?_, ?_⟩
  · rw [hL] at he
    rcases List.mem_append.1 he with he | he
    · exact dat e (List.mem_of_mem_take he)
    · exact ht.dat e (List.mem_of_mem_drop he)
  · show x.c ≤ x.index + ((x.lay m.index (es.drop j)).L.length : Int)
    rw [hL, hlen]; omega
  · show x.ap ≤ min x.s (m.index - 1)
    omega
  · show min x.s (m.index - 1) ≤ min x.h (m.index - 1)
    omega
  · show min x.h (m.index - 1) ≤ x.index + ((x.lay m.index (es.drop j)).L.length : Int)
    rw [hL, hlen]; omega
/-- The ways that a Try goes. -/
theorem try_ways (x : Lg) (i t c : Int) (es : List E) : x.try_ i t c es = ((0, false), x) ∨
    (x.has i t = true ∧ x.skip es = es.length ∧ x.try_ i t c es = ((i + es.length, true), (x.commit (min c (i + es.length))).2)) ∨
    ∃ (j : Nat) (m : E), x.has i t = true ∧ x.skip es = j ∧ es[j]? = some m ∧ ¬ (m.index ≤ x.c ∨ 10000 < m.index - 1 - x.index + (es.length : Int) - (j : Int)) ∧ x.try_ i t c es = ((i + es.length, true), ((x.lay m.index (es.drop j)).commit (min c (i + es.length))).2) := by
  by_cases hh : x.has i t = true
  · have hle : x.skip es ≤ es.length := by
      induction es with
      | nil => simp [Lg.skip]
      | cons e es ih => rw [Lg.skip]; split <;> simp <;> omega
    rcases Nat.lt_or_ge (x.skip es) es.length with h | h
    · obtain ⟨m, hm⟩ : ∃ m, es[x.skip es]? = some m := ⟨_, List.getElem?_eq_getElem h⟩
      by_cases hb : m.index ≤ x.c ∨ 10000 < m.index - 1 - x.index + (es.length : Int) - ((x.skip es : Nat) : Int)
      · exact .inl (try_bad hh rfl hm hb)
      · exact .inr (.inr ⟨_, m, hh, rfl, hm, hb, try_lay hh rfl hm hb⟩)
    · exact .inr (.inl ⟨hh, by omega, try_all hh (by omega)⟩)
  · exact .inl (try_no (by simpa using hh))
theorem try_isOk {i t c : Int} {es : List E} (hx : x.Ok) (ht : Tried i es) : (x.try_ i t c es).2.Ok := by
  rcases try_ways x i t c es with h | ⟨-, -, h⟩ | ⟨j, m, h1, h2, h3, h4, h⟩
  · rw [h]; exact hx
  · rw [h]; exact commit_isOk hx _
  · rw [h]; exact commit_isOk (lay_isOk hx ht h1 h2 h3 h4) _
end
end Go.Proofs.Ytepnkhiclgjmpaa
