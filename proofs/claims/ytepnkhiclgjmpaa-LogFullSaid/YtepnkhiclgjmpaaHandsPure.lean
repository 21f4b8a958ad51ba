/-
  What Hand told, laid one behind the other, is the log. No program stands here.
  Conditions: none beyond each theorem's own.
-/
import Derived.Test.YtepnkhiclgjmpaaTwicePure
namespace Go.Proofs.Ytepnkhiclgjmpaa
set_option linter.unusedVariables false
set_option linter.unusedSimpArgs false
open Go.RowKit

structure HandsInv (x : Lg) (told : List E) : Prop where
  ok : x.Ok
  i0 : x.index = 0
  le : x.h ≤ (told.length : Int)
  eq : told.take x.h.toNat = x.L.take x.h.toNat
  full : (told.length : Int) = x.h ∨ x.h < (x.L.length : Int)

theorem HandsInv.h0 {x : Lg} {told : List E} (H : HandsInv x told) : 0 ≤ x.h ∧ x.h ≤ (x.L.length : Int) := by
  obtain ⟨⟨i0, i1, len, idx, dat, a0, a1, a2, a3, b2, b3, b4⟩, h0, -, -, -⟩ := H
  unfold Lg.lastI at b4
  omega
theorem append_ways (x : Lg) (t k : Int) (d : List UInt8) : (x.append t k d).2 = x ∨ ∃ e, (x.append t k d).2 = { x with L := x.L ++ [e] } := by
  unfold Lg.append
  split
  · exact .inl rfl
  · split
    · exact .inl rfl
    · split
      · exact .inl rfl
      · split
        · exact .inl rfl
        · exact .inr ⟨_, rfl⟩
theorem HandsInv.append {x : Lg} {told : List E} (H : HandsInv x told) (t k : Int) (d : List UInt8) : HandsInv (x.append t k d).2 told := by
  have hok := append_isOk H.ok t k d
  have hh := H.h0
  rcases append_ways x t k d with h | ⟨e, h⟩
  · rw [h]; exact H
  · rw [h] at hok ⊢
    refine ⟨hok, H.i0, H.le, ?_, .inr ?_⟩
    · show told.take x.h.toNat = (x.L ++ [e]).take x.h.toNat
      rw [H.eq, List.take_append_of_le_length (by omega)]
    · show x.h < ((x.L ++ [e]).length : Int)
      rw [List.length_append, List.length_cons, List.length_nil]; omega
theorem HandsInv.commit {x : Lg} {told : List E} (H : HandsInv x told) (k : Int) : HandsInv (x.commit k).2 told := by
  have hok := commit_isOk H.ok k
  have h : (x.commit k).2.h = x.h ∧ (x.commit k).2.L = x.L ∧ (x.commit k).2.index = x.index := by unfold Lg.commit; split <;> exact ⟨rfl, rfl, rfl⟩
  exact ⟨hok, by rw [h.2.2]; exact H.i0, by rw [h.1]; exact H.le, by rw [h.1, h.2.1]; exact H.eq, by rw [h.1, h.2.1]; exact H.full⟩
theorem HandsInv.try {x : Lg} {told : List E} (H : HandsInv x told) {i t c : Int} {es : List E} (ht : Tried i es) : HandsInv (x.try_ i t c es).2 told := by
  rcases try_ways x i t c es with h1 | ⟨h1, h2, h3⟩ | ⟨j, m, h1, h2, h3, h4, h5⟩
  · rw [h1]; exact H
  · rw [h3]; exact H.commit _
  · rw [h5]
    refine HandsInv.commit ?_ _
    have hok := lay_isOk H.ok ht h1 h2 h3 h4
    have hfr := tried_front ht h1 h2 h3
    have hjl := (List.getElem?_eq_some_iff.1 h3).1
    have hx := H.ok
    obtain ⟨f, hf⟩ : ∃ f : Nat, m.index - 1 = x.index + (f : Int) := ⟨(m.index - 1 - x.index).toNat, by have := hx.a0; have := hx.a1; have := hx.a2; omega⟩
    have hfl : f ≤ x.L.length := by unfold Lg.lastI at hfr; omega
    obtain ⟨hL, -⟩ := lay_idx hx ht h3 hf hfl
    have hi0 := H.i0
    have hh := H.h0
    have hle := H.le
    have hm : (x.lay m.index (es.drop j)).h = min x.h (f : Int) := by
      show min x.h (m.index - 1) = _
      rw [hf, hi0, Int.zero_add]
    refine ⟨hok, hi0, by rw [hm]; omega, ?_, .inr ?_⟩
    · rw [hm, hL, List.take_append_of_le_length (by rw [List.length_take]; omega), List.take_take]
      have := congrArg (List.take (min x.h (f : Int)).toNat) H.eq
      rw [List.take_take, List.take_take, show min (min x.h (f : Int)).toNat x.h.toNat = (min x.h (f : Int)).toNat by omega] at this
      rw [this]
      congr 1
      omega
    · rw [hm, hL, List.length_append, List.length_take, List.length_drop]
      omega
theorem hand_cut {x : Lg} {told : List E} (H : HandsInv x told) : x.hand.1 = x.L.drop x.h.toNat := by
  have hh := H.h0
  unfold Lg.hand Lg.cut Lg.lastI
  rw [H.i0]
  simp only [Int.sub_zero, Int.zero_add]
  rw [List.take_of_length_le (by rw [List.length_drop]; omega)]
theorem hand_index {x : Lg} {told : List E} (H : HandsInv x told) {k : Nat} {e : E} (h : x.hand.1[k]? = some e) : e.index = x.h + 1 + (k : Int) := by
  rw [hand_cut H, List.getElem?_drop] at h
  have := (H.ok.idx _ _ h).1
  have hh := H.h0
  rw [this, H.i0]; omega
/-- How the told entries stand within a Hand. -/
structure HandAt (x : Lg) (told tk : List E) (k : Nat) : Prop where
  le : x.h.toNat + k ≤ tk.length
  eq : tk.take (x.h.toNat + k) = told.take x.h.toNat ++ x.hand.1.take k
  zero : k = 0 → tk = told
  pos : 0 < k → tk.length = x.h.toNat + k
theorem HandAt.start {x : Lg} {told : List E} (H : HandsInv x told) : HandAt x told told 0 := ⟨by have := H.le; have := H.h0; omega, by simp, fun _ => rfl, fun h => by omega⟩
theorem HandAt.step {x : Lg} {told tk : List E} {k : Nat} {e : E} (h : HandAt x told tk k) (he : x.hand.1[k]? = some e) : HandAt x told (tk.take (x.h.toNat + k) ++ [e]) (k + 1) := by
  have hl : (tk.take (x.h.toNat + k)).length = x.h.toNat + k := by rw [List.length_take]; have := h.le; omega
  refine ⟨by rw [List.length_append, hl, List.length_cons, List.length_nil]; omega, ?_, fun h => by omega, fun _ => by rw [List.length_append, hl, List.length_cons, List.length_nil]; omega⟩
  rw [List.take_of_length_le (by rw [List.length_append, hl, List.length_cons, List.length_nil]; omega), h.eq, List.append_assoc]
  congr 1
  rw [List.take_add_one, he]; rfl
theorem HandAt.done {x : Lg} {told tk : List E} (H : HandsInv x told) (h : HandAt x told tk x.hand.1.length) : tk = x.L := by
  have hh := H.h0
  have hc := hand_cut H
  rcases Nat.eq_zero_or_pos x.hand.1.length with h0 | h0
  · rw [h.zero h0]
    rw [hc, List.length_drop] at h0
    have : told.length = x.h.toNat := by rcases H.full with h1 | h1 <;> omega
    have h2 := H.eq
    rw [List.take_of_length_le (by omega), List.take_of_length_le (by omega)] at h2
    exact h2
  · have h1 := h.pos h0
    have h2 := h.eq
    rw [List.take_of_length_le (by omega), List.take_length, hc, H.eq, List.take_append_drop] at h2
    exact h2
theorem HandsInv.hand {x : Lg} {told : List E} (H : HandsInv x told) : HandsInv x.hand.2 x.L := by
  refine ⟨hand_isOk H.ok, H.i0, ?_, ?_, .inl ?_⟩
  · show x.lastI ≤ _
    unfold Lg.lastI; rw [H.i0]; omega
  · rfl
  · show _ = x.lastI
    unfold Lg.lastI; rw [H.i0]; omega
theorem HandsInv.start : HandsInv (bLog []) [] := ⟨bLog_nil_ok, rfl, by decide, rfl, .inl rfl⟩
end Go.Proofs.Ytepnkhiclgjmpaa
