/-
  Try of a log: plain facts, and what memory is cut.
  Conditions: none beyond each theorem's own.
-/
import Derived.Test.YtepnkhiclgjmpaaLog6
namespace Go.Proofs.Ytepnkhiclgjmpaa
set_option linter.unusedVariables false
set_option linter.unusedSimpArgs false
open Go.RowKit

theorem SP.stars_sub {L L' : List SP} (h : L'.Sublist L) {w : World} : ∀ {S : Nat → Prop}, (SP.stars L).At w S → (SP.stars L').At w S := by
  induction h with
  | slnil => exact fun h => h
  | cons _ _ ih => exact fun h => ih (SP.sep_right h)
  | cons_cons _ _ ih => exact fun h => SP.sep_imp h (fun _ => id) (fun _ => ih)

section
variable {S : Nat → Prop} {w0 w : World} {R : List SP}
/-- The first of a row's elements, no room behind them. -/
theorem Own.rowTrim {e : TypeId} {size n c f : Nat} {A : Option Addr} {xs : List Value} (h : Own S w0 w (SP.row e size (.slice A n c) xs :: R)) (hf : f ≤ n) : Own S w0 w (SP.row e size (.slice A f f) (xs.take (f * size)) :: R) :=
  h.imp fun T hr => by
    rcases hr with ⟨h1, rfl⟩ | ⟨g, off, n', cap, cur, h1, hg, hb, b1, b2, b3, b4, hx⟩
    · cases h1
      obtain rfl : f = 0 := by omega
      exact .inl ⟨rfl, by simp⟩
    · cases h1
      have hle : f * size ≤ n * size := Nat.mul_le_mul_right _ hf
      have hle2 : n * size ≤ c * size := Nat.mul_le_mul_right _ b1
      refine .inr ⟨g, off, f, f, cur, rfl, hg, hb, Nat.le_refl _, by omega, by omega, by rw [List.length_take]; omega, ?_⟩
      rw [← hx, List.take_take, Nat.min_eq_left hle]
theorem mdata_take (L : List E) (ds : List Value) (f : Nat) : (mdata L ds).take f = mdata (L.take f) (ds.take f) := by
  unfold mdata
  rw [List.take_zipWith]
theorem Own.dataTrim {L : List E} {ds : List Value} (h : Own S w0 w (SP.stars (mdata L ds) :: R)) (f : Nat) : Own S w0 w (SP.stars (mdata (L.take f) (ds.take f)) :: R) := by
  rw [← mdata_take]
  exact h.imp fun T hT => SP.stars_sub (List.take_sublist _ _) hT
end

section
variable {x : Lg} {i t c : Int} {es : List E}
theorem skip_drop {j : Nat} {m : E} (hm : es[j]? = some m) : x.skip (es.drop j) = if x.has m.index m.term then x.skip (es.drop (j + 1)) + 1 else 0 := by
  have h := List.getElem?_eq_some_iff.1 hm
  rw [List.drop_eq_getElem_cons h.1, h.2, Lg.skip]
theorem skip_end {j : Nat} (h : es.length ≤ j) : x.skip (es.drop j) = 0 := by rw [List.drop_eq_nil_of_le h]; rfl
theorem skip_had : ∀ (es : List E) (j : Nat) (m : E), j < x.skip es → es[j]? = some m → x.has m.index m.term = true
  | [], j, m, hj, hm => by simp at hm
  | e :: es, j, m, hj, hm => by
    rw [Lg.skip] at hj
    split at hj
    · rename_i h1
      cases j with
      | zero =>
        rw [List.getElem?_cons_zero] at hm
        injection hm with hm
        subst hm
        exact h1
      | succ j =>
        rw [List.getElem?_cons_succ] at hm
        exact skip_had es j m (by omega) hm
    · omega
theorem try_no (h : x.has i t = false) : x.try_ i t c es = ((0, false), x) := by rw [Lg.try_, if_pos h]
theorem try_all (h : x.has i t = true) (hs : x.skip es = es.length) : x.try_ i t c es = ((i + es.length, true), (x.commit (min c (i + es.length))).2) := by
  rw [Lg.try_, if_neg (by simp [h]), hs, List.drop_length]
theorem try_bad {j : Nat} {m : E} (h : x.has i t = true) (hs : x.skip es = j) (hm : es[j]? = some m) (hb : m.index ≤ x.c ∨ 10000 < m.index - 1 - x.index + (es.length : Int) - (j : Int)) : x.try_ i t c es = ((0, false), x) := by
  have hj := List.getElem?_eq_some_iff.1 hm
  rw [Lg.try_, if_neg (by simp [h]), hs, List.drop_eq_getElem_cons hj.1, hj.2]
  show (if _ then _ else _) = _
  rw [if_pos]
  rw [List.length_drop]
  have := hj.1
  omega
theorem try_lay {j : Nat} {m : E} (h : x.has i t = true) (hs : x.skip es = j) (hm : es[j]? = some m) (hb : ¬ (m.index ≤ x.c ∨ 10000 < m.index - 1 - x.index + (es.length : Int) - (j : Int))) :
    x.try_ i t c es = ((i + es.length, true), ((x.lay m.index (es.drop j)).commit (min c (i + es.length))).2) := by
  have hj := List.getElem?_eq_some_iff.1 hm
  rw [Lg.try_, if_neg (by simp [h]), hs, List.drop_eq_getElem_cons hj.1, hj.2]
  show (if _ then _ else _) = _
  rw [if_neg]
  rw [List.length_drop]
  have := hj.1
  omega
/-- An index that has a term stands within the log. -/
theorem has_within (h : x.has i t = true) : x.index ≤ i ∧ i ≤ x.lastI := by
  simp only [Lg.has, decide_eq_true_eq] at h
  obtain ⟨h1, -⟩ := h
  unfold Lg.at at h1
  split at h1
  · cases h1
  · split at h1
    · unfold Lg.lastI; omega
    · split at h1
      · rename_i h2 h3 e he
        unfold Lg.entry? at he
        split at he
        · have := (List.getElem?_eq_some_iff.1 he).1
          unfold Lg.lastI; omega
        · cases he
      · cases h1
/-- What may be tried behind an index. -/
structure Tried (i : Int) (es : List E) : Prop where
  idx : ∀ (j : Nat) (m : E), es[j]? = some m → m.index = i + 1 + (j : Int) ∧ 1 ≤ m.index ∧ m.index ≤ maxI
  dat : ∀ m, m ∈ es → m.dat.length ≤ 4096
/-- Where the entries that the log lacks begin. -/
theorem tried_front {j : Nat} {m : E} (ht : Tried i es) (h : x.has i t = true) (hs : x.skip es = j) (hm : es[j]? = some m) : m.index - 1 ≤ x.lastI := by
  have h1 := (ht.idx j m hm).1
  cases j with
  | zero => have := has_within h; omega
  | succ j =>
    obtain ⟨p, hp⟩ : ∃ p, es[j]? = some p := ⟨_, List.getElem?_eq_getElem (by have := (List.getElem?_eq_some_iff.1 hm).1; omega)⟩
    have h2 := has_within (skip_had (x := x) es j p (by omega) hp)
    have h3 := (ht.idx j p hp).1
    omega
theorem lay_idx {j f : Nat} {m : E} (hx : x.Ok) (ht : Tried i es) (hm : es[j]? = some m) (hf : m.index - 1 = x.index + (f : Int)) (hfl : f ≤ x.L.length) :
    (x.lay m.index (es.drop j)).L = x.L.take f ++ es.drop j ∧ ∀ (k : Nat) (e : E), (x.L.take f ++ es.drop j)[k]? = some e → e.index = x.index + 1 + (k : Int) ∧ e.index ≤ maxI := by
  refine ⟨by rw [Lg.lay, show (m.index - 1 - x.index).toNat = f by omega], fun k e he => ?_⟩
  have hl : (x.L.take f).length = f := by rw [List.length_take]; omega
  by_cases hk : k < f
  · rw [List.getElem?_append_left (by omega), List.getElem?_take, if_pos hk] at he
    exact hx.idx k e he
  · rw [List.getElem?_append_right (by omega), hl, List.getElem?_drop] at he
    have h1 := ht.idx _ e he
    have h2 := ht.idx j m hm
    omega
end
end Go.Proofs.Ytepnkhiclgjmpaa
