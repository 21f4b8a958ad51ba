/-
  Slices that a call owns (SP.row): what the model's own operations on them come to: reading, storing, cutting, append, clear.
  No program stands here but as a variable. Conditions: none beyond each theorem's own.
-/
import Derived.Test.YtbncicfbgfmekaaMem
import Derived.ArgAppend
namespace Go.Proofs.Ytbncicfbgfmekaa
set_option linter.unusedVariables false
set_option linter.unusedSimpArgs false
open Go.RowKit

namespace SP
section
variable {w : World} {S : Nat → Prop} {e : TypeId} {size : Nat} {v : Value} {xs : List Value}

theorem row_nil (e : TypeId) (size : Nat) (w : World) (S : Nat → Prop) : (row e size (.slice none 0 0) []).At w S := .inl ⟨rfl, rfl⟩

theorem row_shape (hs : 0 < size) (h : (row e size v xs).At w S) {n : Nat} (hn : xs.length = n * size) : ∃ A c, v = .slice A n c ∧ n ≤ c ∧ c ≤ maxLen := by
  rcases h with ⟨rfl, rfl⟩ | ⟨g, off, n', cap, cur, rfl, _, _, h1, h2, _, h3, _⟩
  · have : n = 0 := by
      rcases Nat.eq_zero_or_pos n with h0 | h0
      · exact h0
      · have := Nat.mul_pos h0 hs; simp at hn; omega
    subst this; exact ⟨_, _, rfl, Nat.le_refl _, Nat.zero_le _⟩
  · have : n = n' := Nat.eq_of_mul_eq_mul_right hs (hn.symm.trans h3)
    subst this; exact ⟨_, _, rfl, h1, h2⟩
theorem row_shape1 (h : (row e 1 v xs).At w S) : ∃ A c, v = .slice A xs.length c ∧ xs.length ≤ c ∧ c ≤ maxLen := row_shape (by decide) h (by simp)

/-- The block that a row lies in, known whole. -/
theorem row_open {A : Option Addr} {n c : Nat} (hs : 0 < size) (h : (row e size (.slice A n c) xs).At w S) (hn : 0 < n) : ∃ (g off : Nat) (cur : Array Value), A = some ⟨g, off, none⟩ ∧ S g ∧ w.heap[g]? = some (.cells cur e (0, 0)) ∧
    n ≤ c ∧ c ≤ maxLen ∧ off + c * size ≤ cur.size ∧ xs.length = n * size ∧ (cur.toList.drop off).take (n * size) = xs := by
  rcases h with ⟨h, _⟩ | ⟨g, off, n', cap, cur, h, r⟩
  · injection h with h1 h2; omega
  · injection h with h1 h2 h3; subst h2; subst h3; exact ⟨g, off, cur, h1, r⟩

theorem cur_get {cur : Array Value} {off k : Nat} (hx : (cur.toList.drop off).take k = xs) {j : Nat} {u : Value} (hu : xs[j]? = some u) : cur[off + j]? = some u := by
  rw [← hx, List.getElem?_take] at hu
  split at hu
  · rw [List.getElem?_drop] at hu
    simpa using hu
  · cases hu

/-- An element's cell. -/
theorem row_cell {A : Option Addr} {n c : Nat} (h : (row e size (.slice A n c) xs).At w S) {j : Nat} {u : Value} (hu : xs[j]? = some u) : ∃ g off, A = some ⟨g, off, none⟩ ∧ S g ∧ w.cell? ⟨g, off + j, none⟩ = some u ∧ w.frozen? ⟨g, off + j, none⟩ = false := by
  rcases h with ⟨_, rfl⟩ | ⟨g, off, n', cap, cur, h, hg, hb, _, _, _, _, hx⟩
  · simp at hu
  · injection h with h1 h2 h3
    exact ⟨g, off, h1, hg, by rw [cell_of_row w g _ cur e (0, 0) hb]; exact cur_get hx hu, frozen_of_row w g _ cur e hb⟩

theorem set_take_drop (l : List Value) (off k j : Nat) (u : Value) (hj : j < k) : ((l.set (off + j) u).drop off).take k = ((l.drop off).take k).set j u := by
  apply List.ext_getElem?
  intro i
  simp only [List.getElem?_take, List.getElem?_drop, List.getElem?_set, List.length_take, List.length_drop]
  by_cases hi : i < k
  · by_cases hij : j = i
    · subst hij
      simp only [hi, if_true, List.length_take, List.length_drop]
      by_cases hl : off + j < l.length
      · rw [if_pos hl, if_pos (by omega)]
      · rw [if_neg hl, if_neg (by omega)]
    · simp [hi, hij]
  · have : j ≠ i := by omega
    simp [hi, this]

/-- A store into an element's cell. -/
theorem row_store {g off n c j : Nat} (h : (row e size (.slice (some ⟨g, off, none⟩) n c) xs).At w S) (hj : j < xs.length) (u : Value) : (row e size (.slice (some ⟨g, off, none⟩) n c) (xs.set j u)).At (w.setCell ⟨g, off + j, none⟩ u) S := by
  rcases h with ⟨h, _⟩ | ⟨g', off', n', cap, cur, h, hg, hb, h1, h2, h3, h4, hx⟩
  · cases h
  · injection h with ha hn hc
    injection ha with ha
    injection ha with hgg hoo
    subst hgg hoo hn hc
    refine .inr ⟨g, off, n, c, cur.setIfInBounds (off + j) u, rfl, hg, heap_setCell_same w g _ cur e u hb, h1, h2, by simpa using h3, by simpa using h4, ?_⟩
    rw [Array.toList_setIfInBounds, set_take_drop _ _ _ _ _ (by omega), hx]

/-- A cut. -/
theorem row_cut {A : Option Addr} {n c l h' m : Nat} (hr : (row e size (.slice A n c) xs).At w S) (h1 : l ≤ h') (h2 : h' ≤ n) (h3 : h' ≤ m) (h4 : m ≤ c) :
    (row e size (sliced A l h' m size) ((xs.drop (l * size)).take ((h' - l) * size))).At w S := by
  rcases hr with ⟨h, rfl⟩ | ⟨g, off, n', cap, cur, h, hg, hb, b1, b2, b3, b4, hx⟩
  · injection h with ha hn hc
    subst ha hn hc
    obtain rfl : m = 0 := by omega
    obtain rfl : h' = 0 := by omega
    obtain rfl : l = 0 := by omega
    exact .inl ⟨by simp [sliced], by simp⟩
  · injection h with ha hn hc
    subst ha hn hc
    by_cases hml : m = l
    · subst hml
      obtain rfl : h' = m := by omega
      refine .inr ⟨g, off, 0, 0, cur, by simp [sliced], hg, hb, Nat.le_refl _, Nat.zero_le _, by omega, by simp, by simp⟩
    · refine .inr ⟨g, off + l * size, h' - l, m - l, cur, by simp [sliced, hml, Addr.add_lit], hg, hb, by omega, by omega, ?_, ?_, ?_⟩
      · have : l * size + (m - l) * size ≤ c * size := by rw [← Nat.add_mul]; exact Nat.mul_le_mul_right _ (by omega)
        omega
      · have : (h' - l) * size + l * size ≤ n * size := by rw [← Nat.add_mul]; exact Nat.mul_le_mul_right _ (by omega)
        rw [List.length_take, List.length_drop, b4]; omega
      · rw [← hx, List.drop_take, List.drop_drop, List.take_take, Nat.min_eq_left]
        have : (h' - l) * size + l * size ≤ n * size := by rw [← Nat.add_mul]; exact Nat.mul_le_mul_right _ (by omega)
        omega

/-- The first of its elements, the whole spare still there. -/
theorem row_take {A : Option Addr} {n c k : Nat} (hr : (row e size (.slice A n c) xs).At w S) (hk : k ≤ n) : (row e size (.slice A k c) (xs.take (k * size))).At w S := by
  rcases hr with ⟨h, rfl⟩ | ⟨g, off, n', cap, cur, h, hg, hb, b1, b2, b3, b4, hx⟩
  · injection h with ha hn hc
    subst ha hn hc
    obtain rfl : k = 0 := by omega
    exact .inl ⟨rfl, by simp⟩
  · injection h with ha hn hc
    subst ha hn hc
    have hle : k * size ≤ n * size := Nat.mul_le_mul_right _ hk
    refine .inr ⟨g, off, k, c, cur, rfl, hg, hb, by omega, b2, b3, by rw [List.length_take]; omega, ?_⟩
    rw [← hx, List.take_take, Nat.min_eq_left hle]

/-- A new row. -/
theorem row_new (w : World) (e : TypeId) (size n : Nat) (cs : Array Value) (hn : cs.size = n * size) (hm : n ≤ maxLen) {S : Nat → Prop} (hS : S w.heap.size) : (row e size (.slice (some ⟨w.heap.size, 0, none⟩) n n) cs.toList).At (w.alloc (.cells cs e)) S :=
  .inr ⟨w.heap.size, 0, n, n, cs, rfl, hS, heap_alloc_new w _, Nat.le_refl _, hm, by omega, by simpa using hn, by rw [← hn, List.drop_zero, ← Array.length_toList, List.take_length]⟩
end
end SP

/-! ### What can be read -/

/-- The cells of a slice's elements, whoever owns them. -/
def Rd (w : World) (A : Option Addr) (xs : List Value) : Prop := ∀ j u, xs[j]? = some u → ∃ g off, A = some ⟨g, off, none⟩ ∧ w.cell? ⟨g, off + j, none⟩ = some u

theorem Rd.of_row {w : World} {S : Nat → Prop} {e : TypeId} {size n c : Nat} {A : Option Addr} {xs : List Value} (h : (SP.row e size (.slice A n c) xs).At w S) : Rd w A xs := fun j u hu => by
  obtain ⟨g, off, h1, _, h2, _⟩ := SP.row_cell h hu
  exact ⟨g, off, h1, h2⟩
theorem Rd.nil (w : World) (A : Option Addr) : Rd w A [] := fun j u hu => by simp at hu
theorem Rd.cut {w : World} {A : Option Addr} {xs : List Value} (h : Rd w A xs) (l k m size : Nat) (hm : l * size < xs.length → m ≠ l) : Rd w (if m = l then A else A.map (·.add (l * size))) ((xs.drop (l * size)).take k) := fun j u hu => by
  rw [List.getElem?_take] at hu
  split at hu
  · rw [List.getElem?_drop] at hu
    have hl : l * size < xs.length := by have := (List.getElem?_eq_some_iff.1 hu).1; omega
    obtain ⟨g, off, rfl, hc⟩ := h _ _ hu
    rw [if_neg (hm hl)]
    exact ⟨g, off + l * size, by simp [Addr.add_lit], by rw [Nat.add_assoc]; exact hc⟩
  · cases hu

/-- What stands behind a place, as the walk spells the cut. -/
theorem Rd.drop {w : World} {g off : Nat} {xs : List Value} (h : Rd w (some ⟨g, off, none⟩) xs) (l m : Nat) (hm : l < xs.length → m ≠ l) : Rd w (if m = l then some ⟨g, off, none⟩ else some ⟨g, off + l, none⟩) (xs.drop l) := fun j u hu => by
  rw [List.getElem?_drop] at hu
  have hl : l < xs.length := by have := (List.getElem?_eq_some_iff.1 hu).1; omega
  obtain ⟨g', off', he, hc⟩ := h _ _ hu
  injection he with he
  injection he with h1 h2
  subst h1 h2
  rw [if_neg (hm hl)]
  exact ⟨g, off + l, rfl, by rw [Nat.add_assoc]; exact hc⟩
theorem Rd.drew {w : World} {A : Option Addr} {xs : List Value} (h : Rd w A xs) : Rd w.drew A xs := h
theorem Rd.below {w w' : World} {A : Option Addr} {xs : List Value} (h : Rd w A xs) (hb : Below w.heap.size w w') : Rd w' A xs := fun j u hu => by
  obtain ⟨g, off, he, hc⟩ := h j u hu
  exact ⟨g, off, he, (hb.cell (World.block_lt_of_cell? w _ hc)).trans hc⟩

/-! ### append -/

section
variable {P : Program} {w : World} {S : Nat → Prop}

theorem heap_setRow (w : World) (g : Nat) (cur cur' : Array Value) (e : TypeId) (hb : w.heap[g]? = some (.cells cur e (0, 0))) : (w.setRow g cur').heap[g]? = some (.cells cur' e (0, 0)) := setRow_heap w g cur cur' e _ hb

theorem Keeps.setRow {a : World} (h : Keeps S a w) {g : Nat} (hg : S g) (cs : Array Value) : Keeps S a (w.setRow g cs) :=
  ⟨h.os, h.tape, h.output, by simpa using h.size, fun i hi hn => (setRow_other w g i cs (fun e => hn (e ▸ hg))).trans (h.block i hi hn)⟩

theorem seg_take (l news : List Value) (off k : Nat) (hk : off + k ≤ l.length) (hn : off + k + news.length ≤ l.length) :
    ((l.take (off + k) ++ news ++ l.drop (off + k + news.length)).drop off).take (k + news.length) = (l.drop off).take k ++ news := by
  rw [List.append_assoc, List.drop_append_of_le_length (by rw [List.length_take]; omega), List.drop_take, Nat.add_sub_cancel_left, ← List.append_assoc]
  have hl : ((l.drop off).take k ++ news).length = k + news.length := by rw [List.length_append, List.length_take, List.length_drop]; omega
  rw [← hl]
  exact List.take_left

theorem run_append_row (t ty e : TypeId) (i : TypeInfo) (z : Value) (size bytes : Nat) (ht : P.underlying t = some (.slice e)) (hi : P.info? e = some i) (hz : i.zero = some z)
    (hsize : i.size = size) (hby : i.bytes = bytes) (hzs : z.cells.size = size) (hsz : 0 < size)
    {Av : Option Addr} {cv : Nat} {xs : List Value} {n : Nat} (hn : xs.length = n * size) (hr : (SP.row e size (.slice Av n cv) xs).At w S)
    (A : Option Addr) (m c : Nat) (news : List Value) (hl : news.length = m * size) (hnews : Rd w A news) (h1 : ∀ u ∈ news, u.oneCell' = true)
    (h63 : n + m ≤ maxLen) (hbytes : (n + m) * bytes ≤ 140737488355328) :
    ∃ A' c' w', (Builtin.append_ #[t, t] ty #[.slice Av n cv, .slice A m c]).run P w = .ok (.slice A' (n + m) c') w' ∧ (n + m ≤ cv → A' = Av ∧ c' = cv) ∧ Keeps S w w' ∧ (SP.row e size (.slice A' (n + m) c') (xs ++ news)).At w' (grow S w w') := by
  subst hsize
  subst hby
  have hsmall : n + m ≤ 9223372036854775807 := by simp only [maxLen] at h63; omega
  have hlen : (xs ++ news).length = (n + m) * i.size := by rw [List.length_append, hn, hl, Nat.add_mul]
  -- a new row
  have grown : ∀ (old : Nat), old < n + m →
      Keeps S w (w.drew.alloc (.cells (xs.toArray ++ news.toArray ++ Builtin.zeroCells z.cells (grownCap w (n + m) old e - (n + m))) e)) ∧
      (SP.row e i.size (.slice (some ⟨w.heap.size, 0, none⟩) (n + m) (grownCap w (n + m) old e)) (xs ++ news)).At (w.drew.alloc (.cells (xs.toArray ++ news.toArray ++ Builtin.zeroCells z.cells (grownCap w (n + m) old e - (n + m))) e))
        (grow S w (w.drew.alloc (.cells (xs.toArray ++ news.toArray ++ Builtin.zeroCells z.cells (grownCap w (n + m) old e - (n + m))) e))) := by
    intro old ho
    have hge := grownCap_ge w (n + m) old e
    have hcm : grownCap w (n + m) old e ≤ maxLen := grownCap_le_maxLen w (n + m) old e h63
    refine ⟨((Keeps.refl S w).drew).alloc _, .inr ⟨w.heap.size, 0, n + m, _, _, rfl, .inr ⟨Nat.le_refl _, by simp⟩, heap_alloc_new w.drew _, hge, hcm, ?_, hlen, ?_⟩⟩
    · simp only [Array.size_append, List.size_toArray, size_zeroCells, hzs, hn, hl, ← Nat.add_mul]
      rw [show n + m + (grownCap w (n + m) old e - (n + m)) = grownCap w (n + m) old e by omega]
      omega
    · simp only [Array.toList_append, List.drop_zero]
      rw [← hlen]
      exact List.take_left
  -- nothing to append, of no address
  have hA : A = none → m = 0 ∧ news = [] := by
    rintro rfl
    have hnil : news = [] := by
      cases news with
      | nil => rfl
      | cons u r => obtain ⟨g, off, h, _⟩ := hnews 0 u rfl; cases h
    subst hnil
    refine ⟨?_, rfl⟩
    rcases Nat.eq_zero_or_pos m with h0 | h0
    · exact h0
    · have := Nat.mul_pos h0 hsz; simp at hl; omega
  have hcells : ∀ ad, A = some ad → ∀ j u, news[j]? = some u → w.cell? (ad.add j) = some u := by
    intro ad hA' j u hu
    obtain ⟨g, off, h, hc⟩ := hnews j u hu
    rw [hA'] at h
    injection h with h
    subst h
    rw [Addr.add_lit]
    exact hc
  rcases hr with ⟨hv, rfl⟩ | ⟨g, off, n, cv, cur, hv, hSg, hb, b1, b2, b3, b4, hx⟩
  · injection hv with hv1 hv2 hv3
    subst hv1 hv2 hv3
    by_cases hm : m = 0
    · subst hm
      have hnil : news = [] := List.eq_nil_of_length_eq_zero (by simpa using hl)
      subst hnil
      refine ⟨none, 0, w, ?_, fun _ => ⟨rfl, rfl⟩, Keeps.refl _ _, SP.row_nil _ _ _ _⟩
      cases A <;> simp [Builtin.append_, run_underlying ht, sizeOf, typeInfo, hi, Builtin.lenOf, Builtin.firstCells, loadCells, loadCellsFrom]
    · cases A with
      | none => exact absurd (hA rfl).1 hm
      | some ad =>
        have hr := run_append_nil (P := P) w t ty e i z ht hi hz ad m c news hl (hcells ad rfl) (by omega) (by omega) (by have hb := hbytes; simp only [Nat.zero_add] at hb; omega)
        have hgr := grown 0 (by omega)
        simp only [Nat.zero_add, List.nil_append, Array.empty_append] at hgr ⊢
        exact ⟨_, _, _, hr, fun h => by omega, hgr.1, hgr.2⟩
  · injection hv with hv1 hv2 hv3
    subst hv1 hv2 hv3
    have hroomSize : n + m ≤ cv → off + n * i.size + news.length ≤ cur.size := by
      intro h
      have : n * i.size + m * i.size ≤ cv * i.size := by rw [← Nat.add_mul]; exact Nat.mul_le_mul_right _ h
      rw [hl]; omega
    have holds : ∀ j u, xs[j]? = some u → w.cell? ((⟨g, off, none⟩ : Addr).add j) = some u := by
      intro j u hu
      rw [Addr.add_lit, cell_of_row w g _ cur e (0, 0) hb]
      exact SP.cur_get hx hu
    by_cases hroom : n + m ≤ cv
    · cases A with
      | none =>
        obtain ⟨rfl, rfl⟩ := hA rfl
        refine ⟨some ⟨g, off, none⟩, cv, w, ?_, fun _ => ⟨rfl, rfl⟩, Keeps.refl _ _, ?_⟩
        · simp [Builtin.append_, run_underlying ht, sizeOf, typeInfo, hi, Builtin.lenOf, Builtin.firstCells, b1, storeCells]
        · rw [List.append_nil]
          exact .inr ⟨g, off, n, cv, cur, rfl, .inl hSg, hb, b1, b2, b3, b4, hx⟩
      | some ad =>
        have hf := run_firstCells_some (P := P) w i.size m ad m c news hl (hcells ad rfl)
        have hst := run_storeCells_at P g (off + n * i.size) e news 0 cur w hb (by simpa using hroomSize hroom) h1
        simp only [Nat.add_zero] at hst
        refine ⟨some ⟨g, off, none⟩, cv, w.setRow g (cur.toList.take (off + n * i.size) ++ news ++ cur.toList.drop (off + n * i.size + news.length)).toArray, ?_, fun _ => ⟨rfl, rfl⟩, (Keeps.refl S w).setRow hSg _, ?_⟩
        · simp only [Builtin.append_, Sem.run_bind]
          simp [run_underlying ht, sizeOf, typeInfo, hi, Builtin.lenOf, hroom, hf, Addr.add_lit, hst]
        · refine .inr ⟨g, off, n + m, cv, _, rfl, .inl hSg, heap_setRow w g cur _ e hb, hroom, b2, ?_, hlen, ?_⟩
          · have := hroomSize hroom
            simp only [List.size_toArray, List.length_append, List.length_take, List.length_drop, Array.length_toList]
            omega
          · have h1 := hroomSize hroom
            have hh := seg_take cur.toList news off (n * i.size) (by simp; omega) (by simpa using h1)
            rw [hl, ← Nat.add_mul, hx] at hh
            rw [hl]
            exact hh
    · cases A with
      | none => obtain ⟨rfl, rfl⟩ := hA rfl; omega
      | some ad =>
        have hr := run_append_grow (P := P) w t ty e i z ht hi hz ⟨g, off, none⟩ n cv xs hn holds ad m c news hl (hcells ad rfl) (by omega) (by omega) (growslice_fits (by omega) hbytes)
        have hgr := grown cv (by omega)
        exact ⟨_, _, _, hr, fun h => absurd h hroom, hgr.1, hgr.2⟩
end
end Go.Proofs.Ytbncicfbgfmekaa
