/-
  A slice of slices that a law owns: the outer row and each inner row by itself.
  Conditions: none beyond each theorem's own.
-/
import Derived.Test.YtlhinhcbbknhcaaOwnOps
import Derived.Laws.MakeOwn
import Derived.OwnWalk
namespace Go.Proofs.Ytlhinhcbbknhcaa
set_option linter.unusedVariables false
set_option linter.unusedSimpArgs false
open Go.RowKit

/-- The inner rows behind the outer row's cells. -/
def inner (e : TypeId) (vs : List Value) (L : List (List Value)) : List SP := List.zipWith (fun v xs => SP.row e 1 v xs) vs L
def SP.mat (te e : TypeId) (v : Value) (L : List (List Value)) : SP := SP.ex fun vs : List Value => SP.stars [SP.pur (vs.length = L.length), SP.row te 1 v vs, SP.stars (inner e vs L)]

section
variable {S : Nat → Prop} {w0 w : World} {R : List SP} {te e : TypeId} {v : Value} {L : List (List Value)} {vs : List Value}

theorem inner_length (h : vs.length = L.length) : (inner e vs L).length = L.length := by simp [inner, h]
theorem inner_get {k : Nat} {u : Value} {xs : List Value} (hv : vs[k]? = some u) (hL : L[k]? = some xs) : (inner e vs L)[k]? = some (SP.row e 1 u xs) := by
  simp [inner, List.getElem?_zipWith, hv, hL]
theorem inner_set {k : Nat} (u : Value) (ys : List Value) (h : vs.length = L.length) : (inner e vs L).set k (SP.row e 1 u ys) = inner e (vs.set k u) (L.set k ys) := by
  apply List.ext_getElem?
  intro i
  simp only [inner, List.getElem?_set, List.getElem?_zipWith, List.length_zipWith]
  by_cases hi : k = i
  · subst hi
    by_cases hk : k < vs.length
    · have h2 : k < L.length := by omega
      simp [hk, h2]; try omega
    · have h2 : ¬ k < L.length := by omega
      simp [hk, h2]; try omega
  · simp [hi]

theorem Own.mat_open (h : Own S w0 w (SP.mat te e v L :: R)) : ∃ vs : List Value, vs.length = L.length ∧ Own S w0 w (SP.row te 1 v vs :: SP.stars (inner e vs L) :: R) := by
  obtain ⟨vs, h⟩ := h.unex
  obtain ⟨h1, h2⟩ := (Own.flat (L := [_, _, _]) h).unpur
  exact ⟨vs, h1, h2⟩
theorem Own.mat_shut (hl : vs.length = L.length) (h : Own S w0 w (SP.row te 1 v vs :: SP.stars (inner e vs L) :: R)) : Own S w0 w (SP.mat te e v L :: R) :=
  Own.mkex vs (Own.unflat (L := [_, _, _]) (h.pur hl))

/-- One inner row, taken out; and the way back, with the outer cell that names it. -/
theorem Own.mat_at {k : Nat} {xs : List Value} (h : Own S w0 w (SP.mat te e v L :: R)) (hk : L[k]? = some xs) :
    ∃ (vs : List Value) (A : Option Addr) (c : Nat), vs.length = L.length ∧ xs.length ≤ c ∧ c ≤ maxLen ∧ vs[k]? = some (.slice A xs.length c) ∧
      Own S w0 w (SP.row e 1 (.slice A xs.length c) xs :: SP.row te 1 v vs :: SP.stars ((inner e vs L).eraseIdx k) :: R) ∧
      (∀ w' u ys, Own S w0 w' (SP.row e 1 u ys :: SP.row te 1 v (vs.set k u) :: SP.stars ((inner e vs L).eraseIdx k) :: R) → Own S w0 w' (SP.mat te e v (L.set k ys) :: R)) := by
  obtain ⟨vs, hl, h⟩ := h.mat_open
  have hkl : k < L.length := (List.getElem?_eq_some_iff.1 hk).1
  obtain ⟨u, hu⟩ : ∃ u, vs[k]? = some u := ⟨_, List.getElem?_eq_getElem (by omega)⟩
  have h2 := (h.swap.focus k (inner_get (e := e) hu hk))
  obtain ⟨A, c, rfl, h3, h4⟩ := SP.row_shape1 h2.head
  refine ⟨vs, A, c, hl, h3, h4, hu, h2.perm (List.Perm.cons _ (List.Perm.swap _ _ _)), ?_⟩
  intro w' u ys h'
  refine Own.mat_shut (vs := vs.set k u) (by simp [hl]) ?_
  have h5 := (h'.perm (List.Perm.cons _ (List.Perm.swap _ _ _))).unfocus (by rw [inner_length hl]; exact hkl)
  rw [inner_set _ _ hl] at h5
  exact h5.swap

theorem set_same {α : Type} {l : List α} {k : Nat} {x : α} (h : l[k]? = some x) : l.set k x = l := by
  apply List.ext_getElem?
  intro z
  rw [List.getElem?_set]
  split
  · rename_i hz
    subst hz
    split
    · exact h.symm
    · rename_i hz
      have := (List.getElem?_eq_some_iff.1 h).1
      omega
  · rfl

/-- The rows of an empty matrix of so many rows lie nowhere. -/
theorem nils_at (n : Nat) (w : World) (S : Nat → Prop) : (SP.stars (inner e (List.replicate n (.slice none 0 0)) (List.replicate n []))).At w S := by
  induction n generalizing S with
  | zero => exact trivial
  | succ n ih => exact ⟨fun _ => False, S, fun _ h => h.elim, fun _ h => h, fun _ h => h.elim, SP.row_nil _ _ _ _, ih S⟩
end

section
variable {S : Nat → Prop} {w0 w : World} {R : List SP} {te e : TypeId} {L : List (List Value)} {mb off0 n c : Nat}
/-- A cell of an inner row: the outer cell, the inner one, and a store into it. -/
theorem Own.mat_cell {k j : Nat} {xs : List Value} {u0 : Value} (h : Own S w0 w (SP.mat te e (.slice (some ⟨mb, off0, none⟩) n c) L :: R)) (hk : L[k]? = some xs) (hj : xs[j]? = some u0) :
    ∃ g off c', w.cell? ⟨mb, off0 + k, none⟩ = some (.slice (some ⟨g, off, none⟩) xs.length c') ∧ w.cell? ⟨g, off + j, none⟩ = some u0 ∧ w.frozen? ⟨g, off + j, none⟩ = false ∧
      ∀ u, Own S w0 (w.setCell ⟨g, off + j, none⟩ u) (SP.mat te e (.slice (some ⟨mb, off0, none⟩) n c) (L.set k (xs.set j u)) :: R) := by
  obtain ⟨vs, A, c', hl, h3, h4, hv, h5, hback⟩ := h.mat_at hk
  obtain ⟨g0, o0, e0, h6, h7⟩ := h5.swap.cell hv
  injection e0 with e0
  injection e0 with e1 e2
  subst e1 e2
  obtain ⟨g, off, rfl, h8, h9⟩ := h5.cell hj
  refine ⟨g, off, c', h6, h8, h9, fun u => ?_⟩
  have hj' : j < xs.length := (List.getElem?_eq_some_iff.1 hj).1
  have h10 := h5.store hj' u
  refine hback _ (.slice (some ⟨g, off, none⟩) xs.length c') _ ?_
  rw [set_same hv]
  exact h10
end

/-- 'make([]T, n)' of one-cell elements: the answer and the world. -/
theorem run_make_n {P : Program} (t e : TypeId) (z : Value) (bytes : Nat) (ht : P.underlying t = some (.slice e)) (hinfo : (P.info? e).map (fun i => (i.zero, i.size, i.bytes)) = some (some z, 1, bytes)) (hz : z.cells = #[z])
    (n : Nat) (hb : bytes * n ≤ 281474976710656) (h63 : n ≤ 9223372036854775807) (w : World) :
    (Instr.makeSlice t (.int .i64 (n : Int)) (.int .i64 (n : Int))).run P w = .ok (.slice (some ⟨w.heap.size, 0, none⟩) n n) (w.alloc (.cells (Array.replicate n z) e)) := by
  obtain ⟨i, hi, hz0, hz1, hz2⟩ := info_parts hinfo
  have hb' : (i.bytes : Int) * (n : Int) ≤ 281474976710656 := by
    rw [hz2, ← Int.natCast_mul]
    omega
  have hr := run_make (P := P) w t e i z ht hi hz0 .i64 .i64 n n (by omega) (by omega) hb' (by omega)
  simp only [Int.toNat_natCast] at hr
  rw [hr, hz1, Nat.mul_one, hz]
  have : madeCells #[z] n = Array.replicate n z := by
    apply Array.ext
    · simp [madeCells]
    · intro i h1 h2
      simp [madeCells, Nat.mod_one]
  rw [this]

theorem Own.made {S : Nat → Prop} {w0 w : World} {L : List SP} (h : Own S w0 w L) (e : TypeId) (n : Nat) (z : Value) (hn : n ≤ maxLen) :
    Own S w0 (w.alloc (.cells (Array.replicate n z) e)) (SP.row e 1 (.slice (some ⟨w.heap.size, 0, none⟩) n n) (List.replicate n z) :: L) := by
  refine h.gain ((Below.refl _ _).alloc (Nat.le_refl _) _) ?_
  have := SP.row_new w e 1 n (Array.replicate n z) (by simp) hn (S := fun k => w.heap.size ≤ k ∧ k < (w.alloc (.cells (Array.replicate n z) e)).heap.size) ⟨Nat.le_refl _, by simp⟩
  simpa using this

/-- An empty matrix, new. -/
theorem Own.matNew {S : Nat → Prop} {w0 w : World} {L : List SP} (h : Own S w0 w L) (te e : TypeId) (n : Nat) (hn : n ≤ maxLen) :
    Own S w0 (w.alloc (.cells (Array.replicate n (.slice none 0 0)) te)) (SP.mat te e (.slice (some ⟨w.heap.size, 0, none⟩) n n) (List.replicate n []) :: L) :=
  Own.mat_shut (vs := List.replicate n (.slice none 0 0)) (by simp) (((h.add (B := SP.stars (inner e (List.replicate n (.slice none 0 0)) (List.replicate n []))) (nils_at _ _ _)).made te n (.slice none 0 0) hn))

/-- What can be read of an inner row. -/
theorem Own.mat_rd {S : Nat → Prop} {w0 w : World} {R : List SP} {te e : TypeId} {L : List (List Value)} {mb off0 n c k : Nat} {xs : List Value} (h : Own S w0 w (SP.mat te e (.slice (some ⟨mb, off0, none⟩) n c) L :: R)) (hk : L[k]? = some xs) :
    ∃ A c', w.cell? ⟨mb, off0 + k, none⟩ = some (.slice A xs.length c') ∧ xs.length ≤ c' ∧ c' ≤ maxLen ∧ Rd w A xs := by
  obtain ⟨vs, A, c', hl, h3, h4, hv, h5, hback⟩ := h.mat_at hk
  obtain ⟨g0, o0, e0, h6, h7⟩ := h5.swap.cell hv
  injection e0 with e0
  injection e0 with e1 e2
  subst e1 e2
  exact ⟨A, c', h6, h3, h4, h5.rd⟩

/-- A new row of like cells, put into the outer row. -/
theorem Own.mat_new {S : Nat → Prop} {w0 w : World} {R : List SP} {te e : TypeId} {L : List (List Value)} {mb off0 n c k : Nat} {xs : List Value} (h : Own S w0 w (SP.mat te e (.slice (some ⟨mb, off0, none⟩) n c) L :: R)) (hk : L[k]? = some xs) (z : Value) (m : Nat) (hm : m ≤ maxLen) :
    (∃ u0, (w.alloc (.cells (Array.replicate m z) e)).cell? ⟨mb, off0 + k, none⟩ = some u0) ∧ (w.alloc (.cells (Array.replicate m z) e)).frozen? ⟨mb, off0 + k, none⟩ = false ∧
      Own S w0 ((w.alloc (.cells (Array.replicate m z) e)).setCell ⟨mb, off0 + k, none⟩ (.slice (some ⟨w.heap.size, 0, none⟩) m m)) (SP.mat te e (.slice (some ⟨mb, off0, none⟩) n c) (L.set k (List.replicate m z)) :: R) := by
  obtain ⟨vs, A, c', hl, h3, h4, hv, h5, hback⟩ := h.mat_at hk
  have h6 := (h5.pop.made e m z hm).swap
  obtain ⟨g0, o0, e0, h7, h8⟩ := h6.cell hv
  injection e0 with e0
  injection e0 with e1 e2
  subst e1 e2
  have hv' : k < vs.length := (List.getElem?_eq_some_iff.1 hv).1
  exact ⟨⟨_, h7⟩, h8, hback _ _ _ (h6.store hv' _).swap⟩

/-- 'make([]T, 0, n)' of one-cell elements. -/
theorem run_make_0n {P : Program} (t e : TypeId) (z : Value) (bytes : Nat) (ht : P.underlying t = some (.slice e)) (hinfo : (P.info? e).map (fun i => (i.zero, i.size, i.bytes)) = some (some z, 1, bytes)) (hz : z.cells = #[z])
    (n : Nat) (hb : bytes * n ≤ 281474976710656) (h63 : n ≤ 9223372036854775807) (w : World) :
    (Instr.makeSlice t (.int .i64 0) (.int .i64 (n : Int))).run P w = .ok (.slice (some ⟨w.heap.size, 0, none⟩) 0 n) (w.alloc (.cells (Array.replicate n z) e)) := by
  obtain ⟨i, hi, hz0, hz1, hz2⟩ := info_parts hinfo
  have hb' : (i.bytes : Int) * (n : Int) ≤ 281474976710656 := by
    rw [hz2, ← Int.natCast_mul]
    omega
  have hr := run_make (P := P) w t e i z ht hi hz0 .i64 .i64 0 n (by omega) (by omega) hb' (by omega)
  simp only [Int.toNat_natCast] at hr
  rw [hr, hz1, Nat.mul_one, hz]
  have : madeCells #[z] n = Array.replicate n z := by
    apply Array.ext
    · simp [madeCells]
    · intro i h1 h2
      simp [madeCells, Nat.mod_one]
  rw [this]
  rfl
theorem Own.made0 {S : Nat → Prop} {w0 w : World} {L : List SP} (h : Own S w0 w L) (e : TypeId) (n : Nat) (z : Value) (hn : n ≤ maxLen) :
    Own S w0 (w.alloc (.cells (Array.replicate n z) e)) (SP.row e 1 (.slice (some ⟨w.heap.size, 0, none⟩) 0 n) [] :: L) := by
  refine h.gain ((Below.refl _ _).alloc (Nat.le_refl _) _) ?_
  have h1 := SP.row_new w e 1 n (Array.replicate n z) (by simp) hn (S := fun k => w.heap.size ≤ k ∧ k < (w.alloc (.cells (Array.replicate n z) e)).heap.size) ⟨Nat.le_refl _, by simp⟩
  have h2 := SP.row_take h1 (k := 0) (Nat.zero_le _)
  simpa using h2
end Go.Proofs.Ytlhinhcbbknhcaa
