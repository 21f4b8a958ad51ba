/-
  Entries of a log, rows of entries as memory that a law owns, and entries as they lie to be read.
  Conditions: none beyond each theorem's own.
-/
import Derived.Test.YtepnkhiclgjmpaaByt
import Derived.Test.YtepnkhiclgjmpaaPure
import Derived.StillTailTactics
namespace Go.Proofs.Ytepnkhiclgjmpaa
set_option linter.unusedVariables false
set_option linter.unusedSimpArgs false
open Go.RowKit

section
variable {α : Type}
theorem flat_length {k : Nat} (LL : List (List α)) (h : ∀ l, l ∈ LL → l.length = k) : LL.flatten.length = LL.length * k := by
  induction LL with
  | nil => simp
  | cons l LL ih =>
    rw [List.flatten_cons, List.length_append, h l List.mem_cons_self, ih (fun x hx => h x (List.mem_cons_of_mem _ hx)), List.length_cons, Nat.add_mul]
    omega
theorem flat_drop {k : Nat} (LL : List (List α)) (h : ∀ l, l ∈ LL → l.length = k) (i : Nat) : LL.flatten.drop (i * k) = (LL.drop i).flatten := by
  induction LL generalizing i with
  | nil => simp
  | cons l LL ih =>
    cases i with
    | zero => simp
    | succ i =>
      rw [List.flatten_cons, List.drop_append, List.drop_of_length_le (by rw [h l List.mem_cons_self, Nat.add_mul]; omega), List.nil_append, List.drop_succ_cons, ← ih (fun x hx => h x (List.mem_cons_of_mem _ hx)), h l List.mem_cons_self]
      congr 1
      rw [Nat.add_mul]; omega
theorem flat_take {k : Nat} (LL : List (List α)) (h : ∀ l, l ∈ LL → l.length = k) (i : Nat) : LL.flatten.take (i * k) = (LL.take i).flatten := by
  induction LL generalizing i with
  | nil => simp
  | cons l LL ih =>
    cases i with
    | zero => simp
    | succ i =>
      rw [List.flatten_cons, List.take_append, List.take_of_length_le (by rw [h l List.mem_cons_self, Nat.add_mul]; omega), List.take_succ_cons, List.flatten_cons, ← ih (fun x hx => h x (List.mem_cons_of_mem _ hx)), h l List.mem_cons_self]
      congr 2
      rw [Nat.add_mul]; omega
theorem flat_get {k i j : Nat} {l : List α} (LL : List (List α)) (h : ∀ l, l ∈ LL → l.length = k) (hi : LL[i]? = some l) (hj : j < k) : LL.flatten[i * k + j]? = l[j]? := by
  have h1 : LL.drop i = l :: LL.drop (i + 1) := by
    have hl := (List.getElem?_eq_some_iff.1 hi)
    rw [List.drop_eq_getElem_cons hl.1, hl.2]
  have h2 := flat_drop LL h i
  rw [h1] at h2
  have h3 : LL.flatten[i * k + j]? = (LL.flatten.drop (i * k))[j]? := by rw [List.getElem?_drop]
  rw [h3, h2, List.flatten_cons, List.getElem?_append_left (by rw [h l (List.mem_of_getElem? hi)]; exact hj)]
end

def mcells (m : E) (d : Value) : List Value := [.int .i64 m.term, .int .i64 m.index, .int .i64 m.kind, d]
def mrows (L : List E) (ds : List Value) : List (List Value) := List.zipWith mcells L ds
def mrow (L : List E) (ds : List Value) : List Value := (mrows L ds).flatten
def mdata (L : List E) (ds : List Value) : List SP := List.zipWith (fun m d => SP.row 5 1 d (bts m.dat)) L ds
theorem mrows_four (L : List E) (ds : List Value) : ∀ l, l ∈ mrows L ds → l.length = 4 := fun l hl => by
  obtain ⟨i, hi⟩ := List.getElem?_of_mem hl
  simp only [mrows, List.getElem?_zipWith] at hi
  split at hi
  · injection hi with hi; rw [← hi]; rfl
  · cases hi
theorem mrow_length {L : List E} {ds : List Value} (h : ds.length = L.length) : (mrow L ds).length = L.length * 4 := by
  rw [mrow, flat_length _ (mrows_four L ds), mrows, List.length_zipWith, h, Nat.min_self]
theorem mrow_drop (L : List E) (ds : List Value) (i : Nat) : (mrow L ds).drop (i * 4) = mrow (L.drop i) (ds.drop i) := by
  rw [mrow, flat_drop _ (mrows_four L ds), mrow, mrows, mrows, List.drop_zipWith]
theorem mrow_take (L : List E) (ds : List Value) (i : Nat) : (mrow L ds).take (i * 4) = mrow (L.take i) (ds.take i) := by
  rw [mrow, flat_take _ (mrows_four L ds), mrow, mrows, mrows, List.take_zipWith]
theorem mrow_get {L : List E} {ds : List Value} {i j : Nat} {m : E} {d : Value} (hm : L[i]? = some m) (hd : ds[i]? = some d) (hj : j < 4) : (mrow L ds)[i * 4 + j]? = (mcells m d)[j]? :=
  flat_get _ (mrows_four L ds) (by simp [mrows, List.getElem?_zipWith, hm, hd]) hj
theorem mrow_append {L L' : List E} {ds ds' : List Value} (h : ds.length = L.length) : mrow (L ++ L') (ds ++ ds') = mrow L ds ++ mrow L' ds' := by
  rw [mrow, mrows, List.zipWith_append h.symm, List.flatten_append]; rfl
theorem mdata_append {L L' : List E} {ds ds' : List Value} (h : ds.length = L.length) : mdata (L ++ L') (ds ++ ds') = mdata L ds ++ mdata L' ds' := by
  rw [mdata, List.zipWith_append h.symm]; rfl
theorem mdata_get {L : List E} {ds : List Value} {i : Nat} {m : E} {d : Value} (hm : L[i]? = some m) (hd : ds[i]? = some d) : (mdata L ds)[i]? = some (SP.row 5 1 d (bts m.dat)) := by
  simp [mdata, List.getElem?_zipWith, hm, hd]
theorem mdata_length {L : List E} {ds : List Value} (h : ds.length = L.length) : (mdata L ds).length = L.length := by
  rw [mdata, List.length_zipWith, h, Nat.min_self]
theorem mrow_one {L : List E} {ds : List Value} : ∀ u ∈ mrow L ds, (∀ d ∈ ds, d.oneCell' = true) → u.oneCell' = true := by
  intro u hu hd
  rw [mrow, List.mem_flatten] at hu
  obtain ⟨l, hl, hu⟩ := hu
  obtain ⟨i, hi⟩ := List.getElem?_of_mem hl
  simp only [mrows, List.getElem?_zipWith] at hi
  split at hi
  · rename_i m d hm hd2
    injection hi with hi
    rw [← hi] at hu
    simp only [mcells, List.mem_cons, List.not_mem_nil, or_false] at hu
    rcases hu with rfl | rfl | rfl | rfl
    · rfl
    · rfl
    · rfl
    · exact hd _ (List.mem_of_getElem? hd2)
  · cases hi

/-- A slice of entries, each with its data. t: the element's type. -/
def SP.ents (t : TypeId) (v : Value) (L : List E) : SP := SP.ex fun ds : List Value => SP.stars [SP.pur (ds.length = L.length), SP.row t 4 v (mrow L ds), SP.stars (mdata L ds)]
section
variable {S : Nat → Prop} {w0 w : World} {R : List SP} {t : TypeId} {v : Value} {L : List E}
theorem Own.ents_open (h : Own S w0 w (SP.ents t v L :: R)) : ∃ (A : Option Addr) (c : Nat) (ds : List Value), v = .slice A L.length c ∧ ds.length = L.length ∧ L.length ≤ c ∧ c ≤ maxLen ∧ Own S w0 w (SP.row t 4 (.slice A L.length c) (mrow L ds) :: SP.stars (mdata L ds) :: R) := by
  obtain ⟨ds, h⟩ := h.unex
  obtain ⟨h1, h2⟩ := (Own.flat (L := [_, _, _]) h).unpur
  obtain ⟨A, c, rfl, h3, h4⟩ := SP.row_shape (by decide) h2.head (mrow_length h1)
  exact ⟨A, c, ds, rfl, h1, h3, h4, h2⟩
theorem Own.ents_shut {ds : List Value} (hl : ds.length = L.length) (h : Own S w0 w (SP.row t 4 v (mrow L ds) :: SP.stars (mdata L ds) :: R)) : Own S w0 w (SP.ents t v L :: R) :=
  Own.mkex ds (Own.unflat (L := [_, _, _]) (h.pur hl))
theorem Own.ents_nil (h : Own S w0 w R) (t : TypeId) : Own S w0 w (SP.ents t (.slice none 0 0) [] :: R) :=
  Own.ents_shut (ds := []) rfl ((h.add (B := SP.stars (mdata [] [])) trivial).add (SP.row_nil _ _ _ _))

/-- The data of entries are slices. -/
theorem Own.mdata_one {ds : List Value} (hl : ds.length = L.length) (h : Own S w0 w (SP.stars (mdata L ds) :: R)) : ∀ d ∈ ds, d.oneCell' = true := fun d hd => by
  obtain ⟨i, hi⟩ := List.getElem?_of_mem hd
  have hil : i < ds.length := (List.getElem?_eq_some_iff.1 hi).1
  obtain ⟨m, hm⟩ : ∃ m, L[i]? = some m := ⟨_, List.getElem?_eq_getElem (by omega)⟩
  have h1 := h.focus i (mdata_get hm hi)
  obtain ⟨A, c, rfl, -, -⟩ := SP.row_shape1 h1.head
  rfl
end


/-- Entries as they lie in memory, whoever owns them. -/
def ERd (w : World) (A : Option Addr) (L : List E) : Prop := ∀ i m, L[i]? = some m → ∃ b off Ad cd, A = some ⟨b, off, none⟩ ∧ b < w.heap.size ∧
  w.cell? ⟨b, off + i * 4, none⟩ = some (.int .i64 m.term) ∧ w.cell? ⟨b, off + i * 4 + 1, none⟩ = some (.int .i64 m.index) ∧ w.cell? ⟨b, off + i * 4 + 2, none⟩ = some (.int .i64 m.kind) ∧
  w.cell? ⟨b, off + i * 4 + 3, none⟩ = some (.slice Ad m.dat.length cd) ∧ m.dat.length ≤ cd ∧ cd ≤ maxLen ∧ Rd w Ad (bts m.dat)
theorem ERd.below {w w' : World} {A : Option Addr} {L : List E} (h : ERd w A L) (hb : Below w.heap.size w w') : ERd w' A L := fun i m hm => by
  obtain ⟨b, off, Ad, cd, e, hl, k0, k1, k2, k3, h1, h2, hr⟩ := h i m hm
  exact ⟨b, off, Ad, cd, e, by have := hb.size; omega, (hb.cell hl).trans k0, (hb.cell hl).trans k1, (hb.cell hl).trans k2, (hb.cell hl).trans k3, h1, h2, hr.below hb⟩
theorem ERd.drewN {w : World} {A : Option Addr} {L : List E} (h : ERd w A L) (n : Nat) : ERd (w.drewN n) A L := h
theorem ERd.drew {w : World} {A : Option Addr} {L : List E} (h : ERd w A L) : ERd w.drew A L := h
theorem ERd.nil (w : World) (A : Option Addr) : ERd w A [] := fun i m hm => by simp at hm
theorem ERd.take {w : World} {A : Option Addr} {L : List E} (h : ERd w A L) (n : Nat) : ERd w A (L.take n) := fun i m hm => by
  rw [List.getElem?_take] at hm
  split at hm
  · exact h i m hm
  · cases hm
theorem ERd.drop {w : World} {b off : Nat} {L : List E} (h : ERd w (some ⟨b, off, none⟩) L) (n : Nat) : ERd w (some ⟨b, off + n * 4, none⟩) (L.drop n) := fun i m hm => by
  rw [List.getElem?_drop] at hm
  obtain ⟨b', off', Ad, cd, e, hl, k0, k1, k2, k3, h1, h2, hr⟩ := h _ m hm
  cases e
  rw [Nat.add_mul, ← Nat.add_assoc] at k0 k1 k2 k3
  exact ⟨b, off + n * 4, Ad, cd, rfl, hl, k0, k1, k2, k3, h1, h2, hr⟩
section
variable {S : Nat → Prop} {w0 w : World} {R : List SP} {t : TypeId} {L : List E}
theorem Own.erd {A : Option Addr} {n c : Nat} (h : Own S w0 w (SP.ents t (.slice A n c) L :: R)) : ERd w A L := fun i m hm => by
  obtain ⟨A', c', ds, e, hds, -, -, h1⟩ := h.ents_open
  cases e
  obtain ⟨d, hd⟩ : ∃ d, ds[i]? = some d := ⟨_, List.getElem?_eq_getElem (by rw [hds]; exact (List.getElem?_eq_some_iff.1 hm).1)⟩
  have hf := (h1.swap).focus i (mdata_get hm hd)
  obtain ⟨Ad, cd, rfl, hc1, hc2⟩ := SP.row_shape (n := m.dat.length) (by decide) hf.head (by rw [bts_length, Nat.mul_one])
  obtain ⟨ga, off, rfl, k0, -⟩ := h1.cell (mrow_get (j := 0) hm hd (by omega))
  obtain ⟨_, _, e1, k1, -⟩ := h1.cell (mrow_get (j := 1) hm hd (by omega)); cases e1
  obtain ⟨_, _, e1, k2, -⟩ := h1.cell (mrow_get (j := 2) hm hd (by omega)); cases e1
  obtain ⟨_, _, e1, k3, -⟩ := h1.cell (mrow_get (j := 3) hm hd (by omega)); cases e1
  simp only [mcells, List.getElem?_cons_zero, List.getElem?_cons_succ, ← Nat.add_assoc, Nat.add_zero] at k0 k1 k2 k3
  exact ⟨ga, off, Ad, cd, rfl, h1.row_lt, k0, k1, k2, k3, hc1, hc2, hf.rd⟩
/-- What can be read wherever R is owned. -/
def EReads (S : Nat → Prop) (w0 : World) (R : List SP) (A : Option Addr) (L : List E) : Prop := ∀ W X, Own S w0 W (X ++ R) → ERd W A L
theorem EReads.more {A : Option Addr} (h : EReads S w0 R A L) (Y : List SP) : EReads S w0 (Y ++ R) A L := fun W X hX => h W (X ++ Y) (by rw [List.append_assoc]; exact hX)
theorem EReads.of_ents {A : Option Addr} {n c : Nat} : EReads S w0 (SP.ents t (.slice A n c) L :: R) A L := fun W X hX => (hX.perm List.perm_middle).erd
theorem EReads.take {A : Option Addr} (h : EReads S w0 R A L) (n : Nat) : EReads S w0 R A (L.take n) := fun W X hX => (h W X hX).take n
theorem EReads.nil {A : Option Addr} : EReads S w0 R A [] := fun W X hX => ERd.nil W A
theorem EReads.of_rd {A : Option Addr} (h : ERd w0 A L) : EReads (fun _ => False) w0 R A L := fun W X hX => h.below hX.below
end

/-- A log: the base, the entries, the marks. T: the struct's type. -/
def logA (x : Lg) (v : Value) : Array Value := #[.int .i64 x.index, .int .i64 x.term, v, .int .i64 x.h, .int .i64 x.s, .int .i64 x.c, .int .i64 x.ap, .int .i64 x.ad]
def SP.log (T : TypeId) (g : Nat) (x : Lg) : SP := SP.ex fun v : Value => SP.stars [SP.blk g T (logA x v), SP.ents 26 v x.L]
section
variable {S : Nat → Prop} {w0 w : World} {R : List SP} {T : TypeId} {g : Nat} {x : Lg}
theorem Own.log_open (h : Own S w0 w (SP.log T g x :: R)) : ∃ A c, x.L.length ≤ c ∧ c ≤ maxLen ∧ Own S w0 w (SP.blk g T (logA x (.slice A x.L.length c)) :: SP.ents 26 (.slice A x.L.length c) x.L :: R) := by
  obtain ⟨v, h⟩ := h.unex
  have h1 := Own.flat (L := [_, _]) h
  obtain ⟨A, c, ds, rfl, -, h2, h3, -⟩ := h1.swap.ents_open
  exact ⟨A, c, h2, h3, h1⟩
theorem Own.log_shut {v : Value} (h : Own S w0 w (SP.blk g T (logA x v) :: SP.ents 26 v x.L :: R)) : Own S w0 w (SP.log T g x :: R) :=
  Own.mkex v (Own.unflat (L := [_, _]) h)
/-- The log with all its cells at hand. -/
theorem Own.log_cells (h : Own S w0 w (SP.log T g x :: R)) : ∃ A c, x.L.length ≤ c ∧ c ≤ maxLen ∧ Own S w0 w (SP.blk g T (logA x (.slice A x.L.length c)) :: SP.ents 26 (.slice A x.L.length c) x.L :: R) ∧ ERd w A x.L ∧
    w.cell? ⟨g, 0, none⟩ = some (.int .i64 x.index) ∧ w.cell? ⟨g, 1, none⟩ = some (.int .i64 x.term) ∧ w.cell? ⟨g, 2, none⟩ = some (.slice A x.L.length c) ∧
    w.cell? ⟨g, 3, none⟩ = some (.int .i64 x.h) ∧ w.cell? ⟨g, 4, none⟩ = some (.int .i64 x.s) ∧ w.cell? ⟨g, 5, none⟩ = some (.int .i64 x.c) ∧ w.cell? ⟨g, 6, none⟩ = some (.int .i64 x.ap) ∧ w.cell? ⟨g, 7, none⟩ = some (.int .i64 x.ad) := by
  obtain ⟨A, c, h1, h2, h3⟩ := h.log_open
  exact ⟨A, c, h1, h2, h3, h3.swap.erd, h3.blk_cell 0, h3.blk_cell 1, h3.blk_cell 2, h3.blk_cell 3, h3.blk_cell 4, h3.blk_cell 5, h3.blk_cell 6, h3.blk_cell 7⟩
end
end Go.Proofs.Ytepnkhiclgjmpaa
