/-
  Mails, rows of mails, and a network, as memory that a law owns.
  Conditions: none beyond each theorem's own.
-/
import Derived.Test.YtlhinhcbbknhcaaDel
namespace Go.Proofs.Ytlhinhcbbknhcaa
set_option linter.unusedVariables false
set_option linter.unusedSimpArgs false
open Go.RowKit

structure M where
  num : Int
  frm : Int
  to : Int
  dat : List UInt8
  sp : Bool

section
variable {α : Type}
theorem flat_length {k : Nat} (LL : List (List α)) (h : ∀ l, l ∈ LL → l.length = k) : LL.flatten.length = LL.length * k := by
  induction LL with
  | nil => simp
  | cons l LL ih =>
    rw [List.flatten_cons, List.length_append, h l List.mem_cons_self, ih (fun x hx => h x (List.mem_cons_of_mem _ hx)), List.length_cons, Nat.add_mul]
    omega
theorem flat_drop {k : Nat} (LL : List (List α)) (h : ∀ l, l ∈ LL → l.length = k) (i : Nat) : LL.flatten.drop (i * k) = (LL.drop i).flatten := by
  induction LL generalizing i with
  | nil => simp
  | cons l LL ih =>
    cases i with
    | zero => simp
    | succ i =>
      rw [List.flatten_cons, List.drop_append, List.drop_of_length_le (by rw [h l List.mem_cons_self, Nat.add_mul]; omega), List.nil_append, List.drop_succ_cons, ← ih (fun x hx => h x (List.mem_cons_of_mem _ hx)), h l List.mem_cons_self]
      congr 1
      rw [Nat.add_mul]; omega
theorem flat_take {k : Nat} (LL : List (List α)) (h : ∀ l, l ∈ LL → l.length = k) (i : Nat) : LL.flatten.take (i * k) = (LL.take i).flatten := by
  induction LL generalizing i with
  | nil => simp
  | cons l LL ih =>
    cases i with
    | zero => simp
    | succ i =>
      rw [List.flatten_cons, List.take_append, List.take_of_length_le (by rw [h l List.mem_cons_self, Nat.add_mul]; omega), List.take_succ_cons, List.flatten_cons, ← ih (fun x hx => h x (List.mem_cons_of_mem _ hx)), h l List.mem_cons_self]
      congr 2
      rw [Nat.add_mul]; omega
theorem flat_get {k i j : Nat} {l : List α} (LL : List (List α)) (h : ∀ l, l ∈ LL → l.length = k) (hi : LL[i]? = some l) (hj : j < k) : LL.flatten[i * k + j]? = l[j]? := by
  have h1 : LL.drop i = l :: LL.drop (i + 1) := by
    have hl := (List.getElem?_eq_some_iff.1 hi)
    rw [List.drop_eq_getElem_cons hl.1, hl.2]
  have h2 := flat_drop LL h i
  rw [h1] at h2
  have h3 : LL.flatten[i * k + j]? = (LL.flatten.drop (i * k))[j]? := by rw [List.getElem?_drop]
  rw [h3, h2, List.flatten_cons, List.getElem?_append_left (by rw [h l (List.mem_of_getElem? hi)]; exact hj)]
end

def mcells (m : M) (d : Value) : List Value := [.int .i64 m.num, .int .i64 m.frm, .int .i64 m.to, d, .bool m.sp]
def mrows (L : List M) (ds : List Value) : List (List Value) := List.zipWith mcells L ds
def mrow (L : List M) (ds : List Value) : List Value := (mrows L ds).flatten
def mdata (L : List M) (ds : List Value) : List SP := List.zipWith (fun m d => SP.row 5 1 d (bts m.dat)) L ds
theorem mrows_five (L : List M) (ds : List Value) : ∀ l, l ∈ mrows L ds → l.length = 5 := fun l hl => by
  obtain ⟨i, hi⟩ := List.getElem?_of_mem hl
  simp only [mrows, List.getElem?_zipWith] at hi
  split at hi
  · injection hi with hi; rw [← hi]; rfl
  · cases hi
theorem mrow_length {L : List M} {ds : List Value} (h : ds.length = L.length) : (mrow L ds).length = L.length * 5 := by
  rw [mrow, flat_length _ (mrows_five L ds), mrows, List.length_zipWith, h, Nat.min_self]
theorem mrow_drop (L : List M) (ds : List Value) (i : Nat) : (mrow L ds).drop (i * 5) = mrow (L.drop i) (ds.drop i) := by
  rw [mrow, flat_drop _ (mrows_five L ds), mrow, mrows, mrows, List.drop_zipWith]
theorem mrow_take (L : List M) (ds : List Value) (i : Nat) : (mrow L ds).take (i * 5) = mrow (L.take i) (ds.take i) := by
  rw [mrow, flat_take _ (mrows_five L ds), mrow, mrows, mrows, List.take_zipWith]
theorem mrow_get {L : List M} {ds : List Value} {i j : Nat} {m : M} {d : Value} (hm : L[i]? = some m) (hd : ds[i]? = some d) (hj : j < 5) : (mrow L ds)[i * 5 + j]? = (mcells m d)[j]? :=
  flat_get _ (mrows_five L ds) (by simp [mrows, List.getElem?_zipWith, hm, hd]) hj
theorem mrow_append {L L' : List M} {ds ds' : List Value} (h : ds.length = L.length) : mrow (L ++ L') (ds ++ ds') = mrow L ds ++ mrow L' ds' := by
  rw [mrow, mrows, List.zipWith_append h.symm, List.flatten_append]; rfl
theorem mdata_append {L L' : List M} {ds ds' : List Value} (h : ds.length = L.length) : mdata (L ++ L') (ds ++ ds') = mdata L ds ++ mdata L' ds' := by
  rw [mdata, List.zipWith_append h.symm]; rfl
theorem mdata_get {L : List M} {ds : List Value} {i : Nat} {m : M} {d : Value} (hm : L[i]? = some m) (hd : ds[i]? = some d) : (mdata L ds)[i]? = some (SP.row 5 1 d (bts m.dat)) := by
  simp [mdata, List.getElem?_zipWith, hm, hd]
theorem mdata_length {L : List M} {ds : List Value} (h : ds.length = L.length) : (mdata L ds).length = L.length := by
  rw [mdata, List.length_zipWith, h, Nat.min_self]
theorem mrow_one {L : List M} {ds : List Value} : ∀ u ∈ mrow L ds, (∀ d ∈ ds, d.oneCell' = true) → u.oneCell' = true := by
  intro u hu hd
  rw [mrow, List.mem_flatten] at hu
  obtain ⟨l, hl, hu⟩ := hu
  obtain ⟨i, hi⟩ := List.getElem?_of_mem hl
  simp only [mrows, List.getElem?_zipWith] at hi
  split at hi
  · rename_i m d hm hd2
    injection hi with hi
    rw [← hi] at hu
    simp only [mcells, List.mem_cons, List.not_mem_nil, or_false] at hu
    rcases hu with rfl | rfl | rfl | rfl | rfl
    · rfl
    · rfl
    · rfl
    · exact hd _ (List.mem_of_getElem? hd2)
    · rfl
  · cases hi

/-- A slice of mails, each with its data. t: the element's type. -/
def SP.mails (t : TypeId) (v : Value) (L : List M) : SP := SP.ex fun ds : List Value => SP.stars [SP.pur (ds.length = L.length), SP.row t 5 v (mrow L ds), SP.stars (mdata L ds)]
section
variable {S : Nat → Prop} {w0 w : World} {R : List SP} {t : TypeId} {v : Value} {L : List M}
theorem Own.mails_open (h : Own S w0 w (SP.mails t v L :: R)) : ∃ (A : Option Addr) (c : Nat) (ds : List Value), v = .slice A L.length c ∧ ds.length = L.length ∧ L.length ≤ c ∧ c ≤ maxLen ∧ Own S w0 w (SP.row t 5 (.slice A L.length c) (mrow L ds) :: SP.stars (mdata L ds) :: R) := by
  obtain ⟨ds, h⟩ := h.unex
  obtain ⟨h1, h2⟩ := (Own.flat (L := [_, _, _]) h).unpur
  obtain ⟨A, c, rfl, h3, h4⟩ := SP.row_shape (by decide) h2.head (mrow_length h1)
  exact ⟨A, c, ds, rfl, h1, h3, h4, h2⟩
theorem Own.mails_shut {ds : List Value} (hl : ds.length = L.length) (h : Own S w0 w (SP.row t 5 v (mrow L ds) :: SP.stars (mdata L ds) :: R)) : Own S w0 w (SP.mails t v L :: R) :=
  Own.mkex ds (Own.unflat (L := [_, _, _]) (h.pur hl))
theorem Own.mails_nil (h : Own S w0 w R) (t : TypeId) : Own S w0 w (SP.mails t (.slice none 0 0) [] :: R) :=
  Own.mails_shut (ds := []) rfl ((h.add (B := SP.stars (mdata [] [])) trivial).add (SP.row_nil _ _ _ _))

/-- The data of mails are slices. -/
theorem Own.mdata_one {ds : List Value} (hl : ds.length = L.length) (h : Own S w0 w (SP.stars (mdata L ds) :: R)) : ∀ d ∈ ds, d.oneCell' = true := fun d hd => by
  obtain ⟨i, hi⟩ := List.getElem?_of_mem hd
  have hil : i < ds.length := (List.getElem?_eq_some_iff.1 hi).1
  obtain ⟨m, hm⟩ : ∃ m, L[i]? = some m := ⟨_, List.getElem?_eq_getElem (by omega)⟩
  have h1 := h.focus i (mdata_get hm hi)
  obtain ⟨A, c, rfl, -, -⟩ := SP.row_shape1 h1.head
  rfl
end

/-- A network: its nodes, the links that are cut, the last number, the row. -/
def netList (nodes : Int) (cut : List Bool) (v : Value) (last : Int) : List Value := .int .i64 nodes :: (cut.map Value.bool ++ [v, .int .i64 last])
def SP.net (g : Nat) (nodes : Int) (cut : List Bool) (last : Int) (L : List M) : SP := SP.ex fun v : Value => SP.stars [SP.pur (cut.length = 64), SP.blk g 57 (netList nodes cut v last).toArray, SP.mails 34 v L]
theorem netList_nodes (nodes : Int) (cut : List Bool) (v : Value) (last : Int) : (netList nodes cut v last).toArray[0]? = some (.int .i64 nodes) := by simp [netList]
theorem netList_cut {nodes : Int} {cut : List Bool} {v : Value} {last : Int} {i : Nat} {b : Bool} (h : cut[i]? = some b) : (netList nodes cut v last).toArray[1 + i]? = some (.bool b) := by
  have hi := (List.getElem?_eq_some_iff.1 h).1
  simp only [netList, List.getElem?_toArray, Nat.add_comm 1 i, List.getElem?_cons_succ]
  rw [List.getElem?_append_left (by simpa using hi), List.getElem?_map, h]; rfl
theorem netList_row {nodes : Int} {cut : List Bool} {v : Value} {last : Int} (h : cut.length = 64) : (netList nodes cut v last).toArray[65]? = some v := by
  simp only [netList, List.getElem?_toArray, List.getElem?_cons_succ]
  rw [List.getElem?_append_right (by simp [h])]
  simp [h]
theorem netList_last {nodes : Int} {cut : List Bool} {v : Value} {last : Int} (h : cut.length = 64) : (netList nodes cut v last).toArray[66]? = some (.int .i64 last) := by
  simp only [netList, List.getElem?_toArray, List.getElem?_cons_succ]
  rw [List.getElem?_append_right (by simp [h])]
  simp [h]
theorem netList_set_row {nodes : Int} {cut : List Bool} {v u : Value} {last : Int} (h : cut.length = 64) : (netList nodes cut v last).toArray.setIfInBounds 65 u = (netList nodes cut u last).toArray := by
  simp only [netList, List.setIfInBounds_toArray, List.set_cons_succ]
  rw [List.set_append_right _ _ (by simp [h])]
  simp [h]
theorem netList_set_last {nodes : Int} {cut : List Bool} {v : Value} {last n : Int} (h : cut.length = 64) : (netList nodes cut v last).toArray.setIfInBounds 66 (.int .i64 n) = (netList nodes cut v n).toArray := by
  simp only [netList, List.setIfInBounds_toArray, List.set_cons_succ]
  rw [List.set_append_right _ _ (by simp [h])]
  simp [h]
theorem netList_set_cut {nodes : Int} {cut : List Bool} {v : Value} {last : Int} {i : Nat} {b : Bool} (hi : i < cut.length) : (netList nodes cut v last).toArray.setIfInBounds (1 + i) (.bool b) = (netList nodes (cut.set i b) v last).toArray := by
  simp only [netList, List.setIfInBounds_toArray, Nat.add_comm 1 i, List.set_cons_succ]
  rw [List.set_append_left _ _ (by simpa using hi), List.map_set]

section
variable {S : Nat → Prop} {w0 w : World} {R : List SP} {g : Nat} {nodes last : Int} {cut : List Bool} {L : List M}
theorem Own.net_open (h : Own S w0 w (SP.net g nodes cut last L :: R)) : ∃ v, cut.length = 64 ∧ Own S w0 w (SP.blk g 57 (netList nodes cut v last).toArray :: SP.mails 34 v L :: R) := by
  obtain ⟨v, h⟩ := h.unex
  obtain ⟨h1, h2⟩ := (Own.flat (L := [_, _, _]) h).unpur
  exact ⟨v, h1, h2⟩
theorem Own.net_shut {v : Value} (hc : cut.length = 64) (h : Own S w0 w (SP.blk g 57 (netList nodes cut v last).toArray :: SP.mails 34 v L :: R)) : Own S w0 w (SP.net g nodes cut last L :: R) :=
  Own.mkex v (Own.unflat (L := [_, _, _]) (h.pur hc))
end
end Go.Proofs.Ytlhinhcbbknhcaa
