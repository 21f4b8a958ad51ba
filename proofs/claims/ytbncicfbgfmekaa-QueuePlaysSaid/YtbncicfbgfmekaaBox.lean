/-
  A struct behind a pointer of two fields, a number and a slice of its own: queues and windows.
  Conditions: none beyond each theorem's own.
-/
import Derived.Test.YtbncicfbgfmekaaRowOps
namespace Go.Proofs.Ytbncicfbgfmekaa
set_option linter.unusedVariables false
set_option linter.unusedSimpArgs false
open Go.RowKit

def ints (xs : List Int) : List Value := xs.map (Value.int .i64)
theorem ints_length (xs : List Int) : (ints xs).length = xs.length := by simp [ints]
theorem ints_one {xs : List Int} : ∀ u ∈ ints xs, u.oneCell' = true := by
  intro u hu
  simp only [ints, List.mem_map] at hu
  obtain ⟨x, _, rfl⟩ := hu
  rfl
theorem ints_append (xs ys : List Int) : ints (xs ++ ys) = ints xs ++ ints ys := by simp [ints]
theorem ints_take (xs : List Int) (n : Nat) : ints (xs.take n) = (ints xs).take n := by simp [ints, List.map_take]
theorem ints_drop (xs : List Int) (n : Nat) : ints (xs.drop n) = (ints xs).drop n := by simp [ints, List.map_drop]
theorem ints_get {xs : List Int} {i : Nat} {x : Int} (h : xs[i]? = some x) : (ints xs)[i]? = some (.int .i64 x) := by simp [ints, h]

section
variable {w w1 w2 : World} {S S2 : Nat → Prop} {T e : TypeId} {g : Nat} {room : Int} {v : Value} {xs : List Value}

def SP.box1 (T e : TypeId) (g : Nat) (room : Int) (xs : List Value) : SP := SP.ex fun v => SP.sep (SP.blk g T #[.int .i64 room, v]) (SP.row e 1 v xs)

theorem box1_open (h : (SP.box1 T e g room xs).At w S) : ∃ (A : Option Addr) (c : Nat) (S2 : Nat → Prop), S g ∧ w.heap[g]? = some (.cells #[.int .i64 room, .slice A xs.length c] T (0, 0)) ∧ (∀ k, S2 k → S k) ∧ ¬ S2 g ∧
    (SP.row e 1 (.slice A xs.length c) xs).At w S2 ∧ xs.length ≤ c ∧ c ≤ maxLen := by
  obtain ⟨v, S1, S2, h1, h2, hd, ⟨hg, hb⟩, hr⟩ := h
  obtain ⟨A, c, rfl, hc, hm⟩ := SP.row_shape1 hr
  exact ⟨A, c, S2, h1 g hg, hb, h2, fun hk => hd g hg hk, hr, hc, hm⟩

theorem box1_mk {A : Option Addr} {n c : Nat} (hg : S g) (hb : w.heap[g]? = some (.cells #[.int .i64 room, .slice A n c] T (0, 0))) (h2 : ∀ k, S2 k → S k) (hn : ¬ S2 g) (hr : (SP.row e 1 (.slice A n c) xs).At w S2) : (SP.box1 T e g room xs).At w S :=
  ⟨_, fun k => k = g, S2, fun k hk => hk ▸ hg, h2, fun k hk h => hn (hk ▸ h), ⟨rfl, hb⟩, hr⟩

theorem cells_of {g : Nat} {t : TypeId} {cs : Array Value} (hb : w.heap[g]? = some (.cells cs t (0, 0))) (i : Nat) : w.cell? ⟨g, i, none⟩ = cs[i]? := cell_of_row w g i cs t (0, 0) hb
theorem free_of {g : Nat} {t : TypeId} {cs : Array Value} (hb : w.heap[g]? = some (.cells cs t (0, 0))) (i : Nat) : w.frozen? ⟨g, i, none⟩ = false := frozen_of_row w g i cs t hb
theorem lt_of_blk {o : Obj} (hb : w.heap[g]? = some o) : g < w.heap.size := (Array.getElem?_eq_some_iff.1 hb).1

/-- A STORE INTO A FIELD, behind a step that turned another footprint alone. -/
theorem obj_set2 {t : TypeId} {cs : Array Value} {R : SP} (hS : S g) (hb : w.heap[g]? = some (.cells cs t (0, 0))) (h2 : ∀ k, S2 k → S k) (hn : ¬ S2 g) (hk1 : Below w.heap.size w w1) (hk : Keeps S2 w1 w2) (hr : R.At w2 (grow S2 w w2)) (i : Nat) (u : Value) :
    Keeps S w (w2.setCell ⟨g, i, none⟩ u) ∧ (w2.setCell ⟨g, i, none⟩ u).heap[g]? = some (.cells (cs.setIfInBounds i u) t (0, 0)) ∧ R.At (w2.setCell ⟨g, i, none⟩ u) (grow S2 w w2) ∧ (∀ k, grow S2 w w2 k → grow S w (w2.setCell ⟨g, i, none⟩ u) k) ∧ ¬ grow S2 w w2 g := by
  have hg := lt_of_blk hb
  have hs1 := hk1.size
  have hs2 := hk.size
  have hb1 : w1.heap[g]? = some (.cells cs t (0, 0)) := (hk1.block g hg).trans hb
  have hb2 : w2.heap[g]? = some (.cells cs t (0, 0)) := (hk.block g (by omega) hn).trans hb1
  have hng : ¬ grow S2 w w2 g := by rintro (h | ⟨h, _⟩); exact hn h; omega
  refine ⟨?_, heap_setCell_same w2 g i cs t u hb2, ?_, ?_, hng⟩
  · exact ((Keeps.of_below (S := S) hk1).trans hk (fun k hk => .inl (h2 k hk))).setCell (.inl hS) u
  · refine R.loc hr ?_
    intro k hk
    exact heap_setCell_other w2 _ k u (fun e => hng (by subst e; exact hk))
  · rintro k (h | ⟨h, h'⟩)
    · exact .inl (h2 k h)
    · exact .inr ⟨h, by simpa using h'⟩

theorem obj_set {t : TypeId} {cs : Array Value} {R : SP} (hS : S g) (hb : w.heap[g]? = some (.cells cs t (0, 0))) (h2 : ∀ k, S2 k → S k) (hn : ¬ S2 g) (hk1 : Below w.heap.size w w1) (hk : Keeps S2 w1 w2) (hr : R.At w2 (grow S2 w1 w2)) (i : Nat) (u : Value) :
    Keeps S w (w2.setCell ⟨g, i, none⟩ u) ∧ (w2.setCell ⟨g, i, none⟩ u).heap[g]? = some (.cells (cs.setIfInBounds i u) t (0, 0)) ∧ R.At (w2.setCell ⟨g, i, none⟩ u) (grow S2 w w2) ∧ (∀ k, grow S2 w w2 k → grow S w (w2.setCell ⟨g, i, none⟩ u) k) ∧ ¬ grow S2 w w2 g := by
  refine obj_set2 hS hb h2 hn hk1 hk (R.mono hr ?_) i u
  have hs1 := hk1.size
  rintro k (h | ⟨h, h'⟩)
  · exact .inl h
  · exact .inr ⟨by omega, h'⟩

/-- A row behind a step of its own, and what lay new ahead of that step. -/
theorem sep_grown {A R : SP} {Sn : Nat → Prop} (hlt : ∀ k, S2 k → k < w.heap.size) (hk1 : Below w.heap.size w w1) (hk : Keeps S2 w1 w2) (hr : R.At w2 (grow S2 w1 w2)) (ha : A.At w1 Sn) (hn : ∀ k, Sn k → w.heap.size ≤ k ∧ k < w1.heap.size) : (SP.sep R A).At w2 (grow S2 w w2) := by
  have hs1 := hk1.size
  have hs2 := hk.size
  refine ⟨grow S2 w1 w2, Sn, ?_, fun k h => .inr ⟨(hn k h).1, by have := hn k h; omega⟩, ?_, hr, A.loc ha (fun k h => hk.block k (hn k h).2 (fun h2 => by have := hlt k h2; have := hn k h; omega))⟩
  · rintro k (h | ⟨h, h'⟩)
    · exact .inl h
    · exact .inr ⟨by omega, h'⟩
  · rintro k (h | ⟨h, h'⟩) h2
    · have := hlt k h; have := hn k h2; omega
    · have := hn k h2; omega

theorem obj_cell {t : TypeId} {cs : Array Value} (hb : w.heap[g]? = some (.cells cs t (0, 0))) (hn : ¬ S2 g) (hk1 : Below w.heap.size w w1) (hk : Keeps S2 w1 w2) (i : Nat) : w2.cell? ⟨g, i, none⟩ = cs[i]? ∧ w2.frozen? ⟨g, i, none⟩ = false := by
  have hg := lt_of_blk hb
  have hs1 := hk1.size
  have hb2 : w2.heap[g]? = some (.cells cs t (0, 0)) := (hk.block g (by omega) hn).trans ((hk1.block g hg).trans hb)
  exact ⟨cells_of hb2 i, free_of hb2 i⟩
theorem row_later {A : SP} (h : A.At w S2) (hlt : ∀ k, S2 k → k < w.heap.size) (hk1 : Below w.heap.size w w1) : A.At w1 S2 := A.loc h (fun k hk => hk1.block k (hlt k hk))

/-- The same, for the two fields at hand. -/
theorem box1_set {A A' : Option Addr} {n n' c c' : Nat} {ys : List Value} (hS : S g) (hb : w.heap[g]? = some (.cells #[.int .i64 room, .slice A n c] T (0, 0))) (h2 : ∀ k, S2 k → S k) (hn : ¬ S2 g) (hk1 : Below w.heap.size w w1) (hk : Keeps S2 w1 w2)
    (hr : (SP.row e 1 (.slice A' n' c') ys).At w2 (grow S2 w1 w2)) : Keeps S w (w2.setCell ⟨g, 1, none⟩ (.slice A' n' c')) ∧ (SP.box1 T e g room ys).At (w2.setCell ⟨g, 1, none⟩ (.slice A' n' c')) (grow S w (w2.setCell ⟨g, 1, none⟩ (.slice A' n' c'))) := by
  obtain ⟨h1, hb', hr', hm, hng⟩ := obj_set hS hb h2 hn hk1 hk hr 1 (.slice A' n' c')
  exact ⟨h1, box1_mk (.inl hS) hb' hm hng hr'⟩

theorem box1_same {R : SP} (h : R.At w S) (n : Nat) : Keeps S w (w.drewN n) ∧ R.At (w.drewN n) (grow S w (w.drewN n)) :=
  ⟨(Keeps.refl S w).drewN n, R.loc (R.mono h (fun k hk => .inl hk)) (fun _ _ => rfl)⟩
end
end Go.Proofs.Ytbncicfbgfmekaa
