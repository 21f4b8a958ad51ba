/-
  Memory that a call owns, as a small separation logic over the model's worlds: what a call keeps (Keeps), assertions with a footprint (SP), their separate conjunction, the frame rule for calls.
  No program stands here. Conditions: none beyond each theorem's own.
-/
import Derived.WalkKit
import Derived.Deep.Draws
import Derived.Lib.Hide
namespace Go.Proofs.Ytbncicfbgfmekaa
set_option linter.unusedVariables false
set_option linter.unusedSimpArgs false
open Go.RowKit

/-! ### What a call keeps -/

structure Keeps (S : Nat → Prop) (w w' : World) : Prop where
  os : w'.os = w.os
  tape : w'.tape = w.tape
  output : w'.output = w.output
  size : w.heap.size ≤ w'.heap.size
  block : ∀ k, k < w.heap.size → ¬ S k → w'.heap[k]? = w.heap[k]?

theorem Keeps.refl (S : Nat → Prop) (w : World) : Keeps S w w := ⟨rfl, rfl, rfl, Nat.le_refl _, fun _ _ _ => rfl⟩

theorem Keeps.trans {S S' : Nat → Prop} {a b c : World} (h : Keeps S a b) (k : Keeps S' b c) (hs : ∀ i, S' i → S i ∨ a.heap.size ≤ i) : Keeps S a c :=
  ⟨k.os.trans h.os, k.tape.trans h.tape, k.output.trans h.output, Nat.le_trans h.size k.size, fun i hi hn =>
    (k.block i (Nat.lt_of_lt_of_le hi h.size) (fun hk => by rcases hs i hk with h1 | h1; exact hn h1; omega)).trans (h.block i hi hn)⟩

theorem Keeps.mono {S S' : Nat → Prop} {a b : World} (h : Keeps S a b) (hs : ∀ i, S i → S' i) : Keeps S' a b :=
  ⟨h.os, h.tape, h.output, h.size, fun i hi hn => h.block i hi (fun hk => hn (hs i hk))⟩

theorem Keeps.drew {S : Nat → Prop} {a w : World} (h : Keeps S a w) : Keeps S a w.drew := ⟨h.os, h.tape, h.output, h.size, h.block⟩
theorem Keeps.drewN {S : Nat → Prop} {a w : World} (h : Keeps S a w) (n : Nat) : Keeps S a (w.drewN n) := ⟨h.os, h.tape, h.output, h.size, h.block⟩
theorem Keeps.alloc {S : Nat → Prop} {a w : World} (h : Keeps S a w) (o : Obj) : Keeps S a (w.alloc o) :=
  ⟨h.os, h.tape, h.output, Nat.le_trans h.size (by simp), fun i hi hn => (Below.heap_alloc w o i (Nat.lt_of_lt_of_le hi h.size)).trans (h.block i hi hn)⟩
theorem Keeps.setCell {S : Nat → Prop} {a w : World} (h : Keeps S a w) {p : Addr} (hp : S p.block ∨ a.heap.size ≤ p.block) (u : Value) : Keeps S a (w.setCell p u) :=
  ⟨h.os, h.tape, h.output, by simpa [World.setCell] using h.size, fun i hi hn => (Below.heap_setCell w p u i (by
    rintro rfl
    rcases hp with hp | hp
    · exact hn hp
    · omega)).trans (h.block i hi hn)⟩
theorem Keeps.below {S : Nat → Prop} {a w w' : World} (h : Keeps S a w) (k : Below w.heap.size w w') : Keeps S a w' :=
  ⟨k.os.trans h.os, k.tape.trans h.tape, k.output.trans h.output, Nat.le_trans h.size k.size, fun i hi hn => (k.block i (Nat.lt_of_lt_of_le hi h.size)).trans (h.block i hi hn)⟩
theorem Keeps.grown {S : Nat → Prop} {a w w' : World} {row : Option Nat} (h : Keeps S a w) (k : w.grownBy w' row) (hr : ∀ g, row = some g → S g ∨ a.heap.size ≤ g) : Keeps S a w' :=
  ⟨k.os.trans h.os, k.tape.trans h.tape, k.output.trans h.output, Nat.le_trans h.size k.size, fun i hi hn =>
    (k.block i (Nat.lt_of_lt_of_le hi h.size) (fun e => by rcases hr i e.symm with h1 | h1; exact hn h1; omega)).trans (h.block i hi hn)⟩
theorem Keeps.to_below {S : Nat → Prop} {B : Nat} {a w : World} (h : Keeps S a w) (hB : B ≤ a.heap.size) (hs : ∀ k, S k → B ≤ k) : Below B a w :=
  ⟨h.os, h.tape, h.output, h.size, fun i hi => h.block i (by omega) (fun hk => by have := hs i hk; omega)⟩
theorem Keeps.of_below {S : Nat → Prop} {a w : World} (h : Below a.heap.size a w) : Keeps S a w := ⟨h.os, h.tape, h.output, h.size, fun i hi _ => h.block i hi⟩
theorem Keeps.cell {S : Nat → Prop} {a w : World} (h : Keeps S a w) {p : Addr} (hp : ¬ S p.block) (hl : p.block < a.heap.size) : w.cell? p = a.cell? p := World.cell?_of_block (h.block _ hl hp)
theorem Keeps.frozen {S : Nat → Prop} {a w : World} (h : Keeps S a w) {p : Addr} (hp : ¬ S p.block) (hl : p.block < a.heap.size) : w.frozen? p = a.frozen? p := World.frozen?_of_block (h.block _ hl hp)

/-- The footprint behind a call: what it was, and what is new. -/
def grow (S : Nat → Prop) (w w' : World) : Nat → Prop := fun k => S k ∨ (w.heap.size ≤ k ∧ k < w'.heap.size)

/-! ### Assertions -/

structure SP where
  At : World → (Nat → Prop) → Prop
  mono : ∀ {w : World} {S S' : Nat → Prop}, At w S → (∀ k, S k → S' k) → At w S'
  loc : ∀ {w w' : World} {S : Nat → Prop}, At w S → (∀ k, S k → w'.heap[k]? = w.heap[k]?) → At w' S

namespace SP
def emp : SP where
  At _ _ := True
  mono _ _ := trivial
  loc _ _ := trivial

/-- A fact that speaks of no memory. -/
def pur (p : Prop) : SP where
  At _ _ := p
  mono h _ := h
  loc h _ := h

def sep (A B : SP) : SP where
  At w S := ∃ S1 S2 : Nat → Prop, (∀ k, S1 k → S k) ∧ (∀ k, S2 k → S k) ∧ (∀ k, S1 k → ¬ S2 k) ∧ A.At w S1 ∧ B.At w S2
  mono := fun ⟨S1, S2, h1, h2, hd, a, b⟩ hs => ⟨S1, S2, fun k hk => hs k (h1 k hk), fun k hk => hs k (h2 k hk), hd, a, b⟩
  loc := fun ⟨S1, S2, h1, h2, hd, a, b⟩ hw => ⟨S1, S2, h1, h2, hd, A.loc a (fun k hk => hw k (h1 k hk)), B.loc b (fun k hk => hw k (h2 k hk))⟩

def ex {α : Type} (F : α → SP) : SP where
  At w S := ∃ x, (F x).At w S
  mono := fun ⟨x, h⟩ hs => ⟨x, (F x).mono h hs⟩
  loc := fun ⟨x, h⟩ hw => ⟨x, (F x).loc h hw⟩

/-- A block that is known whole. -/
def blk (g : Nat) (t : TypeId) (cs : Array Value) : SP where
  At w S := S g ∧ w.heap[g]? = some (.cells cs t (0, 0))
  mono := fun ⟨h, hb⟩ hs => ⟨hs _ h, hb⟩
  loc := fun ⟨h, hb⟩ hw => ⟨h, (hw _ h).trans hb⟩

/-- A slice value over a block of its own: its elements' cells are xs. -/
def row (e : TypeId) (size : Nat) (v : Value) (xs : List Value) : SP where
  At w S := (v = .slice none 0 0 ∧ xs = []) ∨ ∃ (g off n cap : Nat) (cur : Array Value), v = .slice (some ⟨g, off, none⟩) n cap ∧ S g ∧ w.heap[g]? = some (.cells cur e (0, 0)) ∧
    n ≤ cap ∧ cap ≤ maxLen ∧ off + cap * size ≤ cur.size ∧ xs.length = n * size ∧ (cur.toList.drop off).take (n * size) = xs
  mono := fun h hs => h.imp id fun ⟨g, off, n, cap, cur, hv, hg, r⟩ => ⟨g, off, n, cap, cur, hv, hs _ hg, r⟩
  loc := fun h hw => h.imp id fun ⟨g, off, n, cap, cur, hv, hg, hb, r⟩ => ⟨g, off, n, cap, cur, hv, hg, (hw _ hg).trans hb, r⟩

def stars : List SP → SP
  | [] => emp
  | A :: L => sep A (stars L)

theorem sep_mk {A B : SP} {w : World} {S S1 S2 : Nat → Prop} (a : A.At w S1) (b : B.At w S2) (h1 : ∀ k, S1 k → S k) (h2 : ∀ k, S2 k → S k) (hd : ∀ k, S1 k → ¬ S2 k) : (sep A B).At w S := ⟨S1, S2, h1, h2, hd, a, b⟩

theorem sep_comm {A B : SP} {w : World} {S : Nat → Prop} : (sep A B).At w S → (sep B A).At w S := fun ⟨S1, S2, h1, h2, hd, a, b⟩ => ⟨S2, S1, h2, h1, fun k k2 k1 => hd k k1 k2, b, a⟩
theorem sep_assoc {A B C : SP} {w : World} {S : Nat → Prop} : (sep (sep A B) C).At w S → (sep A (sep B C)).At w S :=
  fun ⟨S1, S2, h1, h2, hd, ⟨T1, T2, t1, t2, td, a, b⟩, c⟩ => ⟨T1, fun k => T2 k ∨ S2 k, fun k hk => h1 k (t1 k hk), fun k hk => hk.elim (fun x => h1 k (t2 k x)) (h2 k), fun k k1 k2 => k2.elim (td k k1) (hd k (t1 k k1)), a,
    T2, S2, fun _ => Or.inl, fun _ => Or.inr, fun k k1 => hd k (t2 k k1), b, c⟩
theorem sep_assoc' {A B C : SP} {w : World} {S : Nat → Prop} : (sep A (sep B C)).At w S → (sep (sep A B) C).At w S :=
  fun h => sep_comm (sep_assoc (sep_comm (sep_assoc (sep_comm h))))
theorem sep_imp {A A' B B' : SP} {w : World} {S : Nat → Prop} (h : (sep A B).At w S) (ha : ∀ T, A.At w T → A'.At w T) (hb : ∀ T, B.At w T → B'.At w T) : (sep A' B').At w S :=
  let ⟨_, _, h1, h2, hd, a, b⟩ := h; ⟨_, _, h1, h2, hd, ha _ a, hb _ b⟩
theorem sep_left {A B : SP} {w : World} {S : Nat → Prop} (h : (sep A B).At w S) : A.At w S := let ⟨_, _, h1, _, _, a, _⟩ := h; A.mono a h1
theorem sep_right {A B : SP} {w : World} {S : Nat → Prop} (h : (sep A B).At w S) : B.At w S := let ⟨_, _, _, h2, _, _, b⟩ := h; B.mono b h2

theorem stars_perm {L L' : List SP} (h : L.Perm L') {w : World} : ∀ {S : Nat → Prop}, (stars L).At w S → (stars L').At w S := by
  induction h with
  | nil => exact fun h => h
  | cons A _ ih => exact fun h => sep_imp h (fun _ => id) (fun _ => ih)
  | swap A B L => exact fun h => sep_assoc (sep_imp (sep_assoc' h) (fun _ => sep_comm) (fun _ => id))
  | trans _ _ ih1 ih2 => exact fun h => ih2 (ih1 h)

theorem stars_append {L L' : List SP} {w : World} : ∀ {S : Nat → Prop}, (sep (stars L) (stars L')).At w S → (stars (L ++ L')).At w S := by
  induction L with
  | nil => exact fun h => sep_right h
  | cons A L ih => exact fun h => sep_imp (sep_assoc h) (fun _ => id) (fun _ => ih)
theorem stars_split {L L' : List SP} {w : World} : ∀ {S : Nat → Prop}, (stars (L ++ L')).At w S → (sep (stars L) (stars L')).At w S := by
  induction L with
  | nil => exact fun h => ⟨fun _ => False, _, fun _ h => h.elim, fun _ h => h, fun _ h => h.elim, trivial, h⟩
  | cons A L ih => exact fun h => sep_assoc' (sep_imp h (fun _ => id) (fun _ => ih))

theorem stars_front {L : List SP} {i : Nat} {A : SP} (h : L[i]? = some A) : L.Perm (A :: L.eraseIdx i) := by
  induction L generalizing i with
  | nil => simp at h
  | cons B L ih =>
    cases i with
    | zero => simp at h; subst h; exact List.Perm.refl _
    | succ i => exact ((ih (by simpa using h)).cons B).trans (List.Perm.swap _ _ _)
theorem stars_back {L : List SP} {i : Nat} {A : SP} (hi : i < L.length) : (A :: L.eraseIdx i).Perm (L.set i A) := by
  induction L generalizing i with
  | nil => simp at hi
  | cons B L ih =>
    cases i with
    | zero => exact List.Perm.refl _
    | succ i => exact (List.Perm.swap _ _ _).trans ((ih (by simpa using hi)).cons B)
end SP

/-! ### What holds of the memory that a call owns -/

/-- From w0 to w nothing but S and what is new has turned; the assertions hold, each of memory of its own, within S and what is new. -/
structure Own (S : Nat → Prop) (w0 w : World) (L : List SP) : Prop where
  lt : ∀ k, S k → k < w0.heap.size
  keeps : Keeps S w0 w
  at_ : (SP.stars L).At w (grow S w0 w)

section
variable {S : Nat → Prop} {w0 w w' : World} {L R : List SP} {A A' : SP}

theorem Own.start (w : World) : Own (fun _ => False) w w [] := ⟨fun _ h => h.elim, Keeps.refl _ _, trivial⟩
theorem Own.enter (h : A.At w S) (hlt : ∀ k, S k → k < w.heap.size) : Own S w w [A] := ⟨hlt, Keeps.refl _ _, S, fun _ => False, fun k hk => .inl hk, fun k hk => hk.elim, fun _ _ hk => hk, h, trivial⟩
theorem Own.size (h : Own S w0 w L) : w0.heap.size ≤ w.heap.size := h.keeps.size
theorem Own.below (h : Own (fun _ => False) w0 w L) : Below w0.heap.size w0 w := h.keeps.to_below (Nat.le_refl _) (fun _ h => h.elim)
theorem Own.perm (h : Own S w0 w L) (hp : L.Perm R) : Own S w0 w R := ⟨h.lt, h.keeps, SP.stars_perm hp h.at_⟩
theorem Own.front (h : Own S w0 w L) (i : Nat) (hi : L[i]? = some A) : Own S w0 w (A :: L.eraseIdx i) := h.perm (SP.stars_front hi)
theorem Own.back {i : Nat} (h : Own S w0 w (A :: L.eraseIdx i)) (hi : i < L.length) : Own S w0 w (L.set i A) := h.perm (SP.stars_back hi)
theorem Own.swap {B : SP} (h : Own S w0 w (A :: B :: R)) : Own S w0 w (B :: A :: R) := h.perm (List.Perm.swap _ _ _)
theorem Own.flat (h : Own S w0 w (SP.stars L :: R)) : Own S w0 w (L ++ R) := ⟨h.lt, h.keeps, SP.stars_append h.at_⟩
theorem Own.unflat (h : Own S w0 w (L ++ R)) : Own S w0 w (SP.stars L :: R) := ⟨h.lt, h.keeps, SP.stars_split h.at_⟩
theorem Own.pop (h : Own S w0 w (A :: R)) : Own S w0 w R := ⟨h.lt, h.keeps, SP.sep_right h.at_⟩
theorem Own.imp (h : Own S w0 w (A :: R)) (hi : ∀ T, A.At w T → A'.At w T) : Own S w0 w (A' :: R) := ⟨h.lt, h.keeps, SP.sep_imp h.at_ hi (fun _ => id)⟩
theorem Own.emp (h : Own S w0 w L) : Own S w0 w (SP.emp :: L) := ⟨h.lt, h.keeps, fun _ => False, _, fun _ h => h.elim, fun _ h => h, fun _ h => h.elim, trivial, h.at_⟩
theorem Own.pur (h : Own S w0 w L) {p : Prop} (hp : p) : Own S w0 w (SP.pur p :: L) := ⟨h.lt, h.keeps, fun _ => False, _, fun _ h => h.elim, fun _ h => h, fun _ h => h.elim, hp, h.at_⟩
theorem Own.add (h : Own S w0 w L) {B : SP} (hB : B.At w (fun _ => False)) : Own S w0 w (B :: L) := ⟨h.lt, h.keeps, fun _ => False, _, fun _ h => h.elim, fun _ h => h, fun _ h => h.elim, hB, h.at_⟩
theorem Own.head (h : Own S w0 w (A :: R)) : A.At w (grow S w0 w) := SP.sep_left h.at_
theorem Own.last (h : Own S w0 w [A]) : A.At w (grow S w0 w) := h.head

theorem grow_lt (h : ∀ k, S k → k < w0.heap.size) (hs : w0.heap.size ≤ w.heap.size) {k : Nat} (hk : grow S w0 w k) : k < w.heap.size := by
  rcases hk with hk | ⟨_, hk⟩
  · have := h k hk; omega
  · exact hk

/-- THE FRAME: what a step does to the first one's memory leaves the others as they were. -/
theorem Own.step (h : Own S w0 w (A :: R)) (hs : ∀ T, A.At w T → (∀ k, T k → k < w.heap.size) → Keeps T w w' ∧ A'.At w' (grow T w w')) : Own S w0 w' (A' :: R) := by
  obtain ⟨hS, hb, S1, S2, h1, h2, hd, ha, hr⟩ := h
  have hsz := hb.size
  have l1 : ∀ k, S1 k → k < w.heap.size := fun k hk => grow_lt hS hsz (h1 k hk)
  have l2 : ∀ k, S2 k → k < w.heap.size := fun k hk => grow_lt hS hsz (h2 k hk)
  obtain ⟨hk, ha'⟩ := hs S1 ha l1
  have hsz' := hk.size
  refine ⟨hS, hb.trans hk (fun k hk => ?_), grow S1 w w', S2, ?_, ?_, ?_, ha', (SP.stars R).loc hr (fun k hk2 => hk.block k (l2 k hk2) (fun x => hd k x hk2))⟩
  · rcases h1 k hk with h | ⟨h, _⟩
    · exact .inl h
    · exact .inr h
  · rintro k (hk1 | ⟨hk1, hk2⟩)
    · rcases h1 k hk1 with h | ⟨h, h'⟩
      · exact .inl h
      · exact .inr ⟨h, by omega⟩
    · exact .inr ⟨by omega, hk2⟩
  · intro k hk2
    rcases h2 k hk2 with h | ⟨h, h'⟩
    · exact .inl h
    · exact .inr ⟨h, by omega⟩
  · rintro k (hk1 | ⟨hk1, hk2⟩) hk3
    · exact hd k hk1 hk3
    · have := l2 k hk3; omega

/-- The first one's memory laid open: whatever is done to it alone, the others stay. -/
theorem Own.open (h : Own S w0 w (A :: R)) : ∃ T : Nat → Prop, A.At w T ∧ (∀ k, T k → k < w.heap.size) ∧ ∀ w' A', Keeps T w w' → A'.At w' (grow T w w') → Own S w0 w' (A' :: R) := by
  obtain ⟨hS, hb, S1, S2, h1, h2, hd, ha, hr⟩ := h
  have l1 : ∀ k, S1 k → k < w.heap.size := fun k hk => grow_lt hS hb.size (h1 k hk)
  refine ⟨S1, ha, l1, fun w' A' hk ha' => ?_⟩
  have hsz := hb.size
  have l2 : ∀ k, S2 k → k < w.heap.size := fun k hk => grow_lt hS hsz (h2 k hk)
  have hsz' := hk.size
  refine ⟨hS, hb.trans hk (fun k hk => ?_), grow S1 w w', S2, ?_, ?_, ?_, ha', (SP.stars R).loc hr (fun k hk2 => hk.block k (l2 k hk2) (fun x => hd k x hk2))⟩
  · rcases h1 k hk with h | ⟨h, _⟩
    · exact .inl h
    · exact .inr h
  · rintro k (hk1 | ⟨hk1, hk2⟩)
    · rcases h1 k hk1 with h | ⟨h, h'⟩
      · exact .inl h
      · exact .inr ⟨h, by omega⟩
    · exact .inr ⟨by omega, hk2⟩
  · intro k hk2
    rcases h2 k hk2 with h | ⟨h, h'⟩
    · exact .inl h
    · exact .inr ⟨h, by omega⟩
  · rintro k (hk1 | ⟨hk1, hk2⟩) hk3
    · exact hd k hk1 hk3
    · have := l2 k hk3; omega

theorem grow_mono (hs : w.heap.size ≤ w'.heap.size) {k : Nat} (hk : grow S w0 w k) : grow S w0 w' k := by
  rcases hk with h | ⟨h, h'⟩
  · exact .inl h
  · exact .inr ⟨h, by omega⟩

/-- A step that turns nothing of what was there. -/
theorem Own.move (h : Own S w0 w L) (hk : Below w.heap.size w w') : Own S w0 w' L :=
  ⟨h.lt, h.keeps.below hk, (SP.stars L).mono ((SP.stars L).loc h.at_ (fun k hk2 => hk.block k (grow_lt h.lt h.size hk2))) (fun _ => grow_mono hk.size)⟩
theorem below_drewN {B : Nat} {a w : World} (h : Below B a w) (n : Nat) : Below B a (w.drewN n) := ⟨h.os, h.tape, h.output, h.size, h.block⟩
theorem Own.drew (h : Own S w0 w L) : Own S w0 w.drew L := h.move (Below.refl _ _).drew
theorem Own.drewN (h : Own S w0 w L) (n : Nat) : Own S w0 (w.drewN n) L := h.move (below_drewN (Below.refl _ _) n)

/-- New memory comes in. -/
theorem Own.gain (h : Own S w0 w L) (hk : Below w.heap.size w w') (ha : A.At w' (fun k => w.heap.size ≤ k ∧ k < w'.heap.size)) : Own S w0 w' (A :: L) := by
  have hs := h.size
  have hs' := hk.size
  refine ⟨h.lt, h.keeps.below hk, fun k => w.heap.size ≤ k ∧ k < w'.heap.size, grow S w0 w, fun k hk => .inr ⟨by omega, hk.2⟩, fun k => grow_mono hs', ?_, ha, (SP.stars L).loc h.at_ (fun k hk2 => hk.block k (grow_lt h.lt h.size hk2))⟩
  intro k ⟨h1, _⟩ h2
  have := grow_lt h.lt h.size h2; omega
theorem Own.alloc (h : Own S w0 w L) (cs : Array Value) (t : TypeId) : Own S w0 (w.alloc (.cells cs t)) (SP.blk w.heap.size t cs :: L) :=
  h.gain ((Below.refl _ _).alloc (Nat.le_refl _) _) ⟨by simp, heap_alloc_new w _⟩
end

/-- One of many, to the front; and back. -/
theorem Own.focus {S : Nat → Prop} {w0 w : World} {L R : List SP} {A : SP} (h : Own S w0 w (SP.stars L :: R)) (i : Nat) (hi : L[i]? = some A) : Own S w0 w (A :: SP.stars (L.eraseIdx i) :: R) :=
  ⟨h.lt, h.keeps, SP.sep_assoc (SP.sep_imp h.at_ (fun _ hL => SP.stars_perm (SP.stars_front hi) hL) (fun _ => id))⟩
theorem Own.unfocus {S : Nat → Prop} {w0 w : World} {L R : List SP} {A : SP} {i : Nat} (h : Own S w0 w (A :: SP.stars (L.eraseIdx i) :: R)) (hi : i < L.length) : Own S w0 w (SP.stars (L.set i A) :: R) :=
  ⟨h.lt, h.keeps, SP.sep_imp (SP.sep_assoc' h.at_) (fun _ hL => SP.stars_perm (L := A :: L.eraseIdx i) (SP.stars_back hi) hL) (fun _ => id)⟩
theorem Own.cons {S : Nat → Prop} {w0 w : World} {L R : List SP} {A : SP} (h : Own S w0 w (A :: SP.stars L :: R)) : Own S w0 w (SP.stars (A :: L) :: R) :=
  ⟨h.lt, h.keeps, SP.sep_assoc' h.at_⟩
theorem Own.uncons {S : Nat → Prop} {w0 w : World} {L R : List SP} {A : SP} (h : Own S w0 w (SP.stars (A :: L) :: R)) : Own S w0 w (A :: SP.stars L :: R) :=
  ⟨h.lt, h.keeps, SP.sep_assoc h.at_⟩
theorem Own.unex {S : Nat → Prop} {w0 w : World} {R : List SP} {α : Type} {F : α → SP} (h : Own S w0 w (SP.ex F :: R)) : ∃ x, Own S w0 w (F x :: R) := by
  obtain ⟨h1, h2, S1, S2, h3, h4, hd, ⟨x, hx⟩, hr⟩ := h
  exact ⟨x, h1, h2, S1, S2, h3, h4, hd, hx, hr⟩
theorem Own.mkex {S : Nat → Prop} {w0 w : World} {R : List SP} {α : Type} {F : α → SP} (x : α) (h : Own S w0 w (F x :: R)) : Own S w0 w (SP.ex F :: R) := h.imp fun _ hx => ⟨x, hx⟩
theorem Own.unpur {S : Nat → Prop} {w0 w : World} {R : List SP} {p : Prop} (h : Own S w0 w (SP.pur p :: R)) : p ∧ Own S w0 w R := ⟨h.head, h.pop⟩
theorem Own.unsep {S : Nat → Prop} {w0 w : World} {R : List SP} {A B : SP} (h : Own S w0 w (SP.sep A B :: R)) : Own S w0 w (A :: B :: R) := ⟨h.lt, h.keeps, SP.sep_assoc h.at_⟩
theorem Own.mksep {S : Nat → Prop} {w0 w : World} {R : List SP} {A B : SP} (h : Own S w0 w (A :: B :: R)) : Own S w0 w (SP.sep A B :: R) := ⟨h.lt, h.keeps, SP.sep_assoc' h.at_⟩

theorem Own.tail {S : Nat → Prop} {w0 w : World} {L L' : List SP} {A : SP} (h : Own S w0 w (A :: L)) (hi : ∀ T, (SP.stars L).At w T → (SP.stars L').At w T) : Own S w0 w (A :: L') := ⟨h.lt, h.keeps, SP.sep_imp h.at_ (fun _ => id) hi⟩
theorem SP.sep_emp {A : SP} {w : World} {S : Nat → Prop} (h : A.At w S) : (SP.sep A SP.emp).At w S := ⟨S, fun _ => False, fun _ h => h, fun _ h => h.elim, fun _ _ h => h, h, trivial⟩
theorem SP.stars_snoc {A : SP} {X : List SP} {w : World} {S : Nat → Prop} (h : (SP.stars [A, SP.stars X]).At w S) : (SP.stars [SP.stars (X ++ [A])]).At w S :=
  SP.sep_emp (SP.stars_perm (L := A :: X) (List.perm_append_singleton A X).symm (SP.sep_imp h (fun _ => id) (fun _ h => SP.sep_left h)))

/-! ### Contracts -/

/-- In the world w: given A (with whatever footprint), the call ends as Q says, with the memory A'. -/
def SpecAt (P : Program) (f : FuncId) (args : Array Value) (w : World) (A : SP) (Q : Ending → SP → Prop) : Prop :=
  ∀ S : Nat → Prop, A.At w S → (∀ k, S k → k < w.heap.size) → Calls P f args w fun e w' => ∃ A', Q e A' ∧ Keeps S w w' ∧ A'.At w' (grow S w w')

theorem SpecAt.use {P : Program} {f : FuncId} {args : Array Value} {S : Nat → Prop} {w0 w : World} {A : SP} {R : List SP} {Q : Ending → SP → Prop} (hs : SpecAt P f args w A Q) (h : Own S w0 w (A :: R)) :
    Calls P f args w fun e w' => ∃ A', Q e A' ∧ Own S w0 w' (A' :: R) ∧ w.heap.size ≤ w'.heap.size := by
  obtain ⟨hS, hb, S1, S2, h1, h2, hd, ha, hr⟩ := h
  have l1 : ∀ k, S1 k → k < w.heap.size := fun k hk => grow_lt hS hb.size (h1 k hk)
  refine (hs S1 ha l1).mono ?_
  rintro e w' ⟨A', hq, hk, ha'⟩
  refine ⟨A', hq, ?_, hk.size⟩
  have hsz := hb.size
  have hsz' := hk.size
  have l2 : ∀ k, S2 k → k < w.heap.size := fun k hk => grow_lt hS hsz (h2 k hk)
  refine ⟨hS, hb.trans hk (fun k hk => ?_), grow S1 w w', S2, ?_, ?_, ?_, ha', (SP.stars R).loc hr (fun k hk2 => hk.block k (l2 k hk2) (fun x => hd k x hk2))⟩
  · rcases h1 k hk with h | ⟨h, _⟩
    · exact .inl h
    · exact .inr h
  · rintro k (hk1 | ⟨hk1, hk2⟩)
    · rcases h1 k hk1 with h | ⟨h, h'⟩
      · exact .inl h
      · exact .inr ⟨h, by omega⟩
    · exact .inr ⟨by omega, hk2⟩
  · intro k hk2
    exact grow_mono hsz' (h2 k hk2)
  · rintro k (hk1 | ⟨hk1, hk2⟩) hk3
    · exact hd k hk1 hk3
    · have := l2 k hk3; omega

/-- Back from the inside: what a body that owned S leaves. -/
theorem Own.leave {S : Nat → Prop} {w w' : World} {L : List SP} (h : Own S w w' L) : Keeps S w w' ∧ (SP.stars L).At w' (grow S w w') := ⟨h.keeps, h.at_⟩

end Go.Proofs.Ytbncicfbgfmekaa
