/-
  A log as plain data, what its operations answer and leave; no program stands here.
  Conditions: none beyond each theorem's own.
-/
import Derived.WalkKit
namespace Go.Proofs.Ytepnkhiclgjmpaa
set_option linter.unusedVariables false
set_option linter.unusedSimpArgs false

structure E where
  term : Int
  index : Int
  kind : Int
  dat : List UInt8
instance : Inhabited E := ⟨⟨0, 0, 0, []⟩⟩

/-- A log: the base, the entries, the marks. -/
structure Lg where
  index : Int
  term : Int
  L : List E
  h : Int
  s : Int
  c : Int
  ap : Int
  ad : Int

def okN : Int := 0
def Lg.lastI (x : Lg) : Int := x.index + (x.L.length : Int)
def Lg.lastT (x : Lg) : Int := match x.L.getLast? with
  | some e => e.term
  | none => x.term
def Lg.entry? (x : Lg) (i : Int) : Option E := if x.index < i then x.L[(i - x.index - 1).toNat]? else none
/-- An index's term, and the error's number. -/
def Lg.at (x : Lg) (i : Int) : Int × Int := if i < x.index then (0, 14) else if i = x.index then (x.term, 0) else match x.entry? i with
  | some e => (e.term, 0)
  | none => (0, 8)
def Lg.has (x : Lg) (i t : Int) : Bool := decide ((x.at i).2 = 0 ∧ (x.at i).1 = t)
/-- The entries behind an index up to another one. -/
def Lg.cut (x : Lg) (behind upTo : Int) : List E := (x.L.drop (behind - x.index).toNat).take (upTo - behind).toNat
def Lg.entries (x : Lg) (from_ most : Int) : List E × Int := if from_ ≤ x.index then ([], 14) else if x.lastI + 1 < from_ then ([], 8) else ((x.L.drop (from_ - x.index - 1).toNat).take most.toNat, 0)
def Lg.newer (x : Lg) (i t : Int) : Bool := decide (x.lastT < t ∨ (t = x.lastT ∧ x.lastI ≤ i))
def maxI : Int := 4611686018427387904
def checkE (e : E) : Int := if ¬ (1 ≤ e.term ∧ e.term ≤ maxI) ∨ ¬ (1 ≤ e.index ∧ e.index ≤ maxI) then 1 else if e.kind ≠ 0 ∧ e.kind ≠ 1 then 6 else if 4096 < e.dat.length then 3 else if e.kind = 0 ∧ 0 < e.dat.length then 4 else 0
def Lg.append (x : Lg) (t k : Int) (d : List UInt8) : (Int × Int) × Lg :=
  if maxI ≤ x.lastI then ((0, 18), x) else if 10000 ≤ x.L.length then ((0, 10), x) else if t < x.lastT ∨ ¬ (1 ≤ t ∧ t ≤ maxI) then ((0, 1), x)
  else if checkE ⟨t, x.lastI + 1, k, d⟩ ≠ 0 then ((0, checkE ⟨t, x.lastI + 1, k, d⟩), x) else ((x.lastI + 1, 0), { x with L := x.L ++ [⟨t, x.lastI + 1, k, d⟩] })
def Lg.commit (x : Lg) (i : Int) : Bool × Lg := if min i x.lastI ≤ x.c then (false, x) else (true, { x with c := min i x.lastI })
/-- How many entries the log has already. -/
def Lg.skip (x : Lg) : List E → Nat
  | [] => 0
  | e :: es => if x.has e.index e.term then Lg.skip x es + 1 else 0
def Lg.lay (x : Lg) (at_ : Int) (es : List E) : Lg := { x with L := x.L.take (at_ - 1 - x.index).toNat ++ es, h := min x.h (at_ - 1), s := min x.s (at_ - 1) }
def Lg.try_ (x : Lg) (i t c : Int) (es : List E) : (Int × Bool) × Lg :=
  if x.has i t = false then ((0, false), x) else match es.drop (x.skip es) with
    | [] => ((i + es.length, true), (x.commit (min c (i + es.length))).2)
    | e :: r => if e.index ≤ x.c ∨ 10000 < e.index - 1 - x.index + ((r.length + 1 : Nat) : Int) then ((0, false), x) else ((i + es.length, true), ((x.lay e.index (e :: r)).commit (min c (i + es.length))).2)
/-- Downwards to a term that is no greater. -/
def Lg.down (x : Lg) (t : Int) : Nat → Int
  | 0 => x.index
  | n + 1 => if (x.at (x.index + ((n + 1 : Nat) : Int))).1 ≤ t then x.index + ((n + 1 : Nat) : Int) else Lg.down x t n
def Lg.hint (x : Lg) (i t : Int) : Int := x.down t (min i x.lastI - x.index).toNat
def Lg.hand (x : Lg) : List E × Lg := (x.cut x.h x.lastI, { x with h := x.lastI })
def Lg.stable (x : Lg) (i t : Int) : Bool × Lg := if i ≤ x.s ∨ x.h < i ∨ x.has i t = false then (false, x) else (true, { x with s := i })
def Lg.nextN (x : Lg) (most : Int) : Int := min (max most 0) (min x.c x.s - x.ap)
def Lg.next (x : Lg) (most : Int) : List E × Lg := (x.cut x.ap (x.ap + x.nextN most), { x with ap := x.ap + x.nextN most })
def Lg.applied (x : Lg) (i : Int) : Bool × Lg := if i ≤ x.ad ∨ x.ap < i then (false, x) else (true, { x with ad := i })
def Lg.compact (x : Lg) (i : Int) : Int × Lg := if i < x.index then (14, x) else if x.ad < i then (1, x) else (0, { x with L := x.L.drop (i - x.index).toNat, index := i, term := (x.at i).1 })
def Lg.restore (x : Lg) (i t : Int) : Int × Lg := if ¬ (1 ≤ i ∧ i ≤ maxI) ∨ ¬ (1 ≤ t ∧ t ≤ maxI) ∨ i ≤ x.c then (1, x) else (0, ⟨i, t, [], i, i, i, i, i⟩)
def Lg.marks (x : Lg) : List Int := [x.h, x.s, x.c, x.ap, x.ad]

/-- What each operation keeps, and may lean on. -/
structure Lg.Ok (x : Lg) : Prop where
  i0 : 0 ≤ x.index
  i1 : x.index ≤ maxI
  len : x.L.length ≤ 10000
  idx : ∀ (j : Nat) (e : E), x.L[j]? = some e → e.index = x.index + 1 + (j : Int) ∧ e.index ≤ maxI
  dat : ∀ e : E, e ∈ x.L → e.dat.length ≤ 4096
  a0 : x.index ≤ x.ad
  a1 : x.ad ≤ x.ap
  a2 : x.ap ≤ x.c
  a3 : x.c ≤ x.lastI
  b2 : x.ap ≤ x.s
  b3 : x.s ≤ x.h
  b4 : x.h ≤ x.lastI

namespace Lg.Ok
variable {x : Lg}
theorem last (h : x.Ok) : x.lastI ≤ maxI := by
  by_cases h0 : x.L = []
  · have := h.i1; simp [Lg.lastI, h0]; exact this
  · have hl : 0 < x.L.length := List.length_pos_iff.2 h0
    obtain ⟨e, he⟩ : ∃ e, x.L[x.L.length - 1]? = some e := ⟨_, List.getElem?_eq_getElem (by omega)⟩
    have := h.idx _ _ he
    unfold Lg.lastI
    omega
end Lg.Ok
theorem Lg.lastT_snoc (x : Lg) {e : E} (h : x.L[x.L.length - 1]? = some e) : x.lastT = e.term := by
  rw [Lg.lastT, List.getLast?_eq_getElem?, h]
theorem Lg.lastT_nil (x : Lg) (h : x.L = []) : x.lastT = x.term := by
  rw [Lg.lastT, h]; rfl
end Go.Proofs.Ytepnkhiclgjmpaa
