/-
  Get and One at whatever place, of the frame and of the document: one answer.
  Conditions: the bytes can be read in whatever world comes while no memory of theirs is turned.
-/
import Derived.Test.YtonomljdljcmaaaSums
namespace Go.Proofs.Ytonomljdljcmaaa
set_option linter.unusedVariables false
set_option linter.unusedSimpArgs false
open Go.RowKit

def gE (b : List UInt8) (a : Int) : Nat := if 0 ≤ a ∧ a + 4 ≤ (b.length : Int) then getErr (b.drop a.toNat) else 2
def gP (b : List UInt8) (a : Int) : List UInt8 := if gE b a = 0 then pay (b.drop a.toNat) else []
def gN (b : List UInt8) (a : Int) : Nat := if gE b a = 0 then 8 + (gP b a).length else 0
def oneE (b : List UInt8) : Nat := if 4 ≤ b.length then oneErr b else 2
def oneP (b : List UInt8) : List UInt8 := if oneE b = 0 then pay b else []

/-- What Get answers. -/
def GetSays (S : Nat → Prop) (w0 : World) (R : List SP) (P : List UInt8) (N E : Nat) (e : Ending) (w' : World) : Prop :=
  ∃ A' c', e = .returned (.tuple #[.slice A' P.length c', .int .i64 (N : Nat), .int .i64 (E : Nat)]) ∧ Own S w0 w' (SP.row 5 1 (.slice A' P.length c') (bts P) :: R)
def OneSays (S : Nat → Prop) (w0 : World) (R : List SP) (P : List UInt8) (E : Nat) (e : Ending) (w' : World) : Prop :=
  ∃ A' c', e = .returned (.tuple #[.slice A' P.length c', .int .i64 (E : Nat)]) ∧ Own S w0 w' (SP.row 5 1 (.slice A' P.length c') (bts P) :: R)

theorem gP_le (b : List UInt8) (a : Int) : (gP b a).length ≤ 1048576 ∧ (gP b a).length ≤ b.length := by
  unfold gP
  by_cases h : gE b a = 0
  · rw [if_pos h]
    unfold gE at h
    by_cases h1 : 0 ≤ a ∧ a + 4 ≤ (b.length : Int)
    · rw [if_pos h1] at h
      have h2 := getErr_ok h
      rw [h2.2.2.2]
      rw [List.length_drop] at h2
      omega
    · rw [if_neg h1] at h; cases h
  · rw [if_neg h]; simp
theorem oneErr_ok {b : List UInt8} (h : oneErr b = 0) : getErr b = 0 := by
  unfold oneErr at h
  by_cases h1 : getErr b = 0
  · exact h1
  · rw [if_neg h1] at h; exact absurd h h1
theorem oneP_le (b : List UInt8) : (oneP b).length ≤ 1048576 ∧ (oneP b).length ≤ b.length := by
  unfold oneP
  by_cases h : oneE b = 0
  · rw [if_pos h]
    unfold oneE at h
    by_cases h1 : 4 ≤ b.length
    · rw [if_pos h1] at h
      have h2 := getErr_ok (oneErr_ok h)
      omega
    · rw [if_neg h1] at h; cases h
  · rw [if_neg h]; simp

section
variable {S : Nat → Prop} {w0 w : World} {R : List SP} {B : Option Addr} {cb : Nat} {b : List UInt8}
theorem Own.nil_row (h : Own S w0 w R) : Own S w0 w (SP.row 5 1 (.slice none 0 0) (bts []) :: R) := h.add (SP.row_nil _ _ _ _)

theorem get_any (a : Int) (h : Own S w0 w R) (hb : Reads S w0 R B b) (hcb : b.length ≤ cb) (hcb2 : cb ≤ 9223372036854775807) (hbl : b.length ≤ 1000000000) (ha : -9223372036854775808 ≤ a ∧ a ≤ 9223372036854775807) :
    Calls Try.prog 20 #[.slice B b.length cb, .int .i64 a] w (GetSays S w0 R (gP b a) (gN b a) (gE b a)) := by
  by_cases hv : 0 ≤ a ∧ a + 4 ≤ (b.length : Int)
  · have he : gE b a = getErr (b.drop a.toNat) := by rw [gE, if_pos hv]
    have hG := get_own (a := a.toNat) h hb hcb hcb2 hbl (by omega)
    rw [show ((a.toNat : Nat) : Int) = a by omega] at hG
    refine hG.mono ?_
    rintro e w' (⟨h0, A', c', rfl, own⟩ | ⟨h0, rfl, own⟩)
    · have hp : gP b a = pay (b.drop a.toNat) := by rw [gP, if_pos (he.trans h0)]
      exact ⟨A', c', by rw [gN, if_pos (he.trans h0), he, h0, hp]; rfl, by rw [hp]; exact own⟩
    · have h0' : gE b a ≠ 0 := by rw [he]; exact h0
      have hp : gP b a = [] := by rw [gP, if_neg h0']
      exact ⟨none, 0, by rw [gN, if_neg h0', he, hp]; rfl, by rw [hp]; exact own.nil_row⟩
  · have he : gE b a = 2 := by rw [gE, if_neg hv]
    have hp : gP b a = [] := by rw [gP, if_neg (by rw [he]; decide)]
    refine (get_out (a := a) hv ha hbl).mono ?_
    rintro e w' ⟨rfl, rfl⟩
    exact ⟨none, 0, by rw [gN, he, hp]; rfl, by rw [hp]; exact h.nil_row⟩
theorem rget_any (a : Int) (h : Own S w0 w R) (hb : Reads S w0 R B b) (hcb : b.length ≤ cb) (hcb2 : cb ≤ 9223372036854775807) (hbl : b.length ≤ 1000000000) (ha : -9223372036854775808 ≤ a ∧ a ≤ 9223372036854775807) :
    Calls Try.prog 22 #[.slice B b.length cb, .int .i64 a] w (GetSays S w0 R (gP b a) (gN b a) (gE b a)) := by
  by_cases hv : 0 ≤ a ∧ a + 4 ≤ (b.length : Int)
  · have he : gE b a = getErr (b.drop a.toNat) := by rw [gE, if_pos hv]
    have hG := rget_own (a := a.toNat) h hb hcb hcb2 hbl (by omega)
    rw [show ((a.toNat : Nat) : Int) = a by omega] at hG
    refine hG.mono ?_
    rintro e w' (⟨h0, A', c', rfl, own⟩ | ⟨h0, rfl, own⟩)
    · have hp : gP b a = pay (b.drop a.toNat) := by rw [gP, if_pos (he.trans h0)]
      exact ⟨A', c', by rw [gN, if_pos (he.trans h0), he, h0, hp]; rfl, by rw [hp]; exact own⟩
    · have h0' : gE b a ≠ 0 := by rw [he]; exact h0
      have hp : gP b a = [] := by rw [gP, if_neg h0']
      exact ⟨none, 0, by rw [gN, if_neg h0', he, hp]; rfl, by rw [hp]; exact own.nil_row⟩
  · have he : gE b a = 2 := by rw [gE, if_neg hv]
    have hp : gP b a = [] := by rw [gP, if_neg (by rw [he]; decide)]
    refine (rget_out (a := a) hv ha hbl).mono ?_
    rintro e w' ⟨rfl, rfl⟩
    exact ⟨none, 0, by rw [gN, he, hp]; rfl, by rw [hp]; exact h.nil_row⟩
theorem one_any (h : Own S w0 w R) (hb : Reads S w0 R B b) (hcb : b.length ≤ cb) (hcb2 : cb ≤ 9223372036854775807) (hbl : b.length ≤ 1000000000) :
    Calls Try.prog 21 #[.slice B b.length cb] w (OneSays S w0 R (oneP b) (oneE b)) := by
  by_cases hv : 4 ≤ b.length
  · have he : oneE b = oneErr b := by rw [oneE, if_pos hv]
    refine (one_own h hb hcb hcb2 hbl hv).mono ?_
    rintro e w' (⟨h0, A', c', rfl, own⟩ | ⟨h0, rfl, own⟩)
    · have hp : oneP b = pay b := by rw [oneP, if_pos (he.trans h0)]
      exact ⟨A', c', by rw [he, h0, hp]; rfl, by rw [hp]; exact own⟩
    · have hp : oneP b = [] := by rw [oneP, if_neg (by rw [he]; exact h0)]
      exact ⟨none, 0, by rw [he, hp]; rfl, by rw [hp]; exact own.nil_row⟩
  · have he : oneE b = 2 := by rw [oneE, if_neg hv]
    have hp : oneP b = [] := by rw [oneP, if_neg (by rw [he]; decide)]
    refine (one_short (by omega)).mono ?_
    rintro e w' ⟨rfl, rfl⟩
    exact ⟨none, 0, by rw [he, hp]; rfl, by rw [hp]; exact h.nil_row⟩
theorem rone_any (h : Own S w0 w R) (hb : Reads S w0 R B b) (hcb : b.length ≤ cb) (hcb2 : cb ≤ 9223372036854775807) (hbl : b.length ≤ 1000000000) :
    Calls Try.prog 23 #[.slice B b.length cb] w (OneSays S w0 R (oneP b) (oneE b)) := by
  by_cases hv : 4 ≤ b.length
  · have he : oneE b = oneErr b := by rw [oneE, if_pos hv]
    refine (rone_own h hb hcb hcb2 hbl hv).mono ?_
    rintro e w' (⟨h0, A', c', rfl, own⟩ | ⟨h0, rfl, own⟩)
    · have hp : oneP b = pay b := by rw [oneP, if_pos (he.trans h0)]
      exact ⟨A', c', by rw [he, h0, hp]; rfl, by rw [hp]; exact own⟩
    · have hp : oneP b = [] := by rw [oneP, if_neg (by rw [he]; exact h0)]
      exact ⟨none, 0, by rw [he, hp]; rfl, by rw [hp]; exact own.nil_row⟩
  · have he : oneE b = 2 := by rw [oneE, if_neg hv]
    have hp : oneP b = [] := by rw [oneP, if_neg (by rw [he]; decide)]
    refine (rone_short (by omega)).mono ?_
    rintro e w' ⟨rfl, rfl⟩
    exact ⟨none, 0, by rw [he, hp]; rfl, by rw [hp]; exact h.nil_row⟩

theorem samebytes_own {L : List SP} {A B : Option Addr} {ca cb : Nat} (xs ys : List UInt8) (h : Own S w0 w L) (hx : Rd w A (bts xs)) (hy : Rd w B (bts ys)) (hl : xs.length ≤ 1000000000) :
    Calls Try.prog 16 #[.slice A xs.length ca, .slice B ys.length cb] w fun e w' => e = .returned (.bool (decide (xs = ys))) ∧ Own S w0 w' L :=
  (samebytes_calls w A B ca cb xs ys hx hy hl).mono fun e w' ⟨he, d, hw⟩ => ⟨he, by subst hw; exact Own.drewN h d⟩
theorem same_own {L : List SP} {A B : Option Addr} {ca cb : Nat} {xs : List UInt8} (h : Own S w0 w L) (hx : Rd w A (bts xs)) (hy : Rd w B (bts xs)) (hl : xs.length ≤ 1000000000) :
    Calls Try.prog 16 #[.slice A xs.length ca, .slice B xs.length cb] w fun e w' => e = .returned (.bool true) ∧ Own S w0 w' L := by
  have := samebytes_own (ca := ca) (cb := cb) xs xs h hx hy hl
  simpa only [decide_true] using this
theorem kept_own {L : List SP} {A B : Option Addr} {c cb : Nat} {b : List UInt8} (h : Own S w0 w L) (hA : Rd w A (bts (b ++ [201]))) (hB : Rd w B (bts b)) (hbl : b.length ≤ 100000000) (hc : b.length + 1 ≤ c) (hc2 : c ≤ maxLen) :
    Calls Try.prog 17 #[.slice A b.length c, .slice B b.length cb] w fun e w' => e = .returned (.bool true) ∧ Own S w0 w' L :=
  (kept_true hA hB hbl hc (by unfold maxLen at hc2; exact hc2)).mono fun e w' ⟨he, d, hw⟩ => ⟨he, by subst hw; exact Own.drewN h d⟩
end
end Go.Proofs.Ytonomljdljcmaaa
