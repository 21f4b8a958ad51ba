/-
  The network and the document's: Take, Drop, Send answer the same on both.
  Conditions: none beyond each theorem's own.
-/
import Derived.Test.YtlhinhcbbknhcaaBoth
import Derived.Test.YtlhinhcbbknhcaaRSnd
namespace Go.Proofs.Ytlhinhcbbknhcaa
set_option linter.unusedVariables false
set_option linter.unusedSimpArgs false
open Go.RowKit

def TakeC (f : FuncId) (i : Int) (r : Bool) (m : M) (A A' : Nat → SP) : Prop := ∀ (S : Nat → Prop) (w0 w : World) (R : List SP) (g : Nat), Own S w0 w (A g :: R) → Calls Try.prog f #[ptr g, .int .i64 i] w fun e w' => ∃ Ad cd, e = .returned (.tuple #[mailV m (.slice Ad m.dat.length cd), .bool r]) ∧ Own S w0 w' (A' g :: SP.row 5 1 (.slice Ad m.dat.length cd) (bts m.dat) :: R)
def SendC (f : FuncId) (a b : Int) (dat : List UInt8) (r : Bool) (A A' : Nat → SP) : Prop := ∀ (S : Nat → Prop) (w0 w : World) (R : List SP) (g : Nat) (B : Option Addr) (cb : Nat), Own S w0 w (A g :: R) → Reads S w0 R B dat → Calls Try.prog f #[ptr g, .int .i64 a, .int .i64 b, .slice B dat.length cb] w fun e w' => e = .returned (.bool r) ∧ Own S w0 w' (A' g :: R)
section
variable {nodes last : Int} {cut : List Bool} {C : List (Int × Int)} {L : List M} {k : Nat}
theorem both_take (t : Tw nodes last cut C L k) (i : Int) : ∃ r m L', Tw nodes last cut C L' (k + 1) ∧ m.dat.length ≤ 140737488351232 ∧ TakeC 13 i r m (fun g => SP.net g nodes cut last L) (fun g => SP.net g nodes cut last L') ∧ TakeC 34 i r m (fun g => SP.rnet g nodes last L C) (fun g => SP.rnet g nodes last L' C) ∧ Does1 21 (fun g => #[ptr g, .int .i64 i]) (.bool r) (fun g => SP.net g nodes cut last L) (fun g => SP.net g nodes cut last L') := by
  have h2 := t.ll
  by_cases hi : 0 ≤ i ∧ i < (L.length : Int)
  · obtain ⟨j, rfl⟩ := Int.eq_ofNat_of_zero_le hi.1
    obtain ⟨m, hm⟩ : ∃ m, L[j]? = some m := ⟨_, List.getElem?_eq_getElem (by omega)⟩
    have hd := t.dl m (List.mem_of_getElem? hm)
    exact ⟨true, m, L.eraseIdx j, t.row (by rw [List.length_eraseIdx]; split <;> omega) (fun x hx => t.dl x (List.mem_of_mem_eraseIdx hx)), hd, fun S w0 w R g o => take_yes (by omega) o j m hm, fun S w0 w R g o => rtake_yes (by omega) o j m hm, fun S w0 w R g o => drop_yes (by omega) o j m hm⟩
  · exact ⟨false, ⟨0, 0, 0, [], false⟩, L, t.more, by simp,
      fun S w0 w R g o => (take_no o i hi).mono fun e w' ⟨he, o'⟩ => ⟨none, 0, he, Own.swap (Own.nil_row o')⟩,
      fun S w0 w R g o => (rtake_no o i hi).mono fun e w' ⟨he, o'⟩ => ⟨none, 0, he, Own.swap (Own.nil_row o')⟩,
      fun S w0 w R g o => drop_no o i hi⟩
theorem both_send (t : Tw nodes last cut C L k) (hk : k ≤ 1000000) (a b : Int) (dat : List UInt8) (hd : dat.length ≤ 140737488351232) : ∃ r last' L', Tw nodes last' cut C L' (k + 1) ∧ SendC 11 a b dat r (fun g => SP.net g nodes cut last L) (fun g => SP.net g nodes cut last' L') ∧ SendC 27 a b dat r (fun g => SP.rnet g nodes last L C) (fun g => SP.rnet g nodes last' L' C) := by
  have h0 := t.l0
  have h1 := t.l1
  refine ⟨sendB nodes cut L a b, _, _, t.add (sendB nodes cut L a b) (fun h => ?_) a b dat false hd, fun S w0 w R g B cb o hb => send_own t.n7 h0 (by omega) hd o hb, fun S w0 w R g B cb o hb => ?_⟩
  · rw [sendB, Bool.and_eq_true, decide_eq_true_iff] at h; exact h.2
  · have e : sendB nodes cut L a b = rsendB nodes C L a b := by rw [sendB, rsendB, t.al]
    rw [e]
    exact rsend_own (by have := t.cl; omega) h0 (by omega) hd o hb a b
end
end Go.Proofs.Ytlhinhcbbknhcaa
