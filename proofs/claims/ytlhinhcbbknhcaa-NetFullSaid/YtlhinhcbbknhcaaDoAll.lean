/-
  does of chapter 14, kind any: the network and the document's answer the same, and stay the same.
  Conditions: the two are beside each other (Tw); the operation lies in memory as it was handed in.
-/
import Derived.Test.YtlhinhcbbknhcaaDoS
import Derived.Test.YtlhinhcbbknhcaaDoT
import Derived.Test.YtlhinhcbbknhcaaOps
import Derived.Deep.Cut
namespace Go.Proofs.Ytlhinhcbbknhcaa
set_option linter.unusedVariables false
set_option linter.unusedSimpArgs false
open Go.RowKit

section
variable {W0 w : World} {R : List SP} {g gr k : Nat} {nodes last : Int} {cut : List Bool} {C : List (Int × Int)} {L : List M}
theorem does_own (t : Tw nodes last cut C L k) (hkk : k ≤ 1000000) (kd a b : Int) (up : Bool) (Ad : Option Addr) (cd : Nat) (dat : List UInt8) (hD : dat.length ≤ cd ∧ cd ≤ maxLen ∧ dat.length ≤ 140737488351232 ∧ Rd W0 Ad (bts dat)) (hi : In64 kd ∧ In64 a ∧ In64 b) (h : Own (fun _ => False) W0 w (SP.net g nodes cut last L :: SP.rnet gr nodes last L C :: R)) :
    Calls Try.prog 17 #[.pointer (some ⟨g, 0, none⟩), .pointer (some ⟨gr, 0, none⟩), .agg #[.int .i64 kd, .int .i64 a, .int .i64 b, .bool up, .slice Ad dat.length cd]] w fun e w' => ∃ last' cut' C' L', e = .returned (.bool true) ∧ Tw nodes last' cut' C' L' (k + 1) ∧ Own (fun _ => False) W0 w' (SP.net g nodes cut' last' L' :: SP.rnet gr nodes last' L' C' :: R) := by
  by_cases hk0 : kd = 0
  · exact do0_own t hkk kd a b up Ad cd dat hD hi hk0 h
  by_cases hk1 : kd = 1
  · exact do1_own t hkk kd a b up Ad cd dat hD hi hk1 h
  by_cases hk2 : kd = 2
  · exact do2_own t hkk kd a b up Ad cd dat hD hi hk2 h
  by_cases hk3 : kd = 3
  · exact do3_own t hkk kd a b up Ad cd dat hD hi hk3 h
  by_cases hk4 : kd = 4
  · exact do4_own t hkk kd a b up Ad cd dat hD hi hk4 h
  by_cases hk5 : kd = 5
  · exact do5_own t hkk kd a b up Ad cd dat hD hi hk5 h
  by_cases hk6 : kd = 6
  · exact do6_own t hkk kd a b up Ad cd dat hD hi hk6 h
  by_cases hk7 : kd = 7
  · exact do7_own t hkk kd a b up Ad cd dat hD hi hk7 h
  exact doE_own t hkk kd a b up Ad cd dat hD hi ⟨hk0, hk1, hk2, hk3, hk4, hk5, hk6, hk7⟩ h
end
end Go.Proofs.Ytlhinhcbbknhcaa
