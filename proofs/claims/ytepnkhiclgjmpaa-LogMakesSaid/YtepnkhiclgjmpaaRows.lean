/-
  No cell of these rows narrows 'for every input' (looked for: loops, veiled, ifaces, maps, wideKeys, modest, calm, conditions, laid).
  DERIVED. THE GIVEN ROWS OF THIS SEAT. 9 by the template 'for every input the law returns true; each argument reads behind the call as it read before'; 0 by the template 'total and deterministic' (their statements: YtepnkhiclgjmpaaTotals.lean).
  GIVEN WITH THE SEED: the statements are not yours to turn. If you find one false, say at which input.
  Laid BY PROGRAM, IN A SANDBOX (cutbox-rows.mjs): the forced cells as the released guide's own fill.sh prints them over the translation 605db6f31020bd15… (all of the seat's roots in one cut). By AI agents, Wed Nov 11 2026. No macro, syntax, notation, axiom, sorry.
-/
import Derived.Test.YtepnkhiclgjmpaaChecked
import GoSem.Claim
import GoSem.ClaimJoined
import GoSem.ClaimMapViews
import Derived.JoinedTies
import Derived.KernelRfl
namespace Go.Proofs.Ytepnkhiclgjmpaa
/- THE CELL 'sum', in the pinned program and in every row, IS THE sha256 OF THE DUMP (.gsa) THAT YtepnkhiclgjmpaaProg.lean LOADS. Nothing in Lean hashes anything: it is a label: what it is worth is what the hold of that sum in a sandbox is worth. -/
noncomputable def Try.pinned : Pinned := { name := "ytepnkhiclgjmpaa", sum := "605db6f31020bd15383340a0bdbe3b3f9bcaa43293bca7674b9aa83636cebc67", checked := Try.checked }
namespace Rows
def none {H : Type} : Left H := { results := [], args := [] }

/-- 'synodlaw8.LogFull': WHATEVER THE INPUT: true; the input reads as it did. -/
def logFullSpec : ChangeSpec := { name := "logFull", fn := fun _ => fun
  | [d1, d2] => { results := [.lit (.bool true)], args := [d1, d2] }
  | _ => none }
def logFullRow : OpenClaim := { program := "ytepnkhiclgjmpaa", sum := "605db6f31020bd15383340a0bdbe3b3f9bcaa43293bca7674b9aa83636cebc67", func := "synod/synodlaw8.LogFull", spec := "logFull", apart := false }
def LogFullSaid : Prop := logFullRow.holds Try.pinned (OpenSpec.ofChange logFullSpec)

/-- ITS FALSE NEIGHBOUR: 'it returns false'. Refute it at one input. -/
def logFullWrong : ChangeSpec := { name := "logFull", fn := fun _ => fun
  | [d1, d2] => { results := [.lit (.bool false)], args := [d1, d2] }
  | _ => none }
def LogFullWrongFalsely : Prop := logFullRow.holds Try.pinned (OpenSpec.ofChange logFullWrong)

/-- 'synodlaw8.LogHints': WHATEVER THE INPUT: true; the input reads as it did. -/
def logHintsSpec : ChangeSpec := { name := "logHints", fn := fun _ => fun
  | [d1, d2, d3] => { results := [.lit (.bool true)], args := [d1, d2, d3] }
  | _ => none }
def logHintsRow : OpenClaim := { program := "ytepnkhiclgjmpaa", sum := "605db6f31020bd15383340a0bdbe3b3f9bcaa43293bca7674b9aa83636cebc67", func := "synod/synodlaw8.LogHints", spec := "logHints", apart := false }
def LogHintsSaid : Prop := logHintsRow.holds Try.pinned (OpenSpec.ofChange logHintsSpec)

/-- ITS FALSE NEIGHBOUR: 'it returns false'. Refute it at one input. -/
def logHintsWrong : ChangeSpec := { name := "logHints", fn := fun _ => fun
  | [d1, d2, d3] => { results := [.lit (.bool false)], args := [d1, d2, d3] }
  | _ => none }
def LogHintsWrongFalsely : Prop := logHintsRow.holds Try.pinned (OpenSpec.ofChange logHintsWrong)

/-- 'synodlaw8.LogNewer': WHATEVER THE INPUT: true; the input reads as it did. -/
def logNewerSpec : ChangeSpec := { name := "logNewer", fn := fun _ => fun
  | [d1, d2] => { results := [.lit (.bool true)], args := [d1, d2] }
  | _ => none }
def logNewerRow : OpenClaim := { program := "ytepnkhiclgjmpaa", sum := "605db6f31020bd15383340a0bdbe3b3f9bcaa43293bca7674b9aa83636cebc67", func := "synod/synodlaw8.LogNewer", spec := "logNewer", apart := false }
def LogNewerSaid : Prop := logNewerRow.holds Try.pinned (OpenSpec.ofChange logNewerSpec)

/-- ITS FALSE NEIGHBOUR: 'it returns false'. Refute it at one input. -/
def logNewerWrong : ChangeSpec := { name := "logNewer", fn := fun _ => fun
  | [d1, d2] => { results := [.lit (.bool false)], args := [d1, d2] }
  | _ => none }
def LogNewerWrongFalsely : Prop := logNewerRow.holds Try.pinned (OpenSpec.ofChange logNewerWrong)

/-- 'synodlaw8.LogMatching': WHATEVER THE INPUT: true; the input reads as it did. -/
def logMatchingSpec : ChangeSpec := { name := "logMatching", fn := fun _ => fun
  | [d] => { results := [.lit (.bool true)], args := [d] }
  | _ => none }
def logMatchingRow : OpenClaim := { program := "ytepnkhiclgjmpaa", sum := "605db6f31020bd15383340a0bdbe3b3f9bcaa43293bca7674b9aa83636cebc67", func := "synod/synodlaw8.LogMatching", spec := "logMatching", apart := false }
def LogMatchingSaid : Prop := logMatchingRow.holds Try.pinned (OpenSpec.ofChange logMatchingSpec)

/-- ITS FALSE NEIGHBOUR: 'it returns false'. Refute it at one input. -/
def logMatchingWrong : ChangeSpec := { name := "logMatching", fn := fun _ => fun
  | [d] => { results := [.lit (.bool false)], args := [d] }
  | _ => none }
def LogMatchingWrongFalsely : Prop := logMatchingRow.holds Try.pinned (OpenSpec.ofChange logMatchingWrong)

/-- 'synodlaw8.LogTwice': WHATEVER THE INPUT: true; the input reads as it did. -/
def logTwiceSpec : ChangeSpec := { name := "logTwice", fn := fun _ => fun
  | [d1, d2, d3, d4, d5] => { results := [.lit (.bool true)], args := [d1, d2, d3, d4, d5] }
  | _ => none }
def logTwiceRow : OpenClaim := { program := "ytepnkhiclgjmpaa", sum := "605db6f31020bd15383340a0bdbe3b3f9bcaa43293bca7674b9aa83636cebc67", func := "synod/synodlaw8.LogTwice", spec := "logTwice", apart := false }
def LogTwiceSaid : Prop := logTwiceRow.holds Try.pinned (OpenSpec.ofChange logTwiceSpec)

/-- ITS FALSE NEIGHBOUR: 'it returns false'. Refute it at one input. -/
def logTwiceWrong : ChangeSpec := { name := "logTwice", fn := fun _ => fun
  | [d1, d2, d3, d4, d5] => { results := [.lit (.bool false)], args := [d1, d2, d3, d4, d5] }
  | _ => none }
def LogTwiceWrongFalsely : Prop := logTwiceRow.holds Try.pinned (OpenSpec.ofChange logTwiceWrong)

/-- 'synodlaw8.LogHands': WHATEVER THE INPUT: true; the input reads as it did. -/
def logHandsSpec : ChangeSpec := { name := "logHands", fn := fun _ => fun
  | [d] => { results := [.lit (.bool true)], args := [d] }
  | _ => none }
def logHandsRow : OpenClaim := { program := "ytepnkhiclgjmpaa", sum := "605db6f31020bd15383340a0bdbe3b3f9bcaa43293bca7674b9aa83636cebc67", func := "synod/synodlaw8.LogHands", spec := "logHands", apart := false }
def LogHandsSaid : Prop := logHandsRow.holds Try.pinned (OpenSpec.ofChange logHandsSpec)

/-- ITS FALSE NEIGHBOUR: 'it returns false'. Refute it at one input. -/
def logHandsWrong : ChangeSpec := { name := "logHands", fn := fun _ => fun
  | [d] => { results := [.lit (.bool false)], args := [d] }
  | _ => none }
def LogHandsWrongFalsely : Prop := logHandsRow.holds Try.pinned (OpenSpec.ofChange logHandsWrong)

/-- 'synodlaw8.LogOrder': WHATEVER THE INPUT: true; the input reads as it did. -/
def logOrderSpec : ChangeSpec := { name := "logOrder", fn := fun _ => fun
  | [d] => { results := [.lit (.bool true)], args := [d] }
  | _ => none }
def logOrderRow : OpenClaim := { program := "ytepnkhiclgjmpaa", sum := "605db6f31020bd15383340a0bdbe3b3f9bcaa43293bca7674b9aa83636cebc67", func := "synod/synodlaw8.LogOrder", spec := "logOrder", apart := false }
def LogOrderSaid : Prop := logOrderRow.holds Try.pinned (OpenSpec.ofChange logOrderSpec)

/-- ITS FALSE NEIGHBOUR: 'it returns false'. Refute it at one input. -/
def logOrderWrong : ChangeSpec := { name := "logOrder", fn := fun _ => fun
  | [d] => { results := [.lit (.bool false)], args := [d] }
  | _ => none }
def LogOrderWrongFalsely : Prop := logOrderRow.holds Try.pinned (OpenSpec.ofChange logOrderWrong)

/-- 'synodlaw8.LogPlays': WHATEVER THE INPUT: true; the input reads as it did. -/
def logPlaysSpec : ChangeSpec := { name := "logPlays", fn := fun _ => fun
  | [d] => { results := [.lit (.bool true)], args := [d] }
  | _ => none }
def logPlaysRow : OpenClaim := { program := "ytepnkhiclgjmpaa", sum := "605db6f31020bd15383340a0bdbe3b3f9bcaa43293bca7674b9aa83636cebc67", func := "synod/synodlaw8.LogPlays", spec := "logPlays", unfollowed := true, recurses := true, apart := false }
def LogPlaysSaid : Prop := logPlaysRow.holds Try.pinned (OpenSpec.ofChange logPlaysSpec)

/-- ITS FALSE NEIGHBOUR: 'it returns false'. Refute it at one input. -/
def logPlaysWrong : ChangeSpec := { name := "logPlays", fn := fun _ => fun
  | [d] => { results := [.lit (.bool false)], args := [d] }
  | _ => none }
def LogPlaysWrongFalsely : Prop := logPlaysRow.holds Try.pinned (OpenSpec.ofChange logPlaysWrong)

/-- 'synodlaw8.LogMakes': WHATEVER THE INPUT: true; the input reads as it did. -/
def logMakesSpec : ChangeSpec := { name := "logMakes", fn := fun _ => fun
  | [d1, d2, d3, d4, d5] => { results := [.lit (.bool true)], args := [d1, d2, d3, d4, d5] }
  | _ => none }
def logMakesRow : OpenClaim := { program := "ytepnkhiclgjmpaa", sum := "605db6f31020bd15383340a0bdbe3b3f9bcaa43293bca7674b9aa83636cebc67", func := "synod/synodlaw8.LogMakes", spec := "logMakes", unfollowed := true, recurses := true, apart := false }
def LogMakesSaid : Prop := logMakesRow.holds Try.pinned (OpenSpec.ofChange logMakesSpec)

/-- ITS FALSE NEIGHBOUR: 'it returns false'. Refute it at one input. -/
def logMakesWrong : ChangeSpec := { name := "logMakes", fn := fun _ => fun
  | [d1, d2, d3, d4, d5] => { results := [.lit (.bool false)], args := [d1, d2, d3, d4, d5] }
  | _ => none }
def LogMakesWrongFalsely : Prop := logMakesRow.holds Try.pinned (OpenSpec.ofChange logMakesWrong)

/- THE SECOND FORM. 'bulk': how many values and letters a reading holds, each counted each time it is reached (what is shared counts as often as it is met; a slice's spare places count too). A statement '..UptoSaid' is the law's where the arguments, and the package variables that the reading takes, are together of bulk at most 1048576: NARROWER than '..Said'. Prove '..Said' where nothing that the law and all that it calls make is longer than what came in: it says more and counts as full. Else prove '..UptoSaid'. A law counts once. -/
mutual
def uptoBulk {H : Type} : DataW H → Nat
  | .lit (.string bytes) => bytes.length + 1
  | .lit _ => 1
  | .nil => 1
  | .ptr d => uptoBulk d + 1
  | .slice elems spare => uptoBulkAll elems + uptoBulkAll spare + 1
  | .agg parts => uptoBulkAll parts + 1
  | .iface _ d => uptoBulk d + 1
  | .map entries => uptoBulkEntries entries + 1
  | .held _ => 1
def uptoBulkAll {H : Type} : List (DataW H) → Nat
  | [] => 0
  | d :: r => uptoBulk d + uptoBulkAll r
def uptoBulkEntries {H : Type} : List (Lit × DataW H) → Nat
  | [] => 0
  | x :: r => uptoBulkEntry x + uptoBulkEntries r
def uptoBulkEntry {H : Type} : Lit × DataW H → Nat
  | (.string bytes, d) => bytes.length + uptoBulk d + 1
  | (_, d) => uptoBulk d + 1
 end
def uptoSmall : (H : Type) → List (DataW H) → Bool := fun _ ds => decide (uptoBulkAll ds ≤ 1048576)
def OpenSpec.upto (s : _root_.Go.ChangeSpec) : _root_.Go.OpenSpec := { _root_.Go.OpenSpec.ofChange s with cond := some uptoSmall }

/-- 'synodlaw8.LogFull', WHERE WHAT IT READS IS OF BULK AT MOST 1048576: true; the input reads as it did. -/
def logFullUptoRow : OpenClaim := { program := "ytepnkhiclgjmpaa", sum := "605db6f31020bd15383340a0bdbe3b3f9bcaa43293bca7674b9aa83636cebc67", func := "synod/synodlaw8.LogFull", spec := "logFull", apart := false, narrowed := true }
def LogFullUptoSaid : Prop := logFullUptoRow.holds Try.pinned (OpenSpec.upto logFullSpec)

/-- 'synodlaw8.LogHints', WHERE WHAT IT READS IS OF BULK AT MOST 1048576: true; the input reads as it did. -/
def logHintsUptoRow : OpenClaim := { program := "ytepnkhiclgjmpaa", sum := "605db6f31020bd15383340a0bdbe3b3f9bcaa43293bca7674b9aa83636cebc67", func := "synod/synodlaw8.LogHints", spec := "logHints", apart := false, narrowed := true }
def LogHintsUptoSaid : Prop := logHintsUptoRow.holds Try.pinned (OpenSpec.upto logHintsSpec)

/-- 'synodlaw8.LogNewer', WHERE WHAT IT READS IS OF BULK AT MOST 1048576: true; the input reads as it did. -/
def logNewerUptoRow : OpenClaim := { program := "ytepnkhiclgjmpaa", sum := "605db6f31020bd15383340a0bdbe3b3f9bcaa43293bca7674b9aa83636cebc67", func := "synod/synodlaw8.LogNewer", spec := "logNewer", apart := false, narrowed := true }
def LogNewerUptoSaid : Prop := logNewerUptoRow.holds Try.pinned (OpenSpec.upto logNewerSpec)

/-- 'synodlaw8.LogMatching', WHERE WHAT IT READS IS OF BULK AT MOST 1048576: true; the input reads as it did. -/
def logMatchingUptoRow : OpenClaim := { program := "ytepnkhiclgjmpaa", sum := "605db6f31020bd15383340a0bdbe3b3f9bcaa43293bca7674b9aa83636cebc67", func := "synod/synodlaw8.LogMatching", spec := "logMatching", apart := false, narrowed := true }
def LogMatchingUptoSaid : Prop := logMatchingUptoRow.holds Try.pinned (OpenSpec.upto logMatchingSpec)

/-- 'synodlaw8.LogTwice', WHERE WHAT IT READS IS OF BULK AT MOST 1048576: true; the input reads as it did. -/
def logTwiceUptoRow : OpenClaim := { program := "ytepnkhiclgjmpaa", sum := "605db6f31020bd15383340a0bdbe3b3f9bcaa43293bca7674b9aa83636cebc67", func := "synod/synodlaw8.LogTwice", spec := "logTwice", apart := false, narrowed := true }
def LogTwiceUptoSaid : Prop := logTwiceUptoRow.holds Try.pinned (OpenSpec.upto logTwiceSpec)

/-- 'synodlaw8.LogHands', WHERE WHAT IT READS IS OF BULK AT MOST 1048576: true; the input reads as it did. -/
def logHandsUptoRow : OpenClaim := { program := "ytepnkhiclgjmpaa", sum := "605db6f31020bd15383340a0bdbe3b3f9bcaa43293bca7674b9aa83636cebc67", func := "synod/synodlaw8.LogHands", spec := "logHands", apart := false, narrowed := true }
def LogHandsUptoSaid : Prop := logHandsUptoRow.holds Try.pinned (OpenSpec.upto logHandsSpec)

/-- 'synodlaw8.LogOrder', WHERE WHAT IT READS IS OF BULK AT MOST 1048576: true; the input reads as it did. -/
def logOrderUptoRow : OpenClaim := { program := "ytepnkhiclgjmpaa", sum := "605db6f31020bd15383340a0bdbe3b3f9bcaa43293bca7674b9aa83636cebc67", func := "synod/synodlaw8.LogOrder", spec := "logOrder", apart := false, narrowed := true }
def LogOrderUptoSaid : Prop := logOrderUptoRow.holds Try.pinned (OpenSpec.upto logOrderSpec)

/-- 'synodlaw8.LogPlays', WHERE WHAT IT READS IS OF BULK AT MOST 1048576: true; the input reads as it did. -/
def logPlaysUptoRow : OpenClaim := { program := "ytepnkhiclgjmpaa", sum := "605db6f31020bd15383340a0bdbe3b3f9bcaa43293bca7674b9aa83636cebc67", func := "synod/synodlaw8.LogPlays", spec := "logPlays", unfollowed := true, recurses := true, apart := false, narrowed := true }
def LogPlaysUptoSaid : Prop := logPlaysUptoRow.holds Try.pinned (OpenSpec.upto logPlaysSpec)

/-- 'synodlaw8.LogMakes', WHERE WHAT IT READS IS OF BULK AT MOST 1048576: true; the input reads as it did. -/
def logMakesUptoRow : OpenClaim := { program := "ytepnkhiclgjmpaa", sum := "605db6f31020bd15383340a0bdbe3b3f9bcaa43293bca7674b9aa83636cebc67", func := "synod/synodlaw8.LogMakes", spec := "logMakes", unfollowed := true, recurses := true, apart := false, narrowed := true }
def LogMakesUptoSaid : Prop := logMakesUptoRow.holds Try.pinned (OpenSpec.upto logMakesSpec)

end Rows
end Go.Proofs.Ytepnkhiclgjmpaa
