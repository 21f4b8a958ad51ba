/-
  No cell of these rows narrows 'for every input' (looked for: loops, veiled, ifaces, maps, wideKeys, modest, calm, conditions, laid).
  DERIVED. THE GIVEN ROWS OF THIS SEAT. 8 by the template 'for every input the law returns true; each argument reads behind the call as it read before'; 0 by the template 'total and deterministic' (their statements: YtonomljdljcmaaaTotals.lean).
  GIVEN WITH THE SEED: the statements are not yours to turn. If you find one false, say at which input.
  Laid BY PROGRAM, IN A SANDBOX (cutbox-rows.mjs): the forced cells as the released guide's own fill.sh prints them over the translation 4532f953ae3f585d… (all of the seat's roots in one cut). By AI agents, Wed Nov 11 2026. No macro, syntax, notation, axiom, sorry.
-/
import Derived.Test.YtonomljdljcmaaaChecked
import GoSem.Claim
import GoSem.ClaimJoined
import GoSem.ClaimMapViews
import Derived.JoinedTies
import Derived.KernelRfl
namespace Go.Proofs.Ytonomljdljcmaaa
/- THE CELL 'sum', in the pinned program and in every row, IS THE sha256 OF THE DUMP (.gsa) THAT YtonomljdljcmaaaProg.lean LOADS. Nothing in Lean hashes anything: it is a label: what it is worth is what the hold of that sum in a sandbox is worth. -/
noncomputable def Try.pinned : Pinned := { name := "ytonomljdljcmaaa", sum := "4532f953ae3f585d3aa105093b27c0903c4bd1400e7ed2a6b3198aba07a4cedf", checked := Try.checked }
namespace Rows
def none {H : Type} : Left H := { results := [], args := [] }

/-- 'synodlaw2.FrameSums': WHATEVER THE INPUT: true; the input reads as it did. -/
def frameSumsSpec : ChangeSpec := { name := "frameSums", fn := fun _ => fun
  | [d] => { results := [.lit (.bool true)], args := [d] }
  | _ => none }
def frameSumsRow : OpenClaim := { program := "ytonomljdljcmaaa", sum := "4532f953ae3f585d3aa105093b27c0903c4bd1400e7ed2a6b3198aba07a4cedf", func := "synod/synodlaw2.FrameSums", spec := "frameSums", unfollowed := true, recurses := true, apart := false }
def FrameSumsSaid : Prop := frameSumsRow.holds Try.pinned (OpenSpec.ofChange frameSumsSpec)

/-- ITS FALSE NEIGHBOUR: 'it returns false'. Refute it at one input. -/
def frameSumsWrong : ChangeSpec := { name := "frameSums", fn := fun _ => fun
  | [d] => { results := [.lit (.bool false)], args := [d] }
  | _ => none }
def FrameSumsWrongFalsely : Prop := frameSumsRow.holds Try.pinned (OpenSpec.ofChange frameSumsWrong)

/-- 'synodlaw2.FrameGets': WHATEVER THE INPUT: true; the input reads as it did. -/
def frameGetsSpec : ChangeSpec := { name := "frameGets", fn := fun _ => fun
  | [d1, d2] => { results := [.lit (.bool true)], args := [d1, d2] }
  | _ => none }
def frameGetsRow : OpenClaim := { program := "ytonomljdljcmaaa", sum := "4532f953ae3f585d3aa105093b27c0903c4bd1400e7ed2a6b3198aba07a4cedf", func := "synod/synodlaw2.FrameGets", spec := "frameGets", unfollowed := true, recurses := true, apart := false }
def FrameGetsSaid : Prop := frameGetsRow.holds Try.pinned (OpenSpec.ofChange frameGetsSpec)

/-- ITS FALSE NEIGHBOUR: 'it returns false'. Refute it at one input. -/
def frameGetsWrong : ChangeSpec := { name := "frameGets", fn := fun _ => fun
  | [d1, d2] => { results := [.lit (.bool false)], args := [d1, d2] }
  | _ => none }
def FrameGetsWrongFalsely : Prop := frameGetsRow.holds Try.pinned (OpenSpec.ofChange frameGetsWrong)

/-- 'synodlaw2.FrameSpoilt': WHATEVER THE INPUT: true; the input reads as it did. -/
def frameSpoiltSpec : ChangeSpec := { name := "frameSpoilt", fn := fun _ => fun
  | [d1, d2] => { results := [.lit (.bool true)], args := [d1, d2] }
  | _ => none }
def frameSpoiltRow : OpenClaim := { program := "ytonomljdljcmaaa", sum := "4532f953ae3f585d3aa105093b27c0903c4bd1400e7ed2a6b3198aba07a4cedf", func := "synod/synodlaw2.FrameSpoilt", spec := "frameSpoilt", unfollowed := true, recurses := true, apart := false }
def FrameSpoiltSaid : Prop := frameSpoiltRow.holds Try.pinned (OpenSpec.ofChange frameSpoiltSpec)

/-- ITS FALSE NEIGHBOUR: 'it returns false'. Refute it at one input. -/
def frameSpoiltWrong : ChangeSpec := { name := "frameSpoilt", fn := fun _ => fun
  | [d1, d2] => { results := [.lit (.bool false)], args := [d1, d2] }
  | _ => none }
def FrameSpoiltWrongFalsely : Prop := frameSpoiltRow.holds Try.pinned (OpenSpec.ofChange frameSpoiltWrong)

/-- 'synodlaw2.FrameBehind': WHATEVER THE INPUT: true; the input reads as it did. -/
def frameBehindSpec : ChangeSpec := { name := "frameBehind", fn := fun _ => fun
  | [d1, d2] => { results := [.lit (.bool true)], args := [d1, d2] }
  | _ => none }
def frameBehindRow : OpenClaim := { program := "ytonomljdljcmaaa", sum := "4532f953ae3f585d3aa105093b27c0903c4bd1400e7ed2a6b3198aba07a4cedf", func := "synod/synodlaw2.FrameBehind", spec := "frameBehind", unfollowed := true, recurses := true, apart := false }
def FrameBehindSaid : Prop := frameBehindRow.holds Try.pinned (OpenSpec.ofChange frameBehindSpec)

/-- ITS FALSE NEIGHBOUR: 'it returns false'. Refute it at one input. -/
def frameBehindWrong : ChangeSpec := { name := "frameBehind", fn := fun _ => fun
  | [d1, d2] => { results := [.lit (.bool false)], args := [d1, d2] }
  | _ => none }
def FrameBehindWrongFalsely : Prop := frameBehindRow.holds Try.pinned (OpenSpec.ofChange frameBehindWrong)

/-- 'synodlaw2.FrameAlls': WHATEVER THE INPUT: true; the input reads as it did. -/
def frameAllsSpec : ChangeSpec := { name := "frameAlls", fn := fun _ => fun
  | [d1, d2] => { results := [.lit (.bool true)], args := [d1, d2] }
  | _ => none }
def frameAllsRow : OpenClaim := { program := "ytonomljdljcmaaa", sum := "4532f953ae3f585d3aa105093b27c0903c4bd1400e7ed2a6b3198aba07a4cedf", func := "synod/synodlaw2.FrameAlls", spec := "frameAlls", unfollowed := true, recurses := true, apart := false }
def FrameAllsSaid : Prop := frameAllsRow.holds Try.pinned (OpenSpec.ofChange frameAllsSpec)

/-- ITS FALSE NEIGHBOUR: 'it returns false'. Refute it at one input. -/
def frameAllsWrong : ChangeSpec := { name := "frameAlls", fn := fun _ => fun
  | [d1, d2] => { results := [.lit (.bool false)], args := [d1, d2] }
  | _ => none }
def FrameAllsWrongFalsely : Prop := frameAllsRow.holds Try.pinned (OpenSpec.ofChange frameAllsWrong)

/-- 'synodlaw2.FrameJoins': WHATEVER THE INPUT: true; the input reads as it did. -/
def frameJoinsSpec : ChangeSpec := { name := "frameJoins", fn := fun _ => fun
  | [d] => { results := [.lit (.bool true)], args := [d] }
  | _ => none }
def frameJoinsRow : OpenClaim := { program := "ytonomljdljcmaaa", sum := "4532f953ae3f585d3aa105093b27c0903c4bd1400e7ed2a6b3198aba07a4cedf", func := "synod/synodlaw2.FrameJoins", spec := "frameJoins", unfollowed := true, recurses := true, apart := false }
def FrameJoinsSaid : Prop := frameJoinsRow.holds Try.pinned (OpenSpec.ofChange frameJoinsSpec)

/-- ITS FALSE NEIGHBOUR: 'it returns false'. Refute it at one input. -/
def frameJoinsWrong : ChangeSpec := { name := "frameJoins", fn := fun _ => fun
  | [d] => { results := [.lit (.bool false)], args := [d] }
  | _ => none }
def FrameJoinsWrongFalsely : Prop := frameJoinsRow.holds Try.pinned (OpenSpec.ofChange frameJoinsWrong)

/-- 'synodlaw2.FrameLong': WHATEVER THE INPUT: true; the input reads as it did. -/
def frameLongSpec : ChangeSpec := { name := "frameLong", fn := fun _ => fun
  | [d1, d2] => { results := [.lit (.bool true)], args := [d1, d2] }
  | _ => none }
def frameLongRow : OpenClaim := { program := "ytonomljdljcmaaa", sum := "4532f953ae3f585d3aa105093b27c0903c4bd1400e7ed2a6b3198aba07a4cedf", func := "synod/synodlaw2.FrameLong", spec := "frameLong", unfollowed := true, recurses := true, apart := false }
def FrameLongSaid : Prop := frameLongRow.holds Try.pinned (OpenSpec.ofChange frameLongSpec)

/-- ITS FALSE NEIGHBOUR: 'it returns false'. Refute it at one input. -/
def frameLongWrong : ChangeSpec := { name := "frameLong", fn := fun _ => fun
  | [d1, d2] => { results := [.lit (.bool false)], args := [d1, d2] }
  | _ => none }
def FrameLongWrongFalsely : Prop := frameLongRow.holds Try.pinned (OpenSpec.ofChange frameLongWrong)

/-- 'synodlaw2.FrameBack': WHATEVER THE INPUT: true; the input reads as it did. -/
def frameBackSpec : ChangeSpec := { name := "frameBack", fn := fun _ => fun
  | [d1, d2] => { results := [.lit (.bool true)], args := [d1, d2] }
  | _ => none }
def frameBackRow : OpenClaim := { program := "ytonomljdljcmaaa", sum := "4532f953ae3f585d3aa105093b27c0903c4bd1400e7ed2a6b3198aba07a4cedf", func := "synod/synodlaw2.FrameBack", spec := "frameBack", unfollowed := true, recurses := true, apart := false }
def FrameBackSaid : Prop := frameBackRow.holds Try.pinned (OpenSpec.ofChange frameBackSpec)

/-- ITS FALSE NEIGHBOUR: 'it returns false'. Refute it at one input. -/
def frameBackWrong : ChangeSpec := { name := "frameBack", fn := fun _ => fun
  | [d1, d2] => { results := [.lit (.bool false)], args := [d1, d2] }
  | _ => none }
def FrameBackWrongFalsely : Prop := frameBackRow.holds Try.pinned (OpenSpec.ofChange frameBackWrong)

/- THE SECOND FORM. 'bulk': how many values and letters a reading holds, each counted each time it is reached (what is shared counts as often as it is met; a slice's spare places count too). A statement '..UptoSaid' is the law's where the arguments, and the package variables that the reading takes, are together of bulk at most 1048576: NARROWER than '..Said'. Prove '..Said' where nothing that the law and all that it calls make is longer than what came in: it says more and counts as full. Else prove '..UptoSaid'. A law counts once. -/
mutual
def uptoBulk {H : Type} : DataW H → Nat
  | .lit (.string bytes) => bytes.length + 1
  | .lit _ => 1
  | .nil => 1
  | .ptr d => uptoBulk d + 1
  | .slice elems spare => uptoBulkAll elems + uptoBulkAll spare + 1
  | .agg parts => uptoBulkAll parts + 1
  | .iface _ d => uptoBulk d + 1
  | .map entries => uptoBulkEntries entries + 1
  | .held _ => 1
def uptoBulkAll {H : Type} : List (DataW H) → Nat
  | [] => 0
  | d :: r => uptoBulk d + uptoBulkAll r
def uptoBulkEntries {H : Type} : List (Lit × DataW H) → Nat
  | [] => 0
  | x :: r => uptoBulkEntry x + uptoBulkEntries r
def uptoBulkEntry {H : Type} : Lit × DataW H → Nat
  | (.string bytes, d) => bytes.length + uptoBulk d + 1
  | (_, d) => uptoBulk d + 1
 end
def uptoSmall : (H : Type) → List (DataW H) → Bool := fun _ ds => decide (uptoBulkAll ds ≤ 1048576)
def OpenSpec.upto (s : _root_.Go.ChangeSpec) : _root_.Go.OpenSpec := { _root_.Go.OpenSpec.ofChange s with cond := some uptoSmall }

/-- 'synodlaw2.FrameSums', WHERE WHAT IT READS IS OF BULK AT MOST 1048576: true; the input reads as it did. -/
def frameSumsUptoRow : OpenClaim := { program := "ytonomljdljcmaaa", sum := "4532f953ae3f585d3aa105093b27c0903c4bd1400e7ed2a6b3198aba07a4cedf", func := "synod/synodlaw2.FrameSums", spec := "frameSums", unfollowed := true, recurses := true, apart := false, narrowed := true }
def FrameSumsUptoSaid : Prop := frameSumsUptoRow.holds Try.pinned (OpenSpec.upto frameSumsSpec)

/-- 'synodlaw2.FrameGets', WHERE WHAT IT READS IS OF BULK AT MOST 1048576: true; the input reads as it did. -/
def frameGetsUptoRow : OpenClaim := { program := "ytonomljdljcmaaa", sum := "4532f953ae3f585d3aa105093b27c0903c4bd1400e7ed2a6b3198aba07a4cedf", func := "synod/synodlaw2.FrameGets", spec := "frameGets", unfollowed := true, recurses := true, apart := false, narrowed := true }
def FrameGetsUptoSaid : Prop := frameGetsUptoRow.holds Try.pinned (OpenSpec.upto frameGetsSpec)

/-- 'synodlaw2.FrameSpoilt', WHERE WHAT IT READS IS OF BULK AT MOST 1048576: true; the input reads as it did. -/
def frameSpoiltUptoRow : OpenClaim := { program := "ytonomljdljcmaaa", sum := "4532f953ae3f585d3aa105093b27c0903c4bd1400e7ed2a6b3198aba07a4cedf", func := "synod/synodlaw2.FrameSpoilt", spec := "frameSpoilt", unfollowed := true, recurses := true, apart := false, narrowed := true }
def FrameSpoiltUptoSaid : Prop := frameSpoiltUptoRow.holds Try.pinned (OpenSpec.upto frameSpoiltSpec)

/-- 'synodlaw2.FrameBehind', WHERE WHAT IT READS IS OF BULK AT MOST 1048576: true; the input reads as it did. -/
def frameBehindUptoRow : OpenClaim := { program := "ytonomljdljcmaaa", sum := "4532f953ae3f585d3aa105093b27c0903c4bd1400e7ed2a6b3198aba07a4cedf", func := "synod/synodlaw2.FrameBehind", spec := "frameBehind", unfollowed := true, recurses := true, apart := false, narrowed := true }
def FrameBehindUptoSaid : Prop := frameBehindUptoRow.holds Try.pinned (OpenSpec.upto frameBehindSpec)

/-- 'synodlaw2.FrameAlls', WHERE WHAT IT READS IS OF BULK AT MOST 1048576: true; the input reads as it did. -/
def frameAllsUptoRow : OpenClaim := { program := "ytonomljdljcmaaa", sum := "4532f953ae3f585d3aa105093b27c0903c4bd1400e7ed2a6b3198aba07a4cedf", func := "synod/synodlaw2.FrameAlls", spec := "frameAlls", unfollowed := true, recurses := true, apart := false, narrowed := true }
def FrameAllsUptoSaid : Prop := frameAllsUptoRow.holds Try.pinned (OpenSpec.upto frameAllsSpec)

/-- 'synodlaw2.FrameJoins', WHERE WHAT IT READS IS OF BULK AT MOST 1048576: true; the input reads as it did. -/
def frameJoinsUptoRow : OpenClaim := { program := "ytonomljdljcmaaa", sum := "4532f953ae3f585d3aa105093b27c0903c4bd1400e7ed2a6b3198aba07a4cedf", func := "synod/synodlaw2.FrameJoins", spec := "frameJoins", unfollowed := true, recurses := true, apart := false, narrowed := true }
def FrameJoinsUptoSaid : Prop := frameJoinsUptoRow.holds Try.pinned (OpenSpec.upto frameJoinsSpec)

/-- 'synodlaw2.FrameLong', WHERE WHAT IT READS IS OF BULK AT MOST 1048576: true; the input reads as it did. -/
def frameLongUptoRow : OpenClaim := { program := "ytonomljdljcmaaa", sum := "4532f953ae3f585d3aa105093b27c0903c4bd1400e7ed2a6b3198aba07a4cedf", func := "synod/synodlaw2.FrameLong", spec := "frameLong", unfollowed := true, recurses := true, apart := false, narrowed := true }
def FrameLongUptoSaid : Prop := frameLongUptoRow.holds Try.pinned (OpenSpec.upto frameLongSpec)

/-- 'synodlaw2.FrameBack', WHERE WHAT IT READS IS OF BULK AT MOST 1048576: true; the input reads as it did. -/
def frameBackUptoRow : OpenClaim := { program := "ytonomljdljcmaaa", sum := "4532f953ae3f585d3aa105093b27c0903c4bd1400e7ed2a6b3198aba07a4cedf", func := "synod/synodlaw2.FrameBack", spec := "frameBack", unfollowed := true, recurses := true, apart := false, narrowed := true }
def FrameBackUptoSaid : Prop := frameBackUptoRow.holds Try.pinned (OpenSpec.upto frameBackSpec)

end Rows
end Go.Proofs.Ytonomljdljcmaaa
