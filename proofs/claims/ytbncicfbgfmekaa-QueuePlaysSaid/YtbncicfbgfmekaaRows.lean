/-
  No cell of these rows narrows 'for every input' (looked for: loops, veiled, ifaces, maps, wideKeys, modest, calm, conditions, laid).
  DERIVED. THE GIVEN ROWS OF THIS SEAT. 8 by the template 'for every input the law returns true; each argument reads behind the call as it read before'; 0 by the template 'total and deterministic' (their statements: YtbncicfbgfmekaaTotals.lean).
  GIVEN WITH THE SEED: the statements are not yours to turn. If you find one false, say at which input.
  Laid BY PROGRAM, IN A SANDBOX (cutbox-rows.mjs): the forced cells as the released guide's own fill.sh prints them over the translation e012bda6b13db8d1… (all of the seat's roots in one cut). By AI agents, Wed Nov 11 2026. No macro, syntax, notation, axiom, sorry.
-/
import Derived.Test.YtbncicfbgfmekaaChecked
import GoSem.Claim
import GoSem.ClaimJoined
import GoSem.ClaimMapViews
import Derived.JoinedTies
import Derived.KernelRfl
namespace Go.Proofs.Ytbncicfbgfmekaa
/- THE CELL 'sum', in the pinned program and in every row, IS THE sha256 OF THE DUMP (.gsa) THAT YtbncicfbgfmekaaProg.lean LOADS. Nothing in Lean hashes anything: it is a label: what it is worth is what the hold of that sum in a sandbox is worth. -/
noncomputable def Try.pinned : Pinned := { name := "ytbncicfbgfmekaa", sum := "e012bda6b13db8d1f8eb5c047ce2bbd69748f8c3914362265ff7bb5b6d037899", checked := Try.checked }
namespace Rows
def none {H : Type} : Left H := { results := [], args := [] }

/-- 'synodlaw7.LaneOrder': WHATEVER THE INPUT: true; the input reads as it did. -/
def laneOrderSpec : ChangeSpec := { name := "laneOrder", fn := fun _ => fun
  | [d1, d2, d3] => { results := [.lit (.bool true)], args := [d1, d2, d3] }
  | _ => none }
def laneOrderRow : OpenClaim := { program := "ytbncicfbgfmekaa", sum := "e012bda6b13db8d1f8eb5c047ce2bbd69748f8c3914362265ff7bb5b6d037899", func := "synod/synodlaw7.LaneOrder", spec := "laneOrder", apart := false }
def LaneOrderSaid : Prop := laneOrderRow.holds Try.pinned (OpenSpec.ofChange laneOrderSpec)

/-- ITS FALSE NEIGHBOUR: 'it returns false'. Refute it at one input. -/
def laneOrderWrong : ChangeSpec := { name := "laneOrder", fn := fun _ => fun
  | [d1, d2, d3] => { results := [.lit (.bool false)], args := [d1, d2, d3] }
  | _ => none }
def LaneOrderWrongFalsely : Prop := laneOrderRow.holds Try.pinned (OpenSpec.ofChange laneOrderWrong)

/-- 'synodlaw7.QueueOrder': WHATEVER THE INPUT: true; the input reads as it did. -/
def queueOrderSpec : ChangeSpec := { name := "queueOrder", fn := fun _ => fun
  | [d1, d2, d3] => { results := [.lit (.bool true)], args := [d1, d2, d3] }
  | _ => none }
def queueOrderRow : OpenClaim := { program := "ytbncicfbgfmekaa", sum := "e012bda6b13db8d1f8eb5c047ce2bbd69748f8c3914362265ff7bb5b6d037899", func := "synod/synodlaw7.QueueOrder", spec := "queueOrder", apart := false }
def QueueOrderSaid : Prop := queueOrderRow.holds Try.pinned (OpenSpec.ofChange queueOrderSpec)

/-- ITS FALSE NEIGHBOUR: 'it returns false'. Refute it at one input. -/
def queueOrderWrong : ChangeSpec := { name := "queueOrder", fn := fun _ => fun
  | [d1, d2, d3] => { results := [.lit (.bool false)], args := [d1, d2, d3] }
  | _ => none }
def QueueOrderWrongFalsely : Prop := queueOrderRow.holds Try.pinned (OpenSpec.ofChange queueOrderWrong)

/-- 'synodlaw7.LaneFair': WHATEVER THE INPUT: true; the input reads as it did. -/
def laneFairSpec : ChangeSpec := { name := "laneFair", fn := fun _ => fun
  | [d1, d2] => { results := [.lit (.bool true)], args := [d1, d2] }
  | _ => none }
def laneFairRow : OpenClaim := { program := "ytbncicfbgfmekaa", sum := "e012bda6b13db8d1f8eb5c047ce2bbd69748f8c3914362265ff7bb5b6d037899", func := "synod/synodlaw7.LaneFair", spec := "laneFair", apart := false }
def LaneFairSaid : Prop := laneFairRow.holds Try.pinned (OpenSpec.ofChange laneFairSpec)

/-- ITS FALSE NEIGHBOUR: 'it returns false'. Refute it at one input. -/
def laneFairWrong : ChangeSpec := { name := "laneFair", fn := fun _ => fun
  | [d1, d2] => { results := [.lit (.bool false)], args := [d1, d2] }
  | _ => none }
def LaneFairWrongFalsely : Prop := laneFairRow.holds Try.pinned (OpenSpec.ofChange laneFairWrong)

/-- 'synodlaw7.WindowRises': WHATEVER THE INPUT: true; the input reads as it did. -/
def windowRisesSpec : ChangeSpec := { name := "windowRises", fn := fun _ => fun
  | [d1, d2] => { results := [.lit (.bool true)], args := [d1, d2] }
  | _ => none }
def windowRisesRow : OpenClaim := { program := "ytbncicfbgfmekaa", sum := "e012bda6b13db8d1f8eb5c047ce2bbd69748f8c3914362265ff7bb5b6d037899", func := "synod/synodlaw7.WindowRises", spec := "windowRises", apart := false }
def WindowRisesSaid : Prop := windowRisesRow.holds Try.pinned (OpenSpec.ofChange windowRisesSpec)

/-- ITS FALSE NEIGHBOUR: 'it returns false'. Refute it at one input. -/
def windowRisesWrong : ChangeSpec := { name := "windowRises", fn := fun _ => fun
  | [d1, d2] => { results := [.lit (.bool false)], args := [d1, d2] }
  | _ => none }
def WindowRisesWrongFalsely : Prop := windowRisesRow.holds Try.pinned (OpenSpec.ofChange windowRisesWrong)

/-- 'synodlaw7.WindowPlays': WHATEVER THE INPUT: true; the input reads as it did. -/
def windowPlaysSpec : ChangeSpec := { name := "windowPlays", fn := fun _ => fun
  | [d1, d2] => { results := [.lit (.bool true)], args := [d1, d2] }
  | _ => none }
def windowPlaysRow : OpenClaim := { program := "ytbncicfbgfmekaa", sum := "e012bda6b13db8d1f8eb5c047ce2bbd69748f8c3914362265ff7bb5b6d037899", func := "synod/synodlaw7.WindowPlays", spec := "windowPlays", apart := false }
def WindowPlaysSaid : Prop := windowPlaysRow.holds Try.pinned (OpenSpec.ofChange windowPlaysSpec)

/-- ITS FALSE NEIGHBOUR: 'it returns false'. Refute it at one input. -/
def windowPlaysWrong : ChangeSpec := { name := "windowPlays", fn := fun _ => fun
  | [d1, d2] => { results := [.lit (.bool false)], args := [d1, d2] }
  | _ => none }
def WindowPlaysWrongFalsely : Prop := windowPlaysRow.holds Try.pinned (OpenSpec.ofChange windowPlaysWrong)

/-- 'synodlaw7.LanePlays': WHATEVER THE INPUT: true; the input reads as it did. -/
def lanePlaysSpec : ChangeSpec := { name := "lanePlays", fn := fun _ => fun
  | [d1, d2, d3] => { results := [.lit (.bool true)], args := [d1, d2, d3] }
  | _ => none }
def lanePlaysRow : OpenClaim := { program := "ytbncicfbgfmekaa", sum := "e012bda6b13db8d1f8eb5c047ce2bbd69748f8c3914362265ff7bb5b6d037899", func := "synod/synodlaw7.LanePlays", spec := "lanePlays", apart := false }
def LanePlaysSaid : Prop := lanePlaysRow.holds Try.pinned (OpenSpec.ofChange lanePlaysSpec)

/-- ITS FALSE NEIGHBOUR: 'it returns false'. Refute it at one input. -/
def lanePlaysWrong : ChangeSpec := { name := "lanePlays", fn := fun _ => fun
  | [d1, d2, d3] => { results := [.lit (.bool false)], args := [d1, d2, d3] }
  | _ => none }
def LanePlaysWrongFalsely : Prop := lanePlaysRow.holds Try.pinned (OpenSpec.ofChange lanePlaysWrong)

/-- 'synodlaw7.QueueGone': WHATEVER THE INPUT: true; the input reads as it did. -/
def queueGoneSpec : ChangeSpec := { name := "queueGone", fn := fun _ => fun
  | [d1, d2] => { results := [.lit (.bool true)], args := [d1, d2] }
  | _ => none }
def queueGoneRow : OpenClaim := { program := "ytbncicfbgfmekaa", sum := "e012bda6b13db8d1f8eb5c047ce2bbd69748f8c3914362265ff7bb5b6d037899", func := "synod/synodlaw7.QueueGone", spec := "queueGone", apart := false }
def QueueGoneSaid : Prop := queueGoneRow.holds Try.pinned (OpenSpec.ofChange queueGoneSpec)

/-- ITS FALSE NEIGHBOUR: 'it returns false'. Refute it at one input. -/
def queueGoneWrong : ChangeSpec := { name := "queueGone", fn := fun _ => fun
  | [d1, d2] => { results := [.lit (.bool false)], args := [d1, d2] }
  | _ => none }
def QueueGoneWrongFalsely : Prop := queueGoneRow.holds Try.pinned (OpenSpec.ofChange queueGoneWrong)

/-- 'synodlaw7.QueuePlays': WHATEVER THE INPUT: true; the input reads as it did. -/
def queuePlaysSpec : ChangeSpec := { name := "queuePlays", fn := fun _ => fun
  | [d1, d2, d3] => { results := [.lit (.bool true)], args := [d1, d2, d3] }
  | _ => none }
def queuePlaysRow : OpenClaim := { program := "ytbncicfbgfmekaa", sum := "e012bda6b13db8d1f8eb5c047ce2bbd69748f8c3914362265ff7bb5b6d037899", func := "synod/synodlaw7.QueuePlays", spec := "queuePlays", unfollowed := true, recurses := true, apart := false }
def QueuePlaysSaid : Prop := queuePlaysRow.holds Try.pinned (OpenSpec.ofChange queuePlaysSpec)

/-- ITS FALSE NEIGHBOUR: 'it returns false'. Refute it at one input. -/
def queuePlaysWrong : ChangeSpec := { name := "queuePlays", fn := fun _ => fun
  | [d1, d2, d3] => { results := [.lit (.bool false)], args := [d1, d2, d3] }
  | _ => none }
def QueuePlaysWrongFalsely : Prop := queuePlaysRow.holds Try.pinned (OpenSpec.ofChange queuePlaysWrong)

/- THE SECOND FORM. 'bulk': how many values and letters a reading holds, each counted each time it is reached (what is shared counts as often as it is met; a slice's spare places count too). A statement '..UptoSaid' is the law's where the arguments, and the package variables that the reading takes, are together of bulk at most 1048576: NARROWER than '..Said'. Prove '..Said' where nothing that the law and all that it calls make is longer than what came in: it says more and counts as full. Else prove '..UptoSaid'. A law counts once. -/
mutual
def uptoBulk {H : Type} : DataW H → Nat
  | .lit (.string bytes) => bytes.length + 1
  | .lit _ => 1
  | .nil => 1
  | .ptr d => uptoBulk d + 1
  | .slice elems spare => uptoBulkAll elems + uptoBulkAll spare + 1
  | .agg parts => uptoBulkAll parts + 1
  | .iface _ d => uptoBulk d + 1
  | .map entries => uptoBulkEntries entries + 1
  | .held _ => 1
def uptoBulkAll {H : Type} : List (DataW H) → Nat
  | [] => 0
  | d :: r => uptoBulk d + uptoBulkAll r
def uptoBulkEntries {H : Type} : List (Lit × DataW H) → Nat
  | [] => 0
  | x :: r => uptoBulkEntry x + uptoBulkEntries r
def uptoBulkEntry {H : Type} : Lit × DataW H → Nat
  | (.string bytes, d) => bytes.length + uptoBulk d + 1
  | (_, d) => uptoBulk d + 1
 end
def uptoSmall : (H : Type) → List (DataW H) → Bool := fun _ ds => decide (uptoBulkAll ds ≤ 1048576)
def OpenSpec.upto (s : _root_.Go.ChangeSpec) : _root_.Go.OpenSpec := { _root_.Go.OpenSpec.ofChange s with cond := some uptoSmall }

/-- 'synodlaw7.LaneOrder', WHERE WHAT IT READS IS OF BULK AT MOST 1048576: true; the input reads as it did. -/
def laneOrderUptoRow : OpenClaim := { program := "ytbncicfbgfmekaa", sum := "e012bda6b13db8d1f8eb5c047ce2bbd69748f8c3914362265ff7bb5b6d037899", func := "synod/synodlaw7.LaneOrder", spec := "laneOrder", apart := false, narrowed := true }
def LaneOrderUptoSaid : Prop := laneOrderUptoRow.holds Try.pinned (OpenSpec.upto laneOrderSpec)

/-- 'synodlaw7.QueueOrder', WHERE WHAT IT READS IS OF BULK AT MOST 1048576: true; the input reads as it did. -/
def queueOrderUptoRow : OpenClaim := { program := "ytbncicfbgfmekaa", sum := "e012bda6b13db8d1f8eb5c047ce2bbd69748f8c3914362265ff7bb5b6d037899", func := "synod/synodlaw7.QueueOrder", spec := "queueOrder", apart := false, narrowed := true }
def QueueOrderUptoSaid : Prop := queueOrderUptoRow.holds Try.pinned (OpenSpec.upto queueOrderSpec)

/-- 'synodlaw7.LaneFair', WHERE WHAT IT READS IS OF BULK AT MOST 1048576: true; the input reads as it did. -/
def laneFairUptoRow : OpenClaim := { program := "ytbncicfbgfmekaa", sum := "e012bda6b13db8d1f8eb5c047ce2bbd69748f8c3914362265ff7bb5b6d037899", func := "synod/synodlaw7.LaneFair", spec := "laneFair", apart := false, narrowed := true }
def LaneFairUptoSaid : Prop := laneFairUptoRow.holds Try.pinned (OpenSpec.upto laneFairSpec)

/-- 'synodlaw7.WindowRises', WHERE WHAT IT READS IS OF BULK AT MOST 1048576: true; the input reads as it did. -/
def windowRisesUptoRow : OpenClaim := { program := "ytbncicfbgfmekaa", sum := "e012bda6b13db8d1f8eb5c047ce2bbd69748f8c3914362265ff7bb5b6d037899", func := "synod/synodlaw7.WindowRises", spec := "windowRises", apart := false, narrowed := true }
def WindowRisesUptoSaid : Prop := windowRisesUptoRow.holds Try.pinned (OpenSpec.upto windowRisesSpec)

/-- 'synodlaw7.WindowPlays', WHERE WHAT IT READS IS OF BULK AT MOST 1048576: true; the input reads as it did. -/
def windowPlaysUptoRow : OpenClaim := { program := "ytbncicfbgfmekaa", sum := "e012bda6b13db8d1f8eb5c047ce2bbd69748f8c3914362265ff7bb5b6d037899", func := "synod/synodlaw7.WindowPlays", spec := "windowPlays", apart := false, narrowed := true }
def WindowPlaysUptoSaid : Prop := windowPlaysUptoRow.holds Try.pinned (OpenSpec.upto windowPlaysSpec)

/-- 'synodlaw7.LanePlays', WHERE WHAT IT READS IS OF BULK AT MOST 1048576: true; the input reads as it did. -/
def lanePlaysUptoRow : OpenClaim := { program := "ytbncicfbgfmekaa", sum := "e012bda6b13db8d1f8eb5c047ce2bbd69748f8c3914362265ff7bb5b6d037899", func := "synod/synodlaw7.LanePlays", spec := "lanePlays", apart := false, narrowed := true }
def LanePlaysUptoSaid : Prop := lanePlaysUptoRow.holds Try.pinned (OpenSpec.upto lanePlaysSpec)

/-- 'synodlaw7.QueueGone', WHERE WHAT IT READS IS OF BULK AT MOST 1048576: true; the input reads as it did. -/
def queueGoneUptoRow : OpenClaim := { program := "ytbncicfbgfmekaa", sum := "e012bda6b13db8d1f8eb5c047ce2bbd69748f8c3914362265ff7bb5b6d037899", func := "synod/synodlaw7.QueueGone", spec := "queueGone", apart := false, narrowed := true }
def QueueGoneUptoSaid : Prop := queueGoneUptoRow.holds Try.pinned (OpenSpec.upto queueGoneSpec)

/-- 'synodlaw7.QueuePlays', WHERE WHAT IT READS IS OF BULK AT MOST 1048576: true; the input reads as it did. -/
def queuePlaysUptoRow : OpenClaim := { program := "ytbncicfbgfmekaa", sum := "e012bda6b13db8d1f8eb5c047ce2bbd69748f8c3914362265ff7bb5b6d037899", func := "synod/synodlaw7.QueuePlays", spec := "queuePlays", unfollowed := true, recurses := true, apart := false, narrowed := true }
def QueuePlaysUptoSaid : Prop := queuePlaysUptoRow.holds Try.pinned (OpenSpec.upto queuePlaysSpec)

end Rows
end Go.Proofs.Ytbncicfbgfmekaa
