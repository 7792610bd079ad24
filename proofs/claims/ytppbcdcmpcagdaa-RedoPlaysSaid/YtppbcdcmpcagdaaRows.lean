/-
  No cell of these rows narrows 'for every input' (looked for: loops, veiled, ifaces, maps, wideKeys, modest, calm, conditions, laid).
  DERIVED. THE GIVEN ROWS OF THIS SEAT. 37 by the template 'for every input the law returns true; each argument reads behind the call as it read before'; 0 by the template 'total and deterministic' (their statements: YtppbcdcmpcagdaaTotals.lean).
  GIVEN WITH THE SEED: the statements are not yours to turn. If you find one false, say at which input.
  Laid BY PROGRAM, IN A SANDBOX (cutbox-rows.mjs): the forced cells as the released guide's own fill.sh prints them over the translation b0387a25ea618a37… (all of the seat's roots in one cut). By AI agents, Wed Nov 11 2026. No macro, syntax, notation, axiom, sorry.
-/
import Derived.Test.YtppbcdcmpcagdaaChecked
import GoSem.Claim
import GoSem.ClaimJoined
import GoSem.ClaimMapViews
import Derived.JoinedTies
import Derived.KernelRfl
namespace Go.Proofs.Ytppbcdcmpcagdaa
/- THE CELL 'sum', in the pinned program and in every row, IS THE sha256 OF THE DUMP (.gsa) THAT YtppbcdcmpcagdaaProg.lean LOADS. Nothing in Lean hashes anything: it is a label: what it is worth is what the hold of that sum in a sandbox is worth. -/
noncomputable def Try.pinned : Pinned := { name := "ytppbcdcmpcagdaa", sum := "b0387a25ea618a37ab5d8b14bb6b858dc7818e73be58466ebf4f228a2f6f3cd9", checked := Try.checked }
namespace Rows
def none {H : Type} : Left H := { results := [], args := [] }

/-- 'copyholdlaw03.FieldWrites': WHATEVER THE INPUT: true; the input reads as it did. -/
def fieldWritesSpec : ChangeSpec := { name := "fieldWrites", fn := fun _ => fun
  | [d1, d2, d3] => { results := [.lit (.bool true)], args := [d1, d2, d3] }
  | _ => none }
def fieldWritesRow : OpenClaim := { program := "ytppbcdcmpcagdaa", sum := "b0387a25ea618a37ab5d8b14bb6b858dc7818e73be58466ebf4f228a2f6f3cd9", func := "copyhold/copyholdlaw03.FieldWrites", spec := "fieldWrites", unfollowed := true, recurses := true, apart := false }
def FieldWritesSaid : Prop := fieldWritesRow.holds Try.pinned (OpenSpec.ofChange fieldWritesSpec)

/-- ITS FALSE NEIGHBOUR: 'it returns false'. Refute it at one input. -/
def fieldWritesWrong : ChangeSpec := { name := "fieldWrites", fn := fun _ => fun
  | [d1, d2, d3] => { results := [.lit (.bool false)], args := [d1, d2, d3] }
  | _ => none }
def FieldWritesWrongFalsely : Prop := fieldWritesRow.holds Try.pinned (OpenSpec.ofChange fieldWritesWrong)

/-- 'copyholdlaw03.FieldReads': WHATEVER THE INPUT: true; the input reads as it did. -/
def fieldReadsSpec : ChangeSpec := { name := "fieldReads", fn := fun _ => fun
  | [d1, d2] => { results := [.lit (.bool true)], args := [d1, d2] }
  | _ => none }
def fieldReadsRow : OpenClaim := { program := "ytppbcdcmpcagdaa", sum := "b0387a25ea618a37ab5d8b14bb6b858dc7818e73be58466ebf4f228a2f6f3cd9", func := "copyhold/copyholdlaw03.FieldReads", spec := "fieldReads", unfollowed := true, recurses := true, apart := false }
def FieldReadsSaid : Prop := fieldReadsRow.holds Try.pinned (OpenSpec.ofChange fieldReadsSpec)

/-- ITS FALSE NEIGHBOUR: 'it returns false'. Refute it at one input. -/
def fieldReadsWrong : ChangeSpec := { name := "fieldReads", fn := fun _ => fun
  | [d1, d2] => { results := [.lit (.bool false)], args := [d1, d2] }
  | _ => none }
def FieldReadsWrongFalsely : Prop := fieldReadsRow.holds Try.pinned (OpenSpec.ofChange fieldReadsWrong)

/-- 'copyholdlaw03.FieldFrames': WHATEVER THE INPUT: true; the input reads as it did. -/
def fieldFramesSpec : ChangeSpec := { name := "fieldFrames", fn := fun _ => fun
  | [d1, d2, d3] => { results := [.lit (.bool true)], args := [d1, d2, d3] }
  | _ => none }
def fieldFramesRow : OpenClaim := { program := "ytppbcdcmpcagdaa", sum := "b0387a25ea618a37ab5d8b14bb6b858dc7818e73be58466ebf4f228a2f6f3cd9", func := "copyhold/copyholdlaw03.FieldFrames", spec := "fieldFrames", unfollowed := true, recurses := true, apart := false }
def FieldFramesSaid : Prop := fieldFramesRow.holds Try.pinned (OpenSpec.ofChange fieldFramesSpec)

/-- ITS FALSE NEIGHBOUR: 'it returns false'. Refute it at one input. -/
def fieldFramesWrong : ChangeSpec := { name := "fieldFrames", fn := fun _ => fun
  | [d1, d2, d3] => { results := [.lit (.bool false)], args := [d1, d2, d3] }
  | _ => none }
def FieldFramesWrongFalsely : Prop := fieldFramesRow.holds Try.pinned (OpenSpec.ofChange fieldFramesWrong)

/-- 'copyholdlaw03.FieldSums': WHATEVER THE INPUT: true; the input reads as it did. -/
def fieldSumsSpec : ChangeSpec := { name := "fieldSums", fn := fun _ => fun
  | [d] => { results := [.lit (.bool true)], args := [d] }
  | _ => none }
def fieldSumsRow : OpenClaim := { program := "ytppbcdcmpcagdaa", sum := "b0387a25ea618a37ab5d8b14bb6b858dc7818e73be58466ebf4f228a2f6f3cd9", func := "copyhold/copyholdlaw03.FieldSums", spec := "fieldSums", unfollowed := true, recurses := true, apart := false }
def FieldSumsSaid : Prop := fieldSumsRow.holds Try.pinned (OpenSpec.ofChange fieldSumsSpec)

/-- ITS FALSE NEIGHBOUR: 'it returns false'. Refute it at one input. -/
def fieldSumsWrong : ChangeSpec := { name := "fieldSums", fn := fun _ => fun
  | [d] => { results := [.lit (.bool false)], args := [d] }
  | _ => none }
def FieldSumsWrongFalsely : Prop := fieldSumsRow.holds Try.pinned (OpenSpec.ofChange fieldSumsWrong)

/-- 'copyholdlaw03.FieldBack': WHATEVER THE INPUT: true; the input reads as it did. -/
def fieldBackSpec : ChangeSpec := { name := "fieldBack", fn := fun _ => fun
  | [d1, d2, d3, d4] => { results := [.lit (.bool true)], args := [d1, d2, d3, d4] }
  | _ => none }
def fieldBackRow : OpenClaim := { program := "ytppbcdcmpcagdaa", sum := "b0387a25ea618a37ab5d8b14bb6b858dc7818e73be58466ebf4f228a2f6f3cd9", func := "copyhold/copyholdlaw03.FieldBack", spec := "fieldBack", unfollowed := true, recurses := true, apart := false }
def FieldBackSaid : Prop := fieldBackRow.holds Try.pinned (OpenSpec.ofChange fieldBackSpec)

/-- ITS FALSE NEIGHBOUR: 'it returns false'. Refute it at one input. -/
def fieldBackWrong : ChangeSpec := { name := "fieldBack", fn := fun _ => fun
  | [d1, d2, d3, d4] => { results := [.lit (.bool false)], args := [d1, d2, d3, d4] }
  | _ => none }
def FieldBackWrongFalsely : Prop := fieldBackRow.holds Try.pinned (OpenSpec.ofChange fieldBackWrong)

/-- 'copyholdlaw03.FieldTurned': WHATEVER THE INPUT: true; the input reads as it did. -/
def fieldTurnedSpec : ChangeSpec := { name := "fieldTurned", fn := fun _ => fun
  | [d1, d2, d3, d4] => { results := [.lit (.bool true)], args := [d1, d2, d3, d4] }
  | _ => none }
def fieldTurnedRow : OpenClaim := { program := "ytppbcdcmpcagdaa", sum := "b0387a25ea618a37ab5d8b14bb6b858dc7818e73be58466ebf4f228a2f6f3cd9", func := "copyhold/copyholdlaw03.FieldTurned", spec := "fieldTurned", unfollowed := true, recurses := true, apart := false }
def FieldTurnedSaid : Prop := fieldTurnedRow.holds Try.pinned (OpenSpec.ofChange fieldTurnedSpec)

/-- ITS FALSE NEIGHBOUR: 'it returns false'. Refute it at one input. -/
def fieldTurnedWrong : ChangeSpec := { name := "fieldTurned", fn := fun _ => fun
  | [d1, d2, d3, d4] => { results := [.lit (.bool false)], args := [d1, d2, d3, d4] }
  | _ => none }
def FieldTurnedWrongFalsely : Prop := fieldTurnedRow.holds Try.pinned (OpenSpec.ofChange fieldTurnedWrong)

/-- 'copyholdlaw03.FieldApart': WHATEVER THE INPUT: true; the input reads as it did. -/
def fieldApartSpec : ChangeSpec := { name := "fieldApart", fn := fun _ => fun
  | [d1, d2, d3, d4] => { results := [.lit (.bool true)], args := [d1, d2, d3, d4] }
  | _ => none }
def fieldApartRow : OpenClaim := { program := "ytppbcdcmpcagdaa", sum := "b0387a25ea618a37ab5d8b14bb6b858dc7818e73be58466ebf4f228a2f6f3cd9", func := "copyhold/copyholdlaw03.FieldApart", spec := "fieldApart", unfollowed := true, recurses := true, apart := false }
def FieldApartSaid : Prop := fieldApartRow.holds Try.pinned (OpenSpec.ofChange fieldApartSpec)

/-- ITS FALSE NEIGHBOUR: 'it returns false'. Refute it at one input. -/
def fieldApartWrong : ChangeSpec := { name := "fieldApart", fn := fun _ => fun
  | [d1, d2, d3, d4] => { results := [.lit (.bool false)], args := [d1, d2, d3, d4] }
  | _ => none }
def FieldApartWrongFalsely : Prop := fieldApartRow.holds Try.pinned (OpenSpec.ofChange fieldApartWrong)

/-- 'copyholdlaw03.FieldBehind': WHATEVER THE INPUT: true; the input reads as it did. -/
def fieldBehindSpec : ChangeSpec := { name := "fieldBehind", fn := fun _ => fun
  | [d1, d2, d3] => { results := [.lit (.bool true)], args := [d1, d2, d3] }
  | _ => none }
def fieldBehindRow : OpenClaim := { program := "ytppbcdcmpcagdaa", sum := "b0387a25ea618a37ab5d8b14bb6b858dc7818e73be58466ebf4f228a2f6f3cd9", func := "copyhold/copyholdlaw03.FieldBehind", spec := "fieldBehind", unfollowed := true, recurses := true, apart := false }
def FieldBehindSaid : Prop := fieldBehindRow.holds Try.pinned (OpenSpec.ofChange fieldBehindSpec)

/-- ITS FALSE NEIGHBOUR: 'it returns false'. Refute it at one input. -/
def fieldBehindWrong : ChangeSpec := { name := "fieldBehind", fn := fun _ => fun
  | [d1, d2, d3] => { results := [.lit (.bool false)], args := [d1, d2, d3] }
  | _ => none }
def FieldBehindWrongFalsely : Prop := fieldBehindRow.holds Try.pinned (OpenSpec.ofChange fieldBehindWrong)

/-- 'copyholdlaw07.SuperEncodes': WHATEVER THE INPUT: true; the input reads as it did. -/
def superEncodesSpec : ChangeSpec := { name := "superEncodes", fn := fun _ => fun
  | [d1, d2] => { results := [.lit (.bool true)], args := [d1, d2] }
  | _ => none }
def superEncodesRow : OpenClaim := { program := "ytppbcdcmpcagdaa", sum := "b0387a25ea618a37ab5d8b14bb6b858dc7818e73be58466ebf4f228a2f6f3cd9", func := "copyhold/copyholdlaw07.SuperEncodes", spec := "superEncodes", unfollowed := true, recurses := true, apart := false }
def SuperEncodesSaid : Prop := superEncodesRow.holds Try.pinned (OpenSpec.ofChange superEncodesSpec)

/-- ITS FALSE NEIGHBOUR: 'it returns false'. Refute it at one input. -/
def superEncodesWrong : ChangeSpec := { name := "superEncodes", fn := fun _ => fun
  | [d1, d2] => { results := [.lit (.bool false)], args := [d1, d2] }
  | _ => none }
def SuperEncodesWrongFalsely : Prop := superEncodesRow.holds Try.pinned (OpenSpec.ofChange superEncodesWrong)

/-- 'copyholdlaw07.SuperSpoilt': WHATEVER THE INPUT: true; the input reads as it did. -/
def superSpoiltSpec : ChangeSpec := { name := "superSpoilt", fn := fun _ => fun
  | [d1, d2] => { results := [.lit (.bool true)], args := [d1, d2] }
  | _ => none }
def superSpoiltRow : OpenClaim := { program := "ytppbcdcmpcagdaa", sum := "b0387a25ea618a37ab5d8b14bb6b858dc7818e73be58466ebf4f228a2f6f3cd9", func := "copyhold/copyholdlaw07.SuperSpoilt", spec := "superSpoilt", unfollowed := true, recurses := true, apart := false }
def SuperSpoiltSaid : Prop := superSpoiltRow.holds Try.pinned (OpenSpec.ofChange superSpoiltSpec)

/-- ITS FALSE NEIGHBOUR: 'it returns false'. Refute it at one input. -/
def superSpoiltWrong : ChangeSpec := { name := "superSpoilt", fn := fun _ => fun
  | [d1, d2] => { results := [.lit (.bool false)], args := [d1, d2] }
  | _ => none }
def SuperSpoiltWrongFalsely : Prop := superSpoiltRow.holds Try.pinned (OpenSpec.ofChange superSpoiltWrong)

/-- 'copyholdlaw07.SuperApart': WHATEVER THE INPUT: true; the input reads as it did. -/
def superApartSpec : ChangeSpec := { name := "superApart", fn := fun _ => fun
  | [d1, d2] => { results := [.lit (.bool true)], args := [d1, d2] }
  | _ => none }
def superApartRow : OpenClaim := { program := "ytppbcdcmpcagdaa", sum := "b0387a25ea618a37ab5d8b14bb6b858dc7818e73be58466ebf4f228a2f6f3cd9", func := "copyhold/copyholdlaw07.SuperApart", spec := "superApart", unfollowed := true, recurses := true, apart := false }
def SuperApartSaid : Prop := superApartRow.holds Try.pinned (OpenSpec.ofChange superApartSpec)

/-- ITS FALSE NEIGHBOUR: 'it returns false'. Refute it at one input. -/
def superApartWrong : ChangeSpec := { name := "superApart", fn := fun _ => fun
  | [d1, d2] => { results := [.lit (.bool false)], args := [d1, d2] }
  | _ => none }
def SuperApartWrongFalsely : Prop := superApartRow.holds Try.pinned (OpenSpec.ofChange superApartWrong)

/-- 'copyholdlaw08.SeatEncodes': WHATEVER THE INPUT: true; the input reads as it did. -/
def seatEncodesSpec : ChangeSpec := { name := "seatEncodes", fn := fun _ => fun
  | [d1, d2] => { results := [.lit (.bool true)], args := [d1, d2] }
  | _ => none }
def seatEncodesRow : OpenClaim := { program := "ytppbcdcmpcagdaa", sum := "b0387a25ea618a37ab5d8b14bb6b858dc7818e73be58466ebf4f228a2f6f3cd9", func := "copyhold/copyholdlaw08.SeatEncodes", spec := "seatEncodes", unfollowed := true, recurses := true, apart := false }
def SeatEncodesSaid : Prop := seatEncodesRow.holds Try.pinned (OpenSpec.ofChange seatEncodesSpec)

/-- ITS FALSE NEIGHBOUR: 'it returns false'. Refute it at one input. -/
def seatEncodesWrong : ChangeSpec := { name := "seatEncodes", fn := fun _ => fun
  | [d1, d2] => { results := [.lit (.bool false)], args := [d1, d2] }
  | _ => none }
def SeatEncodesWrongFalsely : Prop := seatEncodesRow.holds Try.pinned (OpenSpec.ofChange seatEncodesWrong)

/-- 'copyholdlaw08.SeatFates': WHATEVER THE INPUT: true; the input reads as it did. -/
def seatFatesSpec : ChangeSpec := { name := "seatFates", fn := fun _ => fun
  | [d1, d2, d3, d4] => { results := [.lit (.bool true)], args := [d1, d2, d3, d4] }
  | _ => none }
def seatFatesRow : OpenClaim := { program := "ytppbcdcmpcagdaa", sum := "b0387a25ea618a37ab5d8b14bb6b858dc7818e73be58466ebf4f228a2f6f3cd9", func := "copyhold/copyholdlaw08.SeatFates", spec := "seatFates", unfollowed := true, recurses := true, apart := false }
def SeatFatesSaid : Prop := seatFatesRow.holds Try.pinned (OpenSpec.ofChange seatFatesSpec)

/-- ITS FALSE NEIGHBOUR: 'it returns false'. Refute it at one input. -/
def seatFatesWrong : ChangeSpec := { name := "seatFates", fn := fun _ => fun
  | [d1, d2, d3, d4] => { results := [.lit (.bool false)], args := [d1, d2, d3, d4] }
  | _ => none }
def SeatFatesWrongFalsely : Prop := seatFatesRow.holds Try.pinned (OpenSpec.ofChange seatFatesWrong)

/-- 'copyholdlaw08.SeatOnce': WHATEVER THE INPUT: true; the input reads as it did. -/
def seatOnceSpec : ChangeSpec := { name := "seatOnce", fn := fun _ => fun
  | [d1, d2, d3, d4, d5] => { results := [.lit (.bool true)], args := [d1, d2, d3, d4, d5] }
  | _ => none }
def seatOnceRow : OpenClaim := { program := "ytppbcdcmpcagdaa", sum := "b0387a25ea618a37ab5d8b14bb6b858dc7818e73be58466ebf4f228a2f6f3cd9", func := "copyhold/copyholdlaw08.SeatOnce", spec := "seatOnce", unfollowed := true, recurses := true, apart := false }
def SeatOnceSaid : Prop := seatOnceRow.holds Try.pinned (OpenSpec.ofChange seatOnceSpec)

/-- ITS FALSE NEIGHBOUR: 'it returns false'. Refute it at one input. -/
def seatOnceWrong : ChangeSpec := { name := "seatOnce", fn := fun _ => fun
  | [d1, d2, d3, d4, d5] => { results := [.lit (.bool false)], args := [d1, d2, d3, d4, d5] }
  | _ => none }
def SeatOnceWrongFalsely : Prop := seatOnceRow.holds Try.pinned (OpenSpec.ofChange seatOnceWrong)

/-- 'copyholdlaw08.SeatSpoilt': WHATEVER THE INPUT: true; the input reads as it did. -/
def seatSpoiltSpec : ChangeSpec := { name := "seatSpoilt", fn := fun _ => fun
  | [d1, d2, d3] => { results := [.lit (.bool true)], args := [d1, d2, d3] }
  | _ => none }
def seatSpoiltRow : OpenClaim := { program := "ytppbcdcmpcagdaa", sum := "b0387a25ea618a37ab5d8b14bb6b858dc7818e73be58466ebf4f228a2f6f3cd9", func := "copyhold/copyholdlaw08.SeatSpoilt", spec := "seatSpoilt", unfollowed := true, recurses := true, apart := false }
def SeatSpoiltSaid : Prop := seatSpoiltRow.holds Try.pinned (OpenSpec.ofChange seatSpoiltSpec)

/-- ITS FALSE NEIGHBOUR: 'it returns false'. Refute it at one input. -/
def seatSpoiltWrong : ChangeSpec := { name := "seatSpoilt", fn := fun _ => fun
  | [d1, d2, d3] => { results := [.lit (.bool false)], args := [d1, d2, d3] }
  | _ => none }
def SeatSpoiltWrongFalsely : Prop := seatSpoiltRow.holds Try.pinned (OpenSpec.ofChange seatSpoiltWrong)

/-- 'copyholdlaw10.NodePuts': WHATEVER THE INPUT: true; the input reads as it did. -/
def nodePutsSpec : ChangeSpec := { name := "nodePuts", fn := fun _ => fun
  | [d1, d2, d3] => { results := [.lit (.bool true)], args := [d1, d2, d3] }
  | _ => none }
def nodePutsRow : OpenClaim := { program := "ytppbcdcmpcagdaa", sum := "b0387a25ea618a37ab5d8b14bb6b858dc7818e73be58466ebf4f228a2f6f3cd9", func := "copyhold/copyholdlaw10.NodePuts", spec := "nodePuts", unfollowed := true, recurses := true, apart := false }
def NodePutsSaid : Prop := nodePutsRow.holds Try.pinned (OpenSpec.ofChange nodePutsSpec)

/-- ITS FALSE NEIGHBOUR: 'it returns false'. Refute it at one input. -/
def nodePutsWrong : ChangeSpec := { name := "nodePuts", fn := fun _ => fun
  | [d1, d2, d3] => { results := [.lit (.bool false)], args := [d1, d2, d3] }
  | _ => none }
def NodePutsWrongFalsely : Prop := nodePutsRow.holds Try.pinned (OpenSpec.ofChange nodePutsWrong)

/-- 'copyholdlaw10.NodeGets': WHATEVER THE INPUT: true; the input reads as it did. -/
def nodeGetsSpec : ChangeSpec := { name := "nodeGets", fn := fun _ => fun
  | [d1, d2] => { results := [.lit (.bool true)], args := [d1, d2] }
  | _ => none }
def nodeGetsRow : OpenClaim := { program := "ytppbcdcmpcagdaa", sum := "b0387a25ea618a37ab5d8b14bb6b858dc7818e73be58466ebf4f228a2f6f3cd9", func := "copyhold/copyholdlaw10.NodeGets", spec := "nodeGets", unfollowed := true, recurses := true, apart := false }
def NodeGetsSaid : Prop := nodeGetsRow.holds Try.pinned (OpenSpec.ofChange nodeGetsSpec)

/-- ITS FALSE NEIGHBOUR: 'it returns false'. Refute it at one input. -/
def nodeGetsWrong : ChangeSpec := { name := "nodeGets", fn := fun _ => fun
  | [d1, d2] => { results := [.lit (.bool false)], args := [d1, d2] }
  | _ => none }
def NodeGetsWrongFalsely : Prop := nodeGetsRow.holds Try.pinned (OpenSpec.ofChange nodeGetsWrong)

/-- 'copyholdlaw10.NodeFour': WHATEVER THE INPUT: true; the input reads as it did. -/
def nodeFourSpec : ChangeSpec := { name := "nodeFour", fn := fun _ => fun
  | [d1, d2, d3, d4] => { results := [.lit (.bool true)], args := [d1, d2, d3, d4] }
  | _ => none }
def nodeFourRow : OpenClaim := { program := "ytppbcdcmpcagdaa", sum := "b0387a25ea618a37ab5d8b14bb6b858dc7818e73be58466ebf4f228a2f6f3cd9", func := "copyhold/copyholdlaw10.NodeFour", spec := "nodeFour", unfollowed := true, recurses := true, apart := false }
def NodeFourSaid : Prop := nodeFourRow.holds Try.pinned (OpenSpec.ofChange nodeFourSpec)

/-- ITS FALSE NEIGHBOUR: 'it returns false'. Refute it at one input. -/
def nodeFourWrong : ChangeSpec := { name := "nodeFour", fn := fun _ => fun
  | [d1, d2, d3, d4] => { results := [.lit (.bool false)], args := [d1, d2, d3, d4] }
  | _ => none }
def NodeFourWrongFalsely : Prop := nodeFourRow.holds Try.pinned (OpenSpec.ofChange nodeFourWrong)

/-- 'copyholdlaw10.NodeApart': WHATEVER THE INPUT: true; the input reads as it did. -/
def nodeApartSpec : ChangeSpec := { name := "nodeApart", fn := fun _ => fun
  | [d1, d2, d3, d4, d5] => { results := [.lit (.bool true)], args := [d1, d2, d3, d4, d5] }
  | _ => none }
def nodeApartRow : OpenClaim := { program := "ytppbcdcmpcagdaa", sum := "b0387a25ea618a37ab5d8b14bb6b858dc7818e73be58466ebf4f228a2f6f3cd9", func := "copyhold/copyholdlaw10.NodeApart", spec := "nodeApart", unfollowed := true, recurses := true, apart := false }
def NodeApartSaid : Prop := nodeApartRow.holds Try.pinned (OpenSpec.ofChange nodeApartSpec)

/-- ITS FALSE NEIGHBOUR: 'it returns false'. Refute it at one input. -/
def nodeApartWrong : ChangeSpec := { name := "nodeApart", fn := fun _ => fun
  | [d1, d2, d3, d4, d5] => { results := [.lit (.bool false)], args := [d1, d2, d3, d4, d5] }
  | _ => none }
def NodeApartWrongFalsely : Prop := nodeApartRow.holds Try.pinned (OpenSpec.ofChange nodeApartWrong)

/-- 'copyholdlaw17.VerbAsks': WHATEVER THE INPUT: true; the input reads as it did. -/
def verbAsksSpec : ChangeSpec := { name := "verbAsks", fn := fun _ => fun
  | [d1, d2] => { results := [.lit (.bool true)], args := [d1, d2] }
  | _ => none }
def verbAsksRow : OpenClaim := { program := "ytppbcdcmpcagdaa", sum := "b0387a25ea618a37ab5d8b14bb6b858dc7818e73be58466ebf4f228a2f6f3cd9", func := "copyhold/copyholdlaw17.VerbAsks", spec := "verbAsks", unfollowed := true, recurses := true, apart := false }
def VerbAsksSaid : Prop := verbAsksRow.holds Try.pinned (OpenSpec.ofChange verbAsksSpec)

/-- ITS FALSE NEIGHBOUR: 'it returns false'. Refute it at one input. -/
def verbAsksWrong : ChangeSpec := { name := "verbAsks", fn := fun _ => fun
  | [d1, d2] => { results := [.lit (.bool false)], args := [d1, d2] }
  | _ => none }
def VerbAsksWrongFalsely : Prop := verbAsksRow.holds Try.pinned (OpenSpec.ofChange verbAsksWrong)

/-- 'copyholdlaw17.VerbAsked': WHATEVER THE INPUT: true; the input reads as it did. -/
def verbAskedSpec : ChangeSpec := { name := "verbAsked", fn := fun _ => fun
  | [d1, d2] => { results := [.lit (.bool true)], args := [d1, d2] }
  | _ => none }
def verbAskedRow : OpenClaim := { program := "ytppbcdcmpcagdaa", sum := "b0387a25ea618a37ab5d8b14bb6b858dc7818e73be58466ebf4f228a2f6f3cd9", func := "copyhold/copyholdlaw17.VerbAsked", spec := "verbAsked", unfollowed := true, recurses := true, apart := false }
def VerbAskedSaid : Prop := verbAskedRow.holds Try.pinned (OpenSpec.ofChange verbAskedSpec)

/-- ITS FALSE NEIGHBOUR: 'it returns false'. Refute it at one input. -/
def verbAskedWrong : ChangeSpec := { name := "verbAsked", fn := fun _ => fun
  | [d1, d2] => { results := [.lit (.bool false)], args := [d1, d2] }
  | _ => none }
def VerbAskedWrongFalsely : Prop := verbAskedRow.holds Try.pinned (OpenSpec.ofChange verbAskedWrong)

/-- 'copyholdlaw17.VerbAnswers': WHATEVER THE INPUT: true; the input reads as it did. -/
def verbAnswersSpec : ChangeSpec := { name := "verbAnswers", fn := fun _ => fun
  | [d1, d2] => { results := [.lit (.bool true)], args := [d1, d2] }
  | _ => none }
def verbAnswersRow : OpenClaim := { program := "ytppbcdcmpcagdaa", sum := "b0387a25ea618a37ab5d8b14bb6b858dc7818e73be58466ebf4f228a2f6f3cd9", func := "copyhold/copyholdlaw17.VerbAnswers", spec := "verbAnswers", unfollowed := true, recurses := true, apart := false }
def VerbAnswersSaid : Prop := verbAnswersRow.holds Try.pinned (OpenSpec.ofChange verbAnswersSpec)

/-- ITS FALSE NEIGHBOUR: 'it returns false'. Refute it at one input. -/
def verbAnswersWrong : ChangeSpec := { name := "verbAnswers", fn := fun _ => fun
  | [d1, d2] => { results := [.lit (.bool false)], args := [d1, d2] }
  | _ => none }
def VerbAnswersWrongFalsely : Prop := verbAnswersRow.holds Try.pinned (OpenSpec.ofChange verbAnswersWrong)

/-- 'copyholdlaw17.VerbSpoilt': WHATEVER THE INPUT: true; the input reads as it did. -/
def verbSpoiltSpec : ChangeSpec := { name := "verbSpoilt", fn := fun _ => fun
  | [d1, d2, d3, d4] => { results := [.lit (.bool true)], args := [d1, d2, d3, d4] }
  | _ => none }
def verbSpoiltRow : OpenClaim := { program := "ytppbcdcmpcagdaa", sum := "b0387a25ea618a37ab5d8b14bb6b858dc7818e73be58466ebf4f228a2f6f3cd9", func := "copyhold/copyholdlaw17.VerbSpoilt", spec := "verbSpoilt", unfollowed := true, recurses := true, apart := false }
def VerbSpoiltSaid : Prop := verbSpoiltRow.holds Try.pinned (OpenSpec.ofChange verbSpoiltSpec)

/-- ITS FALSE NEIGHBOUR: 'it returns false'. Refute it at one input. -/
def verbSpoiltWrong : ChangeSpec := { name := "verbSpoilt", fn := fun _ => fun
  | [d1, d2, d3, d4] => { results := [.lit (.bool false)], args := [d1, d2, d3, d4] }
  | _ => none }
def VerbSpoiltWrongFalsely : Prop := verbSpoiltRow.holds Try.pinned (OpenSpec.ofChange verbSpoiltWrong)

/-- 'copyholdlaw17.VerbCalls': WHATEVER THE INPUT: true; the input reads as it did. -/
def verbCallsSpec : ChangeSpec := { name := "verbCalls", fn := fun _ => fun
  | [d1, d2] => { results := [.lit (.bool true)], args := [d1, d2] }
  | _ => none }
def verbCallsRow : OpenClaim := { program := "ytppbcdcmpcagdaa", sum := "b0387a25ea618a37ab5d8b14bb6b858dc7818e73be58466ebf4f228a2f6f3cd9", func := "copyhold/copyholdlaw17.VerbCalls", spec := "verbCalls", unfollowed := true, recurses := true, apart := false }
def VerbCallsSaid : Prop := verbCallsRow.holds Try.pinned (OpenSpec.ofChange verbCallsSpec)

/-- ITS FALSE NEIGHBOUR: 'it returns false'. Refute it at one input. -/
def verbCallsWrong : ChangeSpec := { name := "verbCalls", fn := fun _ => fun
  | [d1, d2] => { results := [.lit (.bool false)], args := [d1, d2] }
  | _ => none }
def VerbCallsWrongFalsely : Prop := verbCallsRow.holds Try.pinned (OpenSpec.ofChange verbCallsWrong)

/-- 'copyholdlaw17.VerbOne': WHATEVER THE INPUT: true; the input reads as it did. -/
def verbOneSpec : ChangeSpec := { name := "verbOne", fn := fun _ => fun
  | [d] => { results := [.lit (.bool true)], args := [d] }
  | _ => none }
def verbOneRow : OpenClaim := { program := "ytppbcdcmpcagdaa", sum := "b0387a25ea618a37ab5d8b14bb6b858dc7818e73be58466ebf4f228a2f6f3cd9", func := "copyhold/copyholdlaw17.VerbOne", spec := "verbOne", unfollowed := true, recurses := true, apart := false }
def VerbOneSaid : Prop := verbOneRow.holds Try.pinned (OpenSpec.ofChange verbOneSpec)

/-- ITS FALSE NEIGHBOUR: 'it returns false'. Refute it at one input. -/
def verbOneWrong : ChangeSpec := { name := "verbOne", fn := fun _ => fun
  | [d] => { results := [.lit (.bool false)], args := [d] }
  | _ => none }
def VerbOneWrongFalsely : Prop := verbOneRow.holds Try.pinned (OpenSpec.ofChange verbOneWrong)

/-- 'copyholdlaw17.VerbShorts': WHATEVER THE INPUT: true; the input reads as it did. -/
def verbShortsSpec : ChangeSpec := { name := "verbShorts", fn := fun _ => fun
  | [d1, d2] => { results := [.lit (.bool true)], args := [d1, d2] }
  | _ => none }
def verbShortsRow : OpenClaim := { program := "ytppbcdcmpcagdaa", sum := "b0387a25ea618a37ab5d8b14bb6b858dc7818e73be58466ebf4f228a2f6f3cd9", func := "copyhold/copyholdlaw17.VerbShorts", spec := "verbShorts", unfollowed := true, recurses := true, apart := false }
def VerbShortsSaid : Prop := verbShortsRow.holds Try.pinned (OpenSpec.ofChange verbShortsSpec)

/-- ITS FALSE NEIGHBOUR: 'it returns false'. Refute it at one input. -/
def verbShortsWrong : ChangeSpec := { name := "verbShorts", fn := fun _ => fun
  | [d1, d2] => { results := [.lit (.bool false)], args := [d1, d2] }
  | _ => none }
def VerbShortsWrongFalsely : Prop := verbShortsRow.holds Try.pinned (OpenSpec.ofChange verbShortsWrong)

/-- 'copyholdlaw05.DriveLasts': WHATEVER THE INPUT: true; the input reads as it did. -/
def driveLastsSpec : ChangeSpec := { name := "driveLasts", fn := fun _ => fun
  | [d1, d2, d3, d4] => { results := [.lit (.bool true)], args := [d1, d2, d3, d4] }
  | _ => none }
def driveLastsRow : OpenClaim := { program := "ytppbcdcmpcagdaa", sum := "b0387a25ea618a37ab5d8b14bb6b858dc7818e73be58466ebf4f228a2f6f3cd9", func := "copyhold/copyholdlaw05.DriveLasts", spec := "driveLasts", unfollowed := true, recurses := true, apart := false }
def DriveLastsSaid : Prop := driveLastsRow.holds Try.pinned (OpenSpec.ofChange driveLastsSpec)

/-- ITS FALSE NEIGHBOUR: 'it returns false'. Refute it at one input. -/
def driveLastsWrong : ChangeSpec := { name := "driveLasts", fn := fun _ => fun
  | [d1, d2, d3, d4] => { results := [.lit (.bool false)], args := [d1, d2, d3, d4] }
  | _ => none }
def DriveLastsWrongFalsely : Prop := driveLastsRow.holds Try.pinned (OpenSpec.ofChange driveLastsWrong)

/-- 'copyholdlaw05.DriveFuse': WHATEVER THE INPUT: true; the input reads as it did. -/
def driveFuseSpec : ChangeSpec := { name := "driveFuse", fn := fun _ => fun
  | [d] => { results := [.lit (.bool true)], args := [d] }
  | _ => none }
def driveFuseRow : OpenClaim := { program := "ytppbcdcmpcagdaa", sum := "b0387a25ea618a37ab5d8b14bb6b858dc7818e73be58466ebf4f228a2f6f3cd9", func := "copyhold/copyholdlaw05.DriveFuse", spec := "driveFuse", unfollowed := true, recurses := true, apart := false }
def DriveFuseSaid : Prop := driveFuseRow.holds Try.pinned (OpenSpec.ofChange driveFuseSpec)

/-- ITS FALSE NEIGHBOUR: 'it returns false'. Refute it at one input. -/
def driveFuseWrong : ChangeSpec := { name := "driveFuse", fn := fun _ => fun
  | [d] => { results := [.lit (.bool false)], args := [d] }
  | _ => none }
def DriveFuseWrongFalsely : Prop := driveFuseRow.holds Try.pinned (OpenSpec.ofChange driveFuseWrong)

/-- 'copyholdlaw05.DriveOwn': WHATEVER THE INPUT: true; the input reads as it did. -/
def driveOwnSpec : ChangeSpec := { name := "driveOwn", fn := fun _ => fun
  | [d1, d2, d3] => { results := [.lit (.bool true)], args := [d1, d2, d3] }
  | _ => none }
def driveOwnRow : OpenClaim := { program := "ytppbcdcmpcagdaa", sum := "b0387a25ea618a37ab5d8b14bb6b858dc7818e73be58466ebf4f228a2f6f3cd9", func := "copyhold/copyholdlaw05.DriveOwn", spec := "driveOwn", unfollowed := true, recurses := true, apart := false }
def DriveOwnSaid : Prop := driveOwnRow.holds Try.pinned (OpenSpec.ofChange driveOwnSpec)

/-- ITS FALSE NEIGHBOUR: 'it returns false'. Refute it at one input. -/
def driveOwnWrong : ChangeSpec := { name := "driveOwn", fn := fun _ => fun
  | [d1, d2, d3] => { results := [.lit (.bool false)], args := [d1, d2, d3] }
  | _ => none }
def DriveOwnWrongFalsely : Prop := driveOwnRow.holds Try.pinned (OpenSpec.ofChange driveOwnWrong)

/-- 'copyholdlaw05.DrivePlays': WHATEVER THE INPUT: true; the input reads as it did. -/
def drivePlaysSpec : ChangeSpec := { name := "drivePlays", fn := fun _ => fun
  | [d1, d2, d3] => { results := [.lit (.bool true)], args := [d1, d2, d3] }
  | _ => none }
def drivePlaysRow : OpenClaim := { program := "ytppbcdcmpcagdaa", sum := "b0387a25ea618a37ab5d8b14bb6b858dc7818e73be58466ebf4f228a2f6f3cd9", func := "copyhold/copyholdlaw05.DrivePlays", spec := "drivePlays", unfollowed := true, recurses := true, apart := false }
def DrivePlaysSaid : Prop := drivePlaysRow.holds Try.pinned (OpenSpec.ofChange drivePlaysSpec)

/-- ITS FALSE NEIGHBOUR: 'it returns false'. Refute it at one input. -/
def drivePlaysWrong : ChangeSpec := { name := "drivePlays", fn := fun _ => fun
  | [d1, d2, d3] => { results := [.lit (.bool false)], args := [d1, d2, d3] }
  | _ => none }
def DrivePlaysWrongFalsely : Prop := drivePlaysRow.holds Try.pinned (OpenSpec.ofChange drivePlaysWrong)

/-- 'copyholdlaw05.DriveNone': WHATEVER THE INPUT: true; the input reads as it did. -/
def driveNoneSpec : ChangeSpec := { name := "driveNone", fn := fun _ => fun
  | [d1, d2, d3] => { results := [.lit (.bool true)], args := [d1, d2, d3] }
  | _ => none }
def driveNoneRow : OpenClaim := { program := "ytppbcdcmpcagdaa", sum := "b0387a25ea618a37ab5d8b14bb6b858dc7818e73be58466ebf4f228a2f6f3cd9", func := "copyhold/copyholdlaw05.DriveNone", spec := "driveNone", unfollowed := true, recurses := true, apart := false }
def DriveNoneSaid : Prop := driveNoneRow.holds Try.pinned (OpenSpec.ofChange driveNoneSpec)

/-- ITS FALSE NEIGHBOUR: 'it returns false'. Refute it at one input. -/
def driveNoneWrong : ChangeSpec := { name := "driveNone", fn := fun _ => fun
  | [d1, d2, d3] => { results := [.lit (.bool false)], args := [d1, d2, d3] }
  | _ => none }
def DriveNoneWrongFalsely : Prop := driveNoneRow.holds Try.pinned (OpenSpec.ofChange driveNoneWrong)

/-- 'copyholdlaw05.DriveTwo': WHATEVER THE INPUT: true; the input reads as it did. -/
def driveTwoSpec : ChangeSpec := { name := "driveTwo", fn := fun _ => fun
  | [d1, d2] => { results := [.lit (.bool true)], args := [d1, d2] }
  | _ => none }
def driveTwoRow : OpenClaim := { program := "ytppbcdcmpcagdaa", sum := "b0387a25ea618a37ab5d8b14bb6b858dc7818e73be58466ebf4f228a2f6f3cd9", func := "copyhold/copyholdlaw05.DriveTwo", spec := "driveTwo", unfollowed := true, recurses := true, apart := false }
def DriveTwoSaid : Prop := driveTwoRow.holds Try.pinned (OpenSpec.ofChange driveTwoSpec)

/-- ITS FALSE NEIGHBOUR: 'it returns false'. Refute it at one input. -/
def driveTwoWrong : ChangeSpec := { name := "driveTwo", fn := fun _ => fun
  | [d1, d2] => { results := [.lit (.bool false)], args := [d1, d2] }
  | _ => none }
def DriveTwoWrongFalsely : Prop := driveTwoRow.holds Try.pinned (OpenSpec.ofChange driveTwoWrong)

/-- 'copyholdlaw06.RedoHeads': WHATEVER THE INPUT: true; the input reads as it did. -/
def redoHeadsSpec : ChangeSpec := { name := "redoHeads", fn := fun _ => fun
  | [d1, d2] => { results := [.lit (.bool true)], args := [d1, d2] }
  | _ => none }
def redoHeadsRow : OpenClaim := { program := "ytppbcdcmpcagdaa", sum := "b0387a25ea618a37ab5d8b14bb6b858dc7818e73be58466ebf4f228a2f6f3cd9", func := "copyhold/copyholdlaw06.RedoHeads", spec := "redoHeads", unfollowed := true, recurses := true, apart := false }
def RedoHeadsSaid : Prop := redoHeadsRow.holds Try.pinned (OpenSpec.ofChange redoHeadsSpec)

/-- ITS FALSE NEIGHBOUR: 'it returns false'. Refute it at one input. -/
def redoHeadsWrong : ChangeSpec := { name := "redoHeads", fn := fun _ => fun
  | [d1, d2] => { results := [.lit (.bool false)], args := [d1, d2] }
  | _ => none }
def RedoHeadsWrongFalsely : Prop := redoHeadsRow.holds Try.pinned (OpenSpec.ofChange redoHeadsWrong)

/-- 'copyholdlaw06.RedoLast': WHATEVER THE INPUT: true; the input reads as it did. -/
def redoLastSpec : ChangeSpec := { name := "redoLast", fn := fun _ => fun
  | [d1, d2, d3, d4] => { results := [.lit (.bool true)], args := [d1, d2, d3, d4] }
  | _ => none }
def redoLastRow : OpenClaim := { program := "ytppbcdcmpcagdaa", sum := "b0387a25ea618a37ab5d8b14bb6b858dc7818e73be58466ebf4f228a2f6f3cd9", func := "copyhold/copyholdlaw06.RedoLast", spec := "redoLast", unfollowed := true, recurses := true, apart := false }
def RedoLastSaid : Prop := redoLastRow.holds Try.pinned (OpenSpec.ofChange redoLastSpec)

/-- ITS FALSE NEIGHBOUR: 'it returns false'. Refute it at one input. -/
def redoLastWrong : ChangeSpec := { name := "redoLast", fn := fun _ => fun
  | [d1, d2, d3, d4] => { results := [.lit (.bool false)], args := [d1, d2, d3, d4] }
  | _ => none }
def RedoLastWrongFalsely : Prop := redoLastRow.holds Try.pinned (OpenSpec.ofChange redoLastWrong)

/-- 'copyholdlaw06.RedoNone': WHATEVER THE INPUT: true; the input reads as it did. -/
def redoNoneSpec : ChangeSpec := { name := "redoNone", fn := fun _ => fun
  | [d1, d2] => { results := [.lit (.bool true)], args := [d1, d2] }
  | _ => none }
def redoNoneRow : OpenClaim := { program := "ytppbcdcmpcagdaa", sum := "b0387a25ea618a37ab5d8b14bb6b858dc7818e73be58466ebf4f228a2f6f3cd9", func := "copyhold/copyholdlaw06.RedoNone", spec := "redoNone", unfollowed := true, recurses := true, apart := false }
def RedoNoneSaid : Prop := redoNoneRow.holds Try.pinned (OpenSpec.ofChange redoNoneSpec)

/-- ITS FALSE NEIGHBOUR: 'it returns false'. Refute it at one input. -/
def redoNoneWrong : ChangeSpec := { name := "redoNone", fn := fun _ => fun
  | [d1, d2] => { results := [.lit (.bool false)], args := [d1, d2] }
  | _ => none }
def RedoNoneWrongFalsely : Prop := redoNoneRow.holds Try.pinned (OpenSpec.ofChange redoNoneWrong)

/-- 'copyholdlaw06.RedoPlays': WHATEVER THE INPUT: true; the input reads as it did. -/
def redoPlaysSpec : ChangeSpec := { name := "redoPlays", fn := fun _ => fun
  | [d1, d2] => { results := [.lit (.bool true)], args := [d1, d2] }
  | _ => none }
def redoPlaysRow : OpenClaim := { program := "ytppbcdcmpcagdaa", sum := "b0387a25ea618a37ab5d8b14bb6b858dc7818e73be58466ebf4f228a2f6f3cd9", func := "copyhold/copyholdlaw06.RedoPlays", spec := "redoPlays", unfollowed := true, recurses := true, apart := false }
def RedoPlaysSaid : Prop := redoPlaysRow.holds Try.pinned (OpenSpec.ofChange redoPlaysSpec)

/-- ITS FALSE NEIGHBOUR: 'it returns false'. Refute it at one input. -/
def redoPlaysWrong : ChangeSpec := { name := "redoPlays", fn := fun _ => fun
  | [d1, d2] => { results := [.lit (.bool false)], args := [d1, d2] }
  | _ => none }
def RedoPlaysWrongFalsely : Prop := redoPlaysRow.holds Try.pinned (OpenSpec.ofChange redoPlaysWrong)

/-- 'copyholdlaw06.RedoTwice': WHATEVER THE INPUT: true; the input reads as it did. -/
def redoTwiceSpec : ChangeSpec := { name := "redoTwice", fn := fun _ => fun
  | [d1, d2, d3, d4] => { results := [.lit (.bool true)], args := [d1, d2, d3, d4] }
  | _ => none }
def redoTwiceRow : OpenClaim := { program := "ytppbcdcmpcagdaa", sum := "b0387a25ea618a37ab5d8b14bb6b858dc7818e73be58466ebf4f228a2f6f3cd9", func := "copyhold/copyholdlaw06.RedoTwice", spec := "redoTwice", unfollowed := true, recurses := true, apart := false }
def RedoTwiceSaid : Prop := redoTwiceRow.holds Try.pinned (OpenSpec.ofChange redoTwiceSpec)

/-- ITS FALSE NEIGHBOUR: 'it returns false'. Refute it at one input. -/
def redoTwiceWrong : ChangeSpec := { name := "redoTwice", fn := fun _ => fun
  | [d1, d2, d3, d4] => { results := [.lit (.bool false)], args := [d1, d2, d3, d4] }
  | _ => none }
def RedoTwiceWrongFalsely : Prop := redoTwiceRow.holds Try.pinned (OpenSpec.ofChange redoTwiceWrong)

/- THE SECOND FORM. 'bulk': how many values and letters a reading holds, each counted each time it is reached (what is shared counts as often as it is met; a slice's spare places count too). A statement '..UptoSaid' is the law's where the arguments, and the package variables that the reading takes, are together of bulk at most 1048576: NARROWER than '..Said'. Prove '..Said' where nothing that the law and all that it calls make is longer than what came in: it says more and counts as full. Else prove '..UptoSaid'. A law counts once. -/
mutual
def uptoBulk {H : Type} : DataW H → Nat
  | .lit (.string bytes) => bytes.length + 1
  | .lit _ => 1
  | .nil => 1
  | .ptr d => uptoBulk d + 1
  | .slice elems spare => uptoBulkAll elems + uptoBulkAll spare + 1
  | .agg parts => uptoBulkAll parts + 1
  | .iface _ d => uptoBulk d + 1
  | .map entries => uptoBulkEntries entries + 1
  | .held _ => 1
def uptoBulkAll {H : Type} : List (DataW H) → Nat
  | [] => 0
  | d :: r => uptoBulk d + uptoBulkAll r
def uptoBulkEntries {H : Type} : List (Lit × DataW H) → Nat
  | [] => 0
  | x :: r => uptoBulkEntry x + uptoBulkEntries r
def uptoBulkEntry {H : Type} : Lit × DataW H → Nat
  | (.string bytes, d) => bytes.length + uptoBulk d + 1
  | (_, d) => uptoBulk d + 1
 end
def uptoSmall : (H : Type) → List (DataW H) → Bool := fun _ ds => decide (uptoBulkAll ds ≤ 1048576)
def OpenSpec.upto (s : _root_.Go.ChangeSpec) : _root_.Go.OpenSpec := { _root_.Go.OpenSpec.ofChange s with cond := some uptoSmall }

/-- 'copyholdlaw03.FieldWrites', WHERE WHAT IT READS IS OF BULK AT MOST 1048576: true; the input reads as it did. -/
def fieldWritesUptoRow : OpenClaim := { program := "ytppbcdcmpcagdaa", sum := "b0387a25ea618a37ab5d8b14bb6b858dc7818e73be58466ebf4f228a2f6f3cd9", func := "copyhold/copyholdlaw03.FieldWrites", spec := "fieldWrites", unfollowed := true, recurses := true, apart := false, narrowed := true }
def FieldWritesUptoSaid : Prop := fieldWritesUptoRow.holds Try.pinned (OpenSpec.upto fieldWritesSpec)

/-- 'copyholdlaw03.FieldReads', WHERE WHAT IT READS IS OF BULK AT MOST 1048576: true; the input reads as it did. -/
def fieldReadsUptoRow : OpenClaim := { program := "ytppbcdcmpcagdaa", sum := "b0387a25ea618a37ab5d8b14bb6b858dc7818e73be58466ebf4f228a2f6f3cd9", func := "copyhold/copyholdlaw03.FieldReads", spec := "fieldReads", unfollowed := true, recurses := true, apart := false, narrowed := true }
def FieldReadsUptoSaid : Prop := fieldReadsUptoRow.holds Try.pinned (OpenSpec.upto fieldReadsSpec)

/-- 'copyholdlaw03.FieldFrames', WHERE WHAT IT READS IS OF BULK AT MOST 1048576: true; the input reads as it did. -/
def fieldFramesUptoRow : OpenClaim := { program := "ytppbcdcmpcagdaa", sum := "b0387a25ea618a37ab5d8b14bb6b858dc7818e73be58466ebf4f228a2f6f3cd9", func := "copyhold/copyholdlaw03.FieldFrames", spec := "fieldFrames", unfollowed := true, recurses := true, apart := false, narrowed := true }
def FieldFramesUptoSaid : Prop := fieldFramesUptoRow.holds Try.pinned (OpenSpec.upto fieldFramesSpec)

/-- 'copyholdlaw03.FieldSums', WHERE WHAT IT READS IS OF BULK AT MOST 1048576: true; the input reads as it did. -/
def fieldSumsUptoRow : OpenClaim := { program := "ytppbcdcmpcagdaa", sum := "b0387a25ea618a37ab5d8b14bb6b858dc7818e73be58466ebf4f228a2f6f3cd9", func := "copyhold/copyholdlaw03.FieldSums", spec := "fieldSums", unfollowed := true, recurses := true, apart := false, narrowed := true }
def FieldSumsUptoSaid : Prop := fieldSumsUptoRow.holds Try.pinned (OpenSpec.upto fieldSumsSpec)

/-- 'copyholdlaw03.FieldBack', WHERE WHAT IT READS IS OF BULK AT MOST 1048576: true; the input reads as it did. -/
def fieldBackUptoRow : OpenClaim := { program := "ytppbcdcmpcagdaa", sum := "b0387a25ea618a37ab5d8b14bb6b858dc7818e73be58466ebf4f228a2f6f3cd9", func := "copyhold/copyholdlaw03.FieldBack", spec := "fieldBack", unfollowed := true, recurses := true, apart := false, narrowed := true }
def FieldBackUptoSaid : Prop := fieldBackUptoRow.holds Try.pinned (OpenSpec.upto fieldBackSpec)

/-- 'copyholdlaw03.FieldTurned', WHERE WHAT IT READS IS OF BULK AT MOST 1048576: true; the input reads as it did. -/
def fieldTurnedUptoRow : OpenClaim := { program := "ytppbcdcmpcagdaa", sum := "b0387a25ea618a37ab5d8b14bb6b858dc7818e73be58466ebf4f228a2f6f3cd9", func := "copyhold/copyholdlaw03.FieldTurned", spec := "fieldTurned", unfollowed := true, recurses := true, apart := false, narrowed := true }
def FieldTurnedUptoSaid : Prop := fieldTurnedUptoRow.holds Try.pinned (OpenSpec.upto fieldTurnedSpec)

/-- 'copyholdlaw03.FieldApart', WHERE WHAT IT READS IS OF BULK AT MOST 1048576: true; the input reads as it did. -/
def fieldApartUptoRow : OpenClaim := { program := "ytppbcdcmpcagdaa", sum := "b0387a25ea618a37ab5d8b14bb6b858dc7818e73be58466ebf4f228a2f6f3cd9", func := "copyhold/copyholdlaw03.FieldApart", spec := "fieldApart", unfollowed := true, recurses := true, apart := false, narrowed := true }
def FieldApartUptoSaid : Prop := fieldApartUptoRow.holds Try.pinned (OpenSpec.upto fieldApartSpec)

/-- 'copyholdlaw03.FieldBehind', WHERE WHAT IT READS IS OF BULK AT MOST 1048576: true; the input reads as it did. -/
def fieldBehindUptoRow : OpenClaim := { program := "ytppbcdcmpcagdaa", sum := "b0387a25ea618a37ab5d8b14bb6b858dc7818e73be58466ebf4f228a2f6f3cd9", func := "copyhold/copyholdlaw03.FieldBehind", spec := "fieldBehind", unfollowed := true, recurses := true, apart := false, narrowed := true }
def FieldBehindUptoSaid : Prop := fieldBehindUptoRow.holds Try.pinned (OpenSpec.upto fieldBehindSpec)

/-- 'copyholdlaw07.SuperEncodes', WHERE WHAT IT READS IS OF BULK AT MOST 1048576: true; the input reads as it did. -/
def superEncodesUptoRow : OpenClaim := { program := "ytppbcdcmpcagdaa", sum := "b0387a25ea618a37ab5d8b14bb6b858dc7818e73be58466ebf4f228a2f6f3cd9", func := "copyhold/copyholdlaw07.SuperEncodes", spec := "superEncodes", unfollowed := true, recurses := true, apart := false, narrowed := true }
def SuperEncodesUptoSaid : Prop := superEncodesUptoRow.holds Try.pinned (OpenSpec.upto superEncodesSpec)

/-- 'copyholdlaw07.SuperSpoilt', WHERE WHAT IT READS IS OF BULK AT MOST 1048576: true; the input reads as it did. -/
def superSpoiltUptoRow : OpenClaim := { program := "ytppbcdcmpcagdaa", sum := "b0387a25ea618a37ab5d8b14bb6b858dc7818e73be58466ebf4f228a2f6f3cd9", func := "copyhold/copyholdlaw07.SuperSpoilt", spec := "superSpoilt", unfollowed := true, recurses := true, apart := false, narrowed := true }
def SuperSpoiltUptoSaid : Prop := superSpoiltUptoRow.holds Try.pinned (OpenSpec.upto superSpoiltSpec)

/-- 'copyholdlaw07.SuperApart', WHERE WHAT IT READS IS OF BULK AT MOST 1048576: true; the input reads as it did. -/
def superApartUptoRow : OpenClaim := { program := "ytppbcdcmpcagdaa", sum := "b0387a25ea618a37ab5d8b14bb6b858dc7818e73be58466ebf4f228a2f6f3cd9", func := "copyhold/copyholdlaw07.SuperApart", spec := "superApart", unfollowed := true, recurses := true, apart := false, narrowed := true }
def SuperApartUptoSaid : Prop := superApartUptoRow.holds Try.pinned (OpenSpec.upto superApartSpec)

/-- 'copyholdlaw08.SeatEncodes', WHERE WHAT IT READS IS OF BULK AT MOST 1048576: true; the input reads as it did. -/
def seatEncodesUptoRow : OpenClaim := { program := "ytppbcdcmpcagdaa", sum := "b0387a25ea618a37ab5d8b14bb6b858dc7818e73be58466ebf4f228a2f6f3cd9", func := "copyhold/copyholdlaw08.SeatEncodes", spec := "seatEncodes", unfollowed := true, recurses := true, apart := false, narrowed := true }
def SeatEncodesUptoSaid : Prop := seatEncodesUptoRow.holds Try.pinned (OpenSpec.upto seatEncodesSpec)

/-- 'copyholdlaw08.SeatFates', WHERE WHAT IT READS IS OF BULK AT MOST 1048576: true; the input reads as it did. -/
def seatFatesUptoRow : OpenClaim := { program := "ytppbcdcmpcagdaa", sum := "b0387a25ea618a37ab5d8b14bb6b858dc7818e73be58466ebf4f228a2f6f3cd9", func := "copyhold/copyholdlaw08.SeatFates", spec := "seatFates", unfollowed := true, recurses := true, apart := false, narrowed := true }
def SeatFatesUptoSaid : Prop := seatFatesUptoRow.holds Try.pinned (OpenSpec.upto seatFatesSpec)

/-- 'copyholdlaw08.SeatOnce', WHERE WHAT IT READS IS OF BULK AT MOST 1048576: true; the input reads as it did. -/
def seatOnceUptoRow : OpenClaim := { program := "ytppbcdcmpcagdaa", sum := "b0387a25ea618a37ab5d8b14bb6b858dc7818e73be58466ebf4f228a2f6f3cd9", func := "copyhold/copyholdlaw08.SeatOnce", spec := "seatOnce", unfollowed := true, recurses := true, apart := false, narrowed := true }
def SeatOnceUptoSaid : Prop := seatOnceUptoRow.holds Try.pinned (OpenSpec.upto seatOnceSpec)

/-- 'copyholdlaw08.SeatSpoilt', WHERE WHAT IT READS IS OF BULK AT MOST 1048576: true; the input reads as it did. -/
def seatSpoiltUptoRow : OpenClaim := { program := "ytppbcdcmpcagdaa", sum := "b0387a25ea618a37ab5d8b14bb6b858dc7818e73be58466ebf4f228a2f6f3cd9", func := "copyhold/copyholdlaw08.SeatSpoilt", spec := "seatSpoilt", unfollowed := true, recurses := true, apart := false, narrowed := true }
def SeatSpoiltUptoSaid : Prop := seatSpoiltUptoRow.holds Try.pinned (OpenSpec.upto seatSpoiltSpec)

/-- 'copyholdlaw10.NodePuts', WHERE WHAT IT READS IS OF BULK AT MOST 1048576: true; the input reads as it did. -/
def nodePutsUptoRow : OpenClaim := { program := "ytppbcdcmpcagdaa", sum := "b0387a25ea618a37ab5d8b14bb6b858dc7818e73be58466ebf4f228a2f6f3cd9", func := "copyhold/copyholdlaw10.NodePuts", spec := "nodePuts", unfollowed := true, recurses := true, apart := false, narrowed := true }
def NodePutsUptoSaid : Prop := nodePutsUptoRow.holds Try.pinned (OpenSpec.upto nodePutsSpec)

/-- 'copyholdlaw10.NodeGets', WHERE WHAT IT READS IS OF BULK AT MOST 1048576: true; the input reads as it did. -/
def nodeGetsUptoRow : OpenClaim := { program := "ytppbcdcmpcagdaa", sum := "b0387a25ea618a37ab5d8b14bb6b858dc7818e73be58466ebf4f228a2f6f3cd9", func := "copyhold/copyholdlaw10.NodeGets", spec := "nodeGets", unfollowed := true, recurses := true, apart := false, narrowed := true }
def NodeGetsUptoSaid : Prop := nodeGetsUptoRow.holds Try.pinned (OpenSpec.upto nodeGetsSpec)

/-- 'copyholdlaw10.NodeFour', WHERE WHAT IT READS IS OF BULK AT MOST 1048576: true; the input reads as it did. -/
def nodeFourUptoRow : OpenClaim := { program := "ytppbcdcmpcagdaa", sum := "b0387a25ea618a37ab5d8b14bb6b858dc7818e73be58466ebf4f228a2f6f3cd9", func := "copyhold/copyholdlaw10.NodeFour", spec := "nodeFour", unfollowed := true, recurses := true, apart := false, narrowed := true }
def NodeFourUptoSaid : Prop := nodeFourUptoRow.holds Try.pinned (OpenSpec.upto nodeFourSpec)

/-- 'copyholdlaw10.NodeApart', WHERE WHAT IT READS IS OF BULK AT MOST 1048576: true; the input reads as it did. -/
def nodeApartUptoRow : OpenClaim := { program := "ytppbcdcmpcagdaa", sum := "b0387a25ea618a37ab5d8b14bb6b858dc7818e73be58466ebf4f228a2f6f3cd9", func := "copyhold/copyholdlaw10.NodeApart", spec := "nodeApart", unfollowed := true, recurses := true, apart := false, narrowed := true }
def NodeApartUptoSaid : Prop := nodeApartUptoRow.holds Try.pinned (OpenSpec.upto nodeApartSpec)

/-- 'copyholdlaw17.VerbAsks', WHERE WHAT IT READS IS OF BULK AT MOST 1048576: true; the input reads as it did. -/
def verbAsksUptoRow : OpenClaim := { program := "ytppbcdcmpcagdaa", sum := "b0387a25ea618a37ab5d8b14bb6b858dc7818e73be58466ebf4f228a2f6f3cd9", func := "copyhold/copyholdlaw17.VerbAsks", spec := "verbAsks", unfollowed := true, recurses := true, apart := false, narrowed := true }
def VerbAsksUptoSaid : Prop := verbAsksUptoRow.holds Try.pinned (OpenSpec.upto verbAsksSpec)

/-- 'copyholdlaw17.VerbAsked', WHERE WHAT IT READS IS OF BULK AT MOST 1048576: true; the input reads as it did. -/
def verbAskedUptoRow : OpenClaim := { program := "ytppbcdcmpcagdaa", sum := "b0387a25ea618a37ab5d8b14bb6b858dc7818e73be58466ebf4f228a2f6f3cd9", func := "copyhold/copyholdlaw17.VerbAsked", spec := "verbAsked", unfollowed := true, recurses := true, apart := false, narrowed := true }
def VerbAskedUptoSaid : Prop := verbAskedUptoRow.holds Try.pinned (OpenSpec.upto verbAskedSpec)

/-- 'copyholdlaw17.VerbAnswers', WHERE WHAT IT READS IS OF BULK AT MOST 1048576: true; the input reads as it did. -/
def verbAnswersUptoRow : OpenClaim := { program := "ytppbcdcmpcagdaa", sum := "b0387a25ea618a37ab5d8b14bb6b858dc7818e73be58466ebf4f228a2f6f3cd9", func := "copyhold/copyholdlaw17.VerbAnswers", spec := "verbAnswers", unfollowed := true, recurses := true, apart := false, narrowed := true }
def VerbAnswersUptoSaid : Prop := verbAnswersUptoRow.holds Try.pinned (OpenSpec.upto verbAnswersSpec)

/-- 'copyholdlaw17.VerbSpoilt', WHERE WHAT IT READS IS OF BULK AT MOST 1048576: true; the input reads as it did. -/
def verbSpoiltUptoRow : OpenClaim := { program := "ytppbcdcmpcagdaa", sum := "b0387a25ea618a37ab5d8b14bb6b858dc7818e73be58466ebf4f228a2f6f3cd9", func := "copyhold/copyholdlaw17.VerbSpoilt", spec := "verbSpoilt", unfollowed := true, recurses := true, apart := false, narrowed := true }
def VerbSpoiltUptoSaid : Prop := verbSpoiltUptoRow.holds Try.pinned (OpenSpec.upto verbSpoiltSpec)

/-- 'copyholdlaw17.VerbCalls', WHERE WHAT IT READS IS OF BULK AT MOST 1048576: true; the input reads as it did. -/
def verbCallsUptoRow : OpenClaim := { program := "ytppbcdcmpcagdaa", sum := "b0387a25ea618a37ab5d8b14bb6b858dc7818e73be58466ebf4f228a2f6f3cd9", func := "copyhold/copyholdlaw17.VerbCalls", spec := "verbCalls", unfollowed := true, recurses := true, apart := false, narrowed := true }
def VerbCallsUptoSaid : Prop := verbCallsUptoRow.holds Try.pinned (OpenSpec.upto verbCallsSpec)

/-- 'copyholdlaw17.VerbOne', WHERE WHAT IT READS IS OF BULK AT MOST 1048576: true; the input reads as it did. -/
def verbOneUptoRow : OpenClaim := { program := "ytppbcdcmpcagdaa", sum := "b0387a25ea618a37ab5d8b14bb6b858dc7818e73be58466ebf4f228a2f6f3cd9", func := "copyhold/copyholdlaw17.VerbOne", spec := "verbOne", unfollowed := true, recurses := true, apart := false, narrowed := true }
def VerbOneUptoSaid : Prop := verbOneUptoRow.holds Try.pinned (OpenSpec.upto verbOneSpec)

/-- 'copyholdlaw17.VerbShorts', WHERE WHAT IT READS IS OF BULK AT MOST 1048576: true; the input reads as it did. -/
def verbShortsUptoRow : OpenClaim := { program := "ytppbcdcmpcagdaa", sum := "b0387a25ea618a37ab5d8b14bb6b858dc7818e73be58466ebf4f228a2f6f3cd9", func := "copyhold/copyholdlaw17.VerbShorts", spec := "verbShorts", unfollowed := true, recurses := true, apart := false, narrowed := true }
def VerbShortsUptoSaid : Prop := verbShortsUptoRow.holds Try.pinned (OpenSpec.upto verbShortsSpec)

/-- 'copyholdlaw05.DriveLasts', WHERE WHAT IT READS IS OF BULK AT MOST 1048576: true; the input reads as it did. -/
def driveLastsUptoRow : OpenClaim := { program := "ytppbcdcmpcagdaa", sum := "b0387a25ea618a37ab5d8b14bb6b858dc7818e73be58466ebf4f228a2f6f3cd9", func := "copyhold/copyholdlaw05.DriveLasts", spec := "driveLasts", unfollowed := true, recurses := true, apart := false, narrowed := true }
def DriveLastsUptoSaid : Prop := driveLastsUptoRow.holds Try.pinned (OpenSpec.upto driveLastsSpec)

/-- 'copyholdlaw05.DriveFuse', WHERE WHAT IT READS IS OF BULK AT MOST 1048576: true; the input reads as it did. -/
def driveFuseUptoRow : OpenClaim := { program := "ytppbcdcmpcagdaa", sum := "b0387a25ea618a37ab5d8b14bb6b858dc7818e73be58466ebf4f228a2f6f3cd9", func := "copyhold/copyholdlaw05.DriveFuse", spec := "driveFuse", unfollowed := true, recurses := true, apart := false, narrowed := true }
def DriveFuseUptoSaid : Prop := driveFuseUptoRow.holds Try.pinned (OpenSpec.upto driveFuseSpec)

/-- 'copyholdlaw05.DriveOwn', WHERE WHAT IT READS IS OF BULK AT MOST 1048576: true; the input reads as it did. -/
def driveOwnUptoRow : OpenClaim := { program := "ytppbcdcmpcagdaa", sum := "b0387a25ea618a37ab5d8b14bb6b858dc7818e73be58466ebf4f228a2f6f3cd9", func := "copyhold/copyholdlaw05.DriveOwn", spec := "driveOwn", unfollowed := true, recurses := true, apart := false, narrowed := true }
def DriveOwnUptoSaid : Prop := driveOwnUptoRow.holds Try.pinned (OpenSpec.upto driveOwnSpec)

/-- 'copyholdlaw05.DrivePlays', WHERE WHAT IT READS IS OF BULK AT MOST 1048576: true; the input reads as it did. -/
def drivePlaysUptoRow : OpenClaim := { program := "ytppbcdcmpcagdaa", sum := "b0387a25ea618a37ab5d8b14bb6b858dc7818e73be58466ebf4f228a2f6f3cd9", func := "copyhold/copyholdlaw05.DrivePlays", spec := "drivePlays", unfollowed := true, recurses := true, apart := false, narrowed := true }
def DrivePlaysUptoSaid : Prop := drivePlaysUptoRow.holds Try.pinned (OpenSpec.upto drivePlaysSpec)

/-- 'copyholdlaw05.DriveNone', WHERE WHAT IT READS IS OF BULK AT MOST 1048576: true; the input reads as it did. -/
def driveNoneUptoRow : OpenClaim := { program := "ytppbcdcmpcagdaa", sum := "b0387a25ea618a37ab5d8b14bb6b858dc7818e73be58466ebf4f228a2f6f3cd9", func := "copyhold/copyholdlaw05.DriveNone", spec := "driveNone", unfollowed := true, recurses := true, apart := false, narrowed := true }
def DriveNoneUptoSaid : Prop := driveNoneUptoRow.holds Try.pinned (OpenSpec.upto driveNoneSpec)

/-- 'copyholdlaw05.DriveTwo', WHERE WHAT IT READS IS OF BULK AT MOST 1048576: true; the input reads as it did. -/
def driveTwoUptoRow : OpenClaim := { program := "ytppbcdcmpcagdaa", sum := "b0387a25ea618a37ab5d8b14bb6b858dc7818e73be58466ebf4f228a2f6f3cd9", func := "copyhold/copyholdlaw05.DriveTwo", spec := "driveTwo", unfollowed := true, recurses := true, apart := false, narrowed := true }
def DriveTwoUptoSaid : Prop := driveTwoUptoRow.holds Try.pinned (OpenSpec.upto driveTwoSpec)

/-- 'copyholdlaw06.RedoHeads', WHERE WHAT IT READS IS OF BULK AT MOST 1048576: true; the input reads as it did. -/
def redoHeadsUptoRow : OpenClaim := { program := "ytppbcdcmpcagdaa", sum := "b0387a25ea618a37ab5d8b14bb6b858dc7818e73be58466ebf4f228a2f6f3cd9", func := "copyhold/copyholdlaw06.RedoHeads", spec := "redoHeads", unfollowed := true, recurses := true, apart := false, narrowed := true }
def RedoHeadsUptoSaid : Prop := redoHeadsUptoRow.holds Try.pinned (OpenSpec.upto redoHeadsSpec)

/-- 'copyholdlaw06.RedoLast', WHERE WHAT IT READS IS OF BULK AT MOST 1048576: true; the input reads as it did. -/
def redoLastUptoRow : OpenClaim := { program := "ytppbcdcmpcagdaa", sum := "b0387a25ea618a37ab5d8b14bb6b858dc7818e73be58466ebf4f228a2f6f3cd9", func := "copyhold/copyholdlaw06.RedoLast", spec := "redoLast", unfollowed := true, recurses := true, apart := false, narrowed := true }
def RedoLastUptoSaid : Prop := redoLastUptoRow.holds Try.pinned (OpenSpec.upto redoLastSpec)

/-- 'copyholdlaw06.RedoNone', WHERE WHAT IT READS IS OF BULK AT MOST 1048576: true; the input reads as it did. -/
def redoNoneUptoRow : OpenClaim := { program := "ytppbcdcmpcagdaa", sum := "b0387a25ea618a37ab5d8b14bb6b858dc7818e73be58466ebf4f228a2f6f3cd9", func := "copyhold/copyholdlaw06.RedoNone", spec := "redoNone", unfollowed := true, recurses := true, apart := false, narrowed := true }
def RedoNoneUptoSaid : Prop := redoNoneUptoRow.holds Try.pinned (OpenSpec.upto redoNoneSpec)

/-- 'copyholdlaw06.RedoPlays', WHERE WHAT IT READS IS OF BULK AT MOST 1048576: true; the input reads as it did. -/
def redoPlaysUptoRow : OpenClaim := { program := "ytppbcdcmpcagdaa", sum := "b0387a25ea618a37ab5d8b14bb6b858dc7818e73be58466ebf4f228a2f6f3cd9", func := "copyhold/copyholdlaw06.RedoPlays", spec := "redoPlays", unfollowed := true, recurses := true, apart := false, narrowed := true }
def RedoPlaysUptoSaid : Prop := redoPlaysUptoRow.holds Try.pinned (OpenSpec.upto redoPlaysSpec)

/-- 'copyholdlaw06.RedoTwice', WHERE WHAT IT READS IS OF BULK AT MOST 1048576: true; the input reads as it did. -/
def redoTwiceUptoRow : OpenClaim := { program := "ytppbcdcmpcagdaa", sum := "b0387a25ea618a37ab5d8b14bb6b858dc7818e73be58466ebf4f228a2f6f3cd9", func := "copyhold/copyholdlaw06.RedoTwice", spec := "redoTwice", unfollowed := true, recurses := true, apart := false, narrowed := true }
def RedoTwiceUptoSaid : Prop := redoTwiceUptoRow.holds Try.pinned (OpenSpec.upto redoTwiceSpec)

end Rows
end Go.Proofs.Ytppbcdcmpcagdaa
