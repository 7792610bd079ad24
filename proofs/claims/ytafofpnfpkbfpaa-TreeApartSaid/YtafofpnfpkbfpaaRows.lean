/-
  No cell of these rows narrows 'for every input' (looked for: loops, veiled, ifaces, maps, wideKeys, modest, calm, conditions, laid).
  DERIVED. THE GIVEN ROWS OF THIS SEAT. 9 by the template 'for every input the law returns true; each argument reads behind the call as it read before'; 0 by the template 'total and deterministic' (their statements: YtafofpnfpkbfpaaTotals.lean).
  GIVEN WITH THE SEED: the statements are not yours to turn. If you find one false, say at which input.
  Laid BY PROGRAM, IN A SANDBOX (cutbox-rows.mjs): the forced cells as the released guide's own fill.sh prints them over the translation f946f03ed981350a… (all of the seat's roots in one cut). By AI agents, Wed Nov 11 2026. No macro, syntax, notation, axiom, sorry.
-/
import Derived.Test.YtafofpnfpkbfpaaChecked
import GoSem.Claim
import GoSem.ClaimJoined
import GoSem.ClaimMapViews
import Derived.JoinedTies
import Derived.KernelRfl
namespace Go.Proofs.Ytafofpnfpkbfpaa
/- THE CELL 'sum', in the pinned program and in every row, IS THE sha256 OF THE DUMP (.gsa) THAT YtafofpnfpkbfpaaProg.lean LOADS. Nothing in Lean hashes anything: it is a label: what it is worth is what the hold of that sum in a sandbox is worth. -/
noncomputable def Try.pinned : Pinned := { name := "ytafofpnfpkbfpaa", sum := "f946f03ed981350ae2f769465dfa408bed8c8de30fb61b45d527f1570616a7f7", checked := Try.checked }
namespace Rows
def none {H : Type} : Left H := { results := [], args := [] }

/-- 'copyholdlaw11.TreeRoutes': WHATEVER THE INPUT: true; the input reads as it did. -/
def treeRoutesSpec : ChangeSpec := { name := "treeRoutes", fn := fun _ => fun
  | [d] => { results := [.lit (.bool true)], args := [d] }
  | _ => none }
def treeRoutesRow : OpenClaim := { program := "ytafofpnfpkbfpaa", sum := "f946f03ed981350ae2f769465dfa408bed8c8de30fb61b45d527f1570616a7f7", func := "copyhold/copyholdlaw11.TreeRoutes", spec := "treeRoutes", unfollowed := true, recurses := true, apart := false }
def TreeRoutesSaid : Prop := treeRoutesRow.holds Try.pinned (OpenSpec.ofChange treeRoutesSpec)

/-- ITS FALSE NEIGHBOUR: 'it returns false'. Refute it at one input. -/
def treeRoutesWrong : ChangeSpec := { name := "treeRoutes", fn := fun _ => fun
  | [d] => { results := [.lit (.bool false)], args := [d] }
  | _ => none }
def TreeRoutesWrongFalsely : Prop := treeRoutesRow.holds Try.pinned (OpenSpec.ofChange treeRoutesWrong)

/-- 'copyholdlaw11.TreePointers': WHATEVER THE INPUT: true; the input reads as it did. -/
def treePointersSpec : ChangeSpec := { name := "treePointers", fn := fun _ => fun
  | [d1, d2] => { results := [.lit (.bool true)], args := [d1, d2] }
  | _ => none }
def treePointersRow : OpenClaim := { program := "ytafofpnfpkbfpaa", sum := "f946f03ed981350ae2f769465dfa408bed8c8de30fb61b45d527f1570616a7f7", func := "copyhold/copyholdlaw11.TreePointers", spec := "treePointers", unfollowed := true, recurses := true, apart := false }
def TreePointersSaid : Prop := treePointersRow.holds Try.pinned (OpenSpec.ofChange treePointersSpec)

/-- ITS FALSE NEIGHBOUR: 'it returns false'. Refute it at one input. -/
def treePointersWrong : ChangeSpec := { name := "treePointers", fn := fun _ => fun
  | [d1, d2] => { results := [.lit (.bool false)], args := [d1, d2] }
  | _ => none }
def TreePointersWrongFalsely : Prop := treePointersRow.holds Try.pinned (OpenSpec.ofChange treePointersWrong)

/-- 'copyholdlaw11.TreeBack': WHATEVER THE INPUT: true; the input reads as it did. -/
def treeBackSpec : ChangeSpec := { name := "treeBack", fn := fun _ => fun
  | [d] => { results := [.lit (.bool true)], args := [d] }
  | _ => none }
def treeBackRow : OpenClaim := { program := "ytafofpnfpkbfpaa", sum := "f946f03ed981350ae2f769465dfa408bed8c8de30fb61b45d527f1570616a7f7", func := "copyhold/copyholdlaw11.TreeBack", spec := "treeBack", unfollowed := true, recurses := true, apart := false }
def TreeBackSaid : Prop := treeBackRow.holds Try.pinned (OpenSpec.ofChange treeBackSpec)

/-- ITS FALSE NEIGHBOUR: 'it returns false'. Refute it at one input. -/
def treeBackWrong : ChangeSpec := { name := "treeBack", fn := fun _ => fun
  | [d] => { results := [.lit (.bool false)], args := [d] }
  | _ => none }
def TreeBackWrongFalsely : Prop := treeBackRow.holds Try.pinned (OpenSpec.ofChange treeBackWrong)

/-- 'copyholdlaw11.TreeParts': WHATEVER THE INPUT: true; the input reads as it did. -/
def treePartsSpec : ChangeSpec := { name := "treeParts", fn := fun _ => fun
  | [d1, d2] => { results := [.lit (.bool true)], args := [d1, d2] }
  | _ => none }
def treePartsRow : OpenClaim := { program := "ytafofpnfpkbfpaa", sum := "f946f03ed981350ae2f769465dfa408bed8c8de30fb61b45d527f1570616a7f7", func := "copyhold/copyholdlaw11.TreeParts", spec := "treeParts", unfollowed := true, recurses := true, apart := false }
def TreePartsSaid : Prop := treePartsRow.holds Try.pinned (OpenSpec.ofChange treePartsSpec)

/-- ITS FALSE NEIGHBOUR: 'it returns false'. Refute it at one input. -/
def treePartsWrong : ChangeSpec := { name := "treeParts", fn := fun _ => fun
  | [d1, d2] => { results := [.lit (.bool false)], args := [d1, d2] }
  | _ => none }
def TreePartsWrongFalsely : Prop := treePartsRow.holds Try.pinned (OpenSpec.ofChange treePartsWrong)

/-- 'copyholdlaw11.TreeApart': WHATEVER THE INPUT: true; the input reads as it did. -/
def treeApartSpec : ChangeSpec := { name := "treeApart", fn := fun _ => fun
  | [d1, d2, d3, d4, d5] => { results := [.lit (.bool true)], args := [d1, d2, d3, d4, d5] }
  | _ => none }
def treeApartRow : OpenClaim := { program := "ytafofpnfpkbfpaa", sum := "f946f03ed981350ae2f769465dfa408bed8c8de30fb61b45d527f1570616a7f7", func := "copyhold/copyholdlaw11.TreeApart", spec := "treeApart", unfollowed := true, recurses := true, apart := false }
def TreeApartSaid : Prop := treeApartRow.holds Try.pinned (OpenSpec.ofChange treeApartSpec)

/-- ITS FALSE NEIGHBOUR: 'it returns false'. Refute it at one input. -/
def treeApartWrong : ChangeSpec := { name := "treeApart", fn := fun _ => fun
  | [d1, d2, d3, d4, d5] => { results := [.lit (.bool false)], args := [d1, d2, d3, d4, d5] }
  | _ => none }
def TreeApartWrongFalsely : Prop := treeApartRow.holds Try.pinned (OpenSpec.ofChange treeApartWrong)

/-- 'copyholdlaw09.MarksSets': WHATEVER THE INPUT: true; the input reads as it did. -/
def marksSetsSpec : ChangeSpec := { name := "marksSets", fn := fun _ => fun
  | [d1, d2, d3] => { results := [.lit (.bool true)], args := [d1, d2, d3] }
  | _ => none }
def marksSetsRow : OpenClaim := { program := "ytafofpnfpkbfpaa", sum := "f946f03ed981350ae2f769465dfa408bed8c8de30fb61b45d527f1570616a7f7", func := "copyhold/copyholdlaw09.MarksSets", spec := "marksSets", apart := false }
def MarksSetsSaid : Prop := marksSetsRow.holds Try.pinned (OpenSpec.ofChange marksSetsSpec)

/-- ITS FALSE NEIGHBOUR: 'it returns false'. Refute it at one input. -/
def marksSetsWrong : ChangeSpec := { name := "marksSets", fn := fun _ => fun
  | [d1, d2, d3] => { results := [.lit (.bool false)], args := [d1, d2, d3] }
  | _ => none }
def MarksSetsWrongFalsely : Prop := marksSetsRow.holds Try.pinned (OpenSpec.ofChange marksSetsWrong)

/-- 'copyholdlaw09.MarksFinds': WHATEVER THE INPUT: true; the input reads as it did. -/
def marksFindsSpec : ChangeSpec := { name := "marksFinds", fn := fun _ => fun
  | [d1, d2, d3] => { results := [.lit (.bool true)], args := [d1, d2, d3] }
  | _ => none }
def marksFindsRow : OpenClaim := { program := "ytafofpnfpkbfpaa", sum := "f946f03ed981350ae2f769465dfa408bed8c8de30fb61b45d527f1570616a7f7", func := "copyhold/copyholdlaw09.MarksFinds", spec := "marksFinds", apart := false }
def MarksFindsSaid : Prop := marksFindsRow.holds Try.pinned (OpenSpec.ofChange marksFindsSpec)

/-- ITS FALSE NEIGHBOUR: 'it returns false'. Refute it at one input. -/
def marksFindsWrong : ChangeSpec := { name := "marksFinds", fn := fun _ => fun
  | [d1, d2, d3] => { results := [.lit (.bool false)], args := [d1, d2, d3] }
  | _ => none }
def MarksFindsWrongFalsely : Prop := marksFindsRow.holds Try.pinned (OpenSpec.ofChange marksFindsWrong)

/-- 'copyholdlaw09.MarksFills': WHATEVER THE INPUT: true; the input reads as it did. -/
def marksFillsSpec : ChangeSpec := { name := "marksFills", fn := fun _ => fun
  | [d1, d2, d3] => { results := [.lit (.bool true)], args := [d1, d2, d3] }
  | _ => none }
def marksFillsRow : OpenClaim := { program := "ytafofpnfpkbfpaa", sum := "f946f03ed981350ae2f769465dfa408bed8c8de30fb61b45d527f1570616a7f7", func := "copyhold/copyholdlaw09.MarksFills", spec := "marksFills", apart := false }
def MarksFillsSaid : Prop := marksFillsRow.holds Try.pinned (OpenSpec.ofChange marksFillsSpec)

/-- ITS FALSE NEIGHBOUR: 'it returns false'. Refute it at one input. -/
def marksFillsWrong : ChangeSpec := { name := "marksFills", fn := fun _ => fun
  | [d1, d2, d3] => { results := [.lit (.bool false)], args := [d1, d2, d3] }
  | _ => none }
def MarksFillsWrongFalsely : Prop := marksFillsRow.holds Try.pinned (OpenSpec.ofChange marksFillsWrong)

/-- 'copyholdlaw09.MarksBack': WHATEVER THE INPUT: true; the input reads as it did. -/
def marksBackSpec : ChangeSpec := { name := "marksBack", fn := fun _ => fun
  | [d1, d2, d3] => { results := [.lit (.bool true)], args := [d1, d2, d3] }
  | _ => none }
def marksBackRow : OpenClaim := { program := "ytafofpnfpkbfpaa", sum := "f946f03ed981350ae2f769465dfa408bed8c8de30fb61b45d527f1570616a7f7", func := "copyhold/copyholdlaw09.MarksBack", spec := "marksBack", apart := false }
def MarksBackSaid : Prop := marksBackRow.holds Try.pinned (OpenSpec.ofChange marksBackSpec)

/-- ITS FALSE NEIGHBOUR: 'it returns false'. Refute it at one input. -/
def marksBackWrong : ChangeSpec := { name := "marksBack", fn := fun _ => fun
  | [d1, d2, d3] => { results := [.lit (.bool false)], args := [d1, d2, d3] }
  | _ => none }
def MarksBackWrongFalsely : Prop := marksBackRow.holds Try.pinned (OpenSpec.ofChange marksBackWrong)

/- THE SECOND FORM. 'bulk': how many values and letters a reading holds, each counted each time it is reached (what is shared counts as often as it is met; a slice's spare places count too). A statement '..UptoSaid' is the law's where the arguments, and the package variables that the reading takes, are together of bulk at most 1048576: NARROWER than '..Said'. Prove '..Said' where nothing that the law and all that it calls make is longer than what came in: it says more and counts as full. Else prove '..UptoSaid'. A law counts once. -/
mutual
def uptoBulk {H : Type} : DataW H → Nat
  | .lit (.string bytes) => bytes.length + 1
  | .lit _ => 1
  | .nil => 1
  | .ptr d => uptoBulk d + 1
  | .slice elems spare => uptoBulkAll elems + uptoBulkAll spare + 1
  | .agg parts => uptoBulkAll parts + 1
  | .iface _ d => uptoBulk d + 1
  | .map entries => uptoBulkEntries entries + 1
  | .held _ => 1
def uptoBulkAll {H : Type} : List (DataW H) → Nat
  | [] => 0
  | d :: r => uptoBulk d + uptoBulkAll r
def uptoBulkEntries {H : Type} : List (Lit × DataW H) → Nat
  | [] => 0
  | x :: r => uptoBulkEntry x + uptoBulkEntries r
def uptoBulkEntry {H : Type} : Lit × DataW H → Nat
  | (.string bytes, d) => bytes.length + uptoBulk d + 1
  | (_, d) => uptoBulk d + 1
 end
def uptoSmall : (H : Type) → List (DataW H) → Bool := fun _ ds => decide (uptoBulkAll ds ≤ 1048576)
def OpenSpec.upto (s : _root_.Go.ChangeSpec) : _root_.Go.OpenSpec := { _root_.Go.OpenSpec.ofChange s with cond := some uptoSmall }

/-- 'copyholdlaw11.TreeRoutes', WHERE WHAT IT READS IS OF BULK AT MOST 1048576: true; the input reads as it did. -/
def treeRoutesUptoRow : OpenClaim := { program := "ytafofpnfpkbfpaa", sum := "f946f03ed981350ae2f769465dfa408bed8c8de30fb61b45d527f1570616a7f7", func := "copyhold/copyholdlaw11.TreeRoutes", spec := "treeRoutes", unfollowed := true, recurses := true, apart := false, narrowed := true }
def TreeRoutesUptoSaid : Prop := treeRoutesUptoRow.holds Try.pinned (OpenSpec.upto treeRoutesSpec)

/-- 'copyholdlaw11.TreePointers', WHERE WHAT IT READS IS OF BULK AT MOST 1048576: true; the input reads as it did. -/
def treePointersUptoRow : OpenClaim := { program := "ytafofpnfpkbfpaa", sum := "f946f03ed981350ae2f769465dfa408bed8c8de30fb61b45d527f1570616a7f7", func := "copyhold/copyholdlaw11.TreePointers", spec := "treePointers", unfollowed := true, recurses := true, apart := false, narrowed := true }
def TreePointersUptoSaid : Prop := treePointersUptoRow.holds Try.pinned (OpenSpec.upto treePointersSpec)

/-- 'copyholdlaw11.TreeBack', WHERE WHAT IT READS IS OF BULK AT MOST 1048576: true; the input reads as it did. -/
def treeBackUptoRow : OpenClaim := { program := "ytafofpnfpkbfpaa", sum := "f946f03ed981350ae2f769465dfa408bed8c8de30fb61b45d527f1570616a7f7", func := "copyhold/copyholdlaw11.TreeBack", spec := "treeBack", unfollowed := true, recurses := true, apart := false, narrowed := true }
def TreeBackUptoSaid : Prop := treeBackUptoRow.holds Try.pinned (OpenSpec.upto treeBackSpec)

/-- 'copyholdlaw11.TreeParts', WHERE WHAT IT READS IS OF BULK AT MOST 1048576: true; the input reads as it did. -/
def treePartsUptoRow : OpenClaim := { program := "ytafofpnfpkbfpaa", sum := "f946f03ed981350ae2f769465dfa408bed8c8de30fb61b45d527f1570616a7f7", func := "copyhold/copyholdlaw11.TreeParts", spec := "treeParts", unfollowed := true, recurses := true, apart := false, narrowed := true }
def TreePartsUptoSaid : Prop := treePartsUptoRow.holds Try.pinned (OpenSpec.upto treePartsSpec)

/-- 'copyholdlaw11.TreeApart', WHERE WHAT IT READS IS OF BULK AT MOST 1048576: true; the input reads as it did. -/
def treeApartUptoRow : OpenClaim := { program := "ytafofpnfpkbfpaa", sum := "f946f03ed981350ae2f769465dfa408bed8c8de30fb61b45d527f1570616a7f7", func := "copyhold/copyholdlaw11.TreeApart", spec := "treeApart", unfollowed := true, recurses := true, apart := false, narrowed := true }
def TreeApartUptoSaid : Prop := treeApartUptoRow.holds Try.pinned (OpenSpec.upto treeApartSpec)

/-- 'copyholdlaw09.MarksSets', WHERE WHAT IT READS IS OF BULK AT MOST 1048576: true; the input reads as it did. -/
def marksSetsUptoRow : OpenClaim := { program := "ytafofpnfpkbfpaa", sum := "f946f03ed981350ae2f769465dfa408bed8c8de30fb61b45d527f1570616a7f7", func := "copyhold/copyholdlaw09.MarksSets", spec := "marksSets", apart := false, narrowed := true }
def MarksSetsUptoSaid : Prop := marksSetsUptoRow.holds Try.pinned (OpenSpec.upto marksSetsSpec)

/-- 'copyholdlaw09.MarksFinds', WHERE WHAT IT READS IS OF BULK AT MOST 1048576: true; the input reads as it did. -/
def marksFindsUptoRow : OpenClaim := { program := "ytafofpnfpkbfpaa", sum := "f946f03ed981350ae2f769465dfa408bed8c8de30fb61b45d527f1570616a7f7", func := "copyhold/copyholdlaw09.MarksFinds", spec := "marksFinds", apart := false, narrowed := true }
def MarksFindsUptoSaid : Prop := marksFindsUptoRow.holds Try.pinned (OpenSpec.upto marksFindsSpec)

/-- 'copyholdlaw09.MarksFills', WHERE WHAT IT READS IS OF BULK AT MOST 1048576: true; the input reads as it did. -/
def marksFillsUptoRow : OpenClaim := { program := "ytafofpnfpkbfpaa", sum := "f946f03ed981350ae2f769465dfa408bed8c8de30fb61b45d527f1570616a7f7", func := "copyhold/copyholdlaw09.MarksFills", spec := "marksFills", apart := false, narrowed := true }
def MarksFillsUptoSaid : Prop := marksFillsUptoRow.holds Try.pinned (OpenSpec.upto marksFillsSpec)

/-- 'copyholdlaw09.MarksBack', WHERE WHAT IT READS IS OF BULK AT MOST 1048576: true; the input reads as it did. -/
def marksBackUptoRow : OpenClaim := { program := "ytafofpnfpkbfpaa", sum := "f946f03ed981350ae2f769465dfa408bed8c8de30fb61b45d527f1570616a7f7", func := "copyhold/copyholdlaw09.MarksBack", spec := "marksBack", apart := false, narrowed := true }
def MarksBackUptoSaid : Prop := marksBackUptoRow.holds Try.pinned (OpenSpec.upto marksBackSpec)

end Rows
end Go.Proofs.Ytafofpnfpkbfpaa
