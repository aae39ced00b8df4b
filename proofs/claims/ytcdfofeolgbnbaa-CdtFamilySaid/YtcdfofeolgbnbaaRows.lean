/-
  No cell of these rows narrows 'for every input' (looked for: loops, veiled, ifaces, maps, wideKeys, modest, calm, conditions, laid).
  DERIVED. THE GIVEN ROWS OF THIS SEAT. 5 by the template 'for every input the law returns true; each argument reads behind the call as it read before'; 0 by the template 'total and deterministic' (their statements: YtcdfofeolgbnbaaTotals.lean).
  GIVEN WITH THE SEED: the statements are not yours to turn. If you find one false, say at which input.
  Laid BY PROGRAM, IN A SANDBOX (cutbox-rows.mjs): the forced cells as the released guide's own fill.sh prints them over the translation 2da7673565724de4… (all of the seat's roots in one cut). By AI agents, Wed Nov 11 2026. No macro, syntax, notation, axiom, sorry.
-/
import Derived.Test.YtcdfofeolgbnbaaChecked
import GoSem.Claim
import GoSem.ClaimJoined
import GoSem.ClaimMapViews
import Derived.JoinedTies
import Derived.KernelRfl
namespace Go.Proofs.Ytcdfofeolgbnbaa
/- THE CELL 'sum', in the pinned program and in every row, IS THE sha256 OF THE DUMP (.gsa) THAT YtcdfofeolgbnbaaProg.lean LOADS. Nothing in Lean hashes anything: it is a label: what it is worth is what the hold of that sum in a sandbox is worth. -/
noncomputable def Try.pinned : Pinned := { name := "ytcdfofeolgbnbaa", sum := "2da7673565724de49f733071dd8358b6efb18ecf7a61ebcf069573a1254bcae4", checked := Try.checked }
namespace Rows
def none {H : Type} : Left H := { results := [], args := [] }

/-- 'citadellaw11.CdtEnds': WHATEVER THE INPUT: true; the input reads as it did. -/
def cdtEndsSpec : ChangeSpec := { name := "cdtEnds", fn := fun _ => fun
  | [d1, d2] => { results := [.lit (.bool true)], args := [d1, d2] }
  | _ => none }
def cdtEndsRow : OpenClaim := { program := "ytcdfofeolgbnbaa", sum := "2da7673565724de49f733071dd8358b6efb18ecf7a61ebcf069573a1254bcae4", func := "citadel/citadellaw11.CdtEnds", spec := "cdtEnds", unfollowed := true, recurses := true, apart := false }
def CdtEndsSaid : Prop := cdtEndsRow.holds Try.pinned (OpenSpec.ofChange cdtEndsSpec)

/-- ITS FALSE NEIGHBOUR: 'it returns false'. Refute it at one input. -/
def cdtEndsWrong : ChangeSpec := { name := "cdtEnds", fn := fun _ => fun
  | [d1, d2] => { results := [.lit (.bool false)], args := [d1, d2] }
  | _ => none }
def CdtEndsWrongFalsely : Prop := cdtEndsRow.holds Try.pinned (OpenSpec.ofChange cdtEndsWrong)

/-- 'citadellaw11.CdtForest': WHATEVER THE INPUT: true; the input reads as it did. -/
def cdtForestSpec : ChangeSpec := { name := "cdtForest", fn := fun _ => fun
  | [d] => { results := [.lit (.bool true)], args := [d] }
  | _ => none }
def cdtForestRow : OpenClaim := { program := "ytcdfofeolgbnbaa", sum := "2da7673565724de49f733071dd8358b6efb18ecf7a61ebcf069573a1254bcae4", func := "citadel/citadellaw11.CdtForest", spec := "cdtForest", unfollowed := true, recurses := true, apart := false }
def CdtForestSaid : Prop := cdtForestRow.holds Try.pinned (OpenSpec.ofChange cdtForestSpec)

/-- ITS FALSE NEIGHBOUR: 'it returns false'. Refute it at one input. -/
def cdtForestWrong : ChangeSpec := { name := "cdtForest", fn := fun _ => fun
  | [d] => { results := [.lit (.bool false)], args := [d] }
  | _ => none }
def CdtForestWrongFalsely : Prop := cdtForestRow.holds Try.pinned (OpenSpec.ofChange cdtForestWrong)

/-- 'citadellaw11.CdtFamily': WHATEVER THE INPUT: true; the input reads as it did. -/
def cdtFamilySpec : ChangeSpec := { name := "cdtFamily", fn := fun _ => fun
  | [d1, d2] => { results := [.lit (.bool true)], args := [d1, d2] }
  | _ => none }
def cdtFamilyRow : OpenClaim := { program := "ytcdfofeolgbnbaa", sum := "2da7673565724de49f733071dd8358b6efb18ecf7a61ebcf069573a1254bcae4", func := "citadel/citadellaw11.CdtFamily", spec := "cdtFamily", unfollowed := true, recurses := true, apart := false }
def CdtFamilySaid : Prop := cdtFamilyRow.holds Try.pinned (OpenSpec.ofChange cdtFamilySpec)

/-- ITS FALSE NEIGHBOUR: 'it returns false'. Refute it at one input. -/
def cdtFamilyWrong : ChangeSpec := { name := "cdtFamily", fn := fun _ => fun
  | [d1, d2] => { results := [.lit (.bool false)], args := [d1, d2] }
  | _ => none }
def CdtFamilyWrongFalsely : Prop := cdtFamilyRow.holds Try.pinned (OpenSpec.ofChange cdtFamilyWrong)

/-- 'citadellaw11.CdtBack': WHATEVER THE INPUT: true; the input reads as it did. -/
def cdtBackSpec : ChangeSpec := { name := "cdtBack", fn := fun _ => fun
  | [d1, d2] => { results := [.lit (.bool true)], args := [d1, d2] }
  | _ => none }
def cdtBackRow : OpenClaim := { program := "ytcdfofeolgbnbaa", sum := "2da7673565724de49f733071dd8358b6efb18ecf7a61ebcf069573a1254bcae4", func := "citadel/citadellaw11.CdtBack", spec := "cdtBack", unfollowed := true, recurses := true, apart := false }
def CdtBackSaid : Prop := cdtBackRow.holds Try.pinned (OpenSpec.ofChange cdtBackSpec)

/-- ITS FALSE NEIGHBOUR: 'it returns false'. Refute it at one input. -/
def cdtBackWrong : ChangeSpec := { name := "cdtBack", fn := fun _ => fun
  | [d1, d2] => { results := [.lit (.bool false)], args := [d1, d2] }
  | _ => none }
def CdtBackWrongFalsely : Prop := cdtBackRow.holds Try.pinned (OpenSpec.ofChange cdtBackWrong)

/-- 'citadellaw11.CdtDepth': WHATEVER THE INPUT: true; the input reads as it did. -/
def cdtDepthSpec : ChangeSpec := { name := "cdtDepth", fn := fun _ => fun
  | [d] => { results := [.lit (.bool true)], args := [d] }
  | _ => none }
def cdtDepthRow : OpenClaim := { program := "ytcdfofeolgbnbaa", sum := "2da7673565724de49f733071dd8358b6efb18ecf7a61ebcf069573a1254bcae4", func := "citadel/citadellaw11.CdtDepth", spec := "cdtDepth", unfollowed := true, recurses := true, apart := false }
def CdtDepthSaid : Prop := cdtDepthRow.holds Try.pinned (OpenSpec.ofChange cdtDepthSpec)

/-- ITS FALSE NEIGHBOUR: 'it returns false'. Refute it at one input. -/
def cdtDepthWrong : ChangeSpec := { name := "cdtDepth", fn := fun _ => fun
  | [d] => { results := [.lit (.bool false)], args := [d] }
  | _ => none }
def CdtDepthWrongFalsely : Prop := cdtDepthRow.holds Try.pinned (OpenSpec.ofChange cdtDepthWrong)

/- THE SECOND FORM. 'bulk': how many values and letters a reading holds, each counted each time it is reached (what is shared counts as often as it is met; a slice's spare places count too). A statement '..UptoSaid' is the law's where the arguments, and the package variables that the reading takes, are together of bulk at most 1048576: NARROWER than '..Said'. Prove '..Said' where nothing that the law and all that it calls make is longer than what came in: it says more and counts as full. Else prove '..UptoSaid'. A law counts once. -/
mutual
def uptoBulk {H : Type} : DataW H → Nat
  | .lit (.string bytes) => bytes.length + 1
  | .lit _ => 1
  | .nil => 1
  | .ptr d => uptoBulk d + 1
  | .slice elems spare => uptoBulkAll elems + uptoBulkAll spare + 1
  | .agg parts => uptoBulkAll parts + 1
  | .iface _ d => uptoBulk d + 1
  | .map entries => uptoBulkEntries entries + 1
  | .held _ => 1
def uptoBulkAll {H : Type} : List (DataW H) → Nat
  | [] => 0
  | d :: r => uptoBulk d + uptoBulkAll r
def uptoBulkEntries {H : Type} : List (Lit × DataW H) → Nat
  | [] => 0
  | x :: r => uptoBulkEntry x + uptoBulkEntries r
def uptoBulkEntry {H : Type} : Lit × DataW H → Nat
  | (.string bytes, d) => bytes.length + uptoBulk d + 1
  | (_, d) => uptoBulk d + 1
 end
def uptoSmall : (H : Type) → List (DataW H) → Bool := fun _ ds => decide (uptoBulkAll ds ≤ 1048576)
def OpenSpec.upto (s : _root_.Go.ChangeSpec) : _root_.Go.OpenSpec := { _root_.Go.OpenSpec.ofChange s with cond := some uptoSmall }

/-- 'citadellaw11.CdtEnds', WHERE WHAT IT READS IS OF BULK AT MOST 1048576: true; the input reads as it did. -/
def cdtEndsUptoRow : OpenClaim := { program := "ytcdfofeolgbnbaa", sum := "2da7673565724de49f733071dd8358b6efb18ecf7a61ebcf069573a1254bcae4", func := "citadel/citadellaw11.CdtEnds", spec := "cdtEnds", unfollowed := true, recurses := true, apart := false, narrowed := true }
def CdtEndsUptoSaid : Prop := cdtEndsUptoRow.holds Try.pinned (OpenSpec.upto cdtEndsSpec)

/-- 'citadellaw11.CdtForest', WHERE WHAT IT READS IS OF BULK AT MOST 1048576: true; the input reads as it did. -/
def cdtForestUptoRow : OpenClaim := { program := "ytcdfofeolgbnbaa", sum := "2da7673565724de49f733071dd8358b6efb18ecf7a61ebcf069573a1254bcae4", func := "citadel/citadellaw11.CdtForest", spec := "cdtForest", unfollowed := true, recurses := true, apart := false, narrowed := true }
def CdtForestUptoSaid : Prop := cdtForestUptoRow.holds Try.pinned (OpenSpec.upto cdtForestSpec)

/-- 'citadellaw11.CdtFamily', WHERE WHAT IT READS IS OF BULK AT MOST 1048576: true; the input reads as it did. -/
def cdtFamilyUptoRow : OpenClaim := { program := "ytcdfofeolgbnbaa", sum := "2da7673565724de49f733071dd8358b6efb18ecf7a61ebcf069573a1254bcae4", func := "citadel/citadellaw11.CdtFamily", spec := "cdtFamily", unfollowed := true, recurses := true, apart := false, narrowed := true }
def CdtFamilyUptoSaid : Prop := cdtFamilyUptoRow.holds Try.pinned (OpenSpec.upto cdtFamilySpec)

/-- 'citadellaw11.CdtBack', WHERE WHAT IT READS IS OF BULK AT MOST 1048576: true; the input reads as it did. -/
def cdtBackUptoRow : OpenClaim := { program := "ytcdfofeolgbnbaa", sum := "2da7673565724de49f733071dd8358b6efb18ecf7a61ebcf069573a1254bcae4", func := "citadel/citadellaw11.CdtBack", spec := "cdtBack", unfollowed := true, recurses := true, apart := false, narrowed := true }
def CdtBackUptoSaid : Prop := cdtBackUptoRow.holds Try.pinned (OpenSpec.upto cdtBackSpec)

/-- 'citadellaw11.CdtDepth', WHERE WHAT IT READS IS OF BULK AT MOST 1048576: true; the input reads as it did. -/
def cdtDepthUptoRow : OpenClaim := { program := "ytcdfofeolgbnbaa", sum := "2da7673565724de49f733071dd8358b6efb18ecf7a61ebcf069573a1254bcae4", func := "citadel/citadellaw11.CdtDepth", spec := "cdtDepth", unfollowed := true, recurses := true, apart := false, narrowed := true }
def CdtDepthUptoSaid : Prop := cdtDepthUptoRow.holds Try.pinned (OpenSpec.upto cdtDepthSpec)

end Rows
end Go.Proofs.Ytcdfofeolgbnbaa
