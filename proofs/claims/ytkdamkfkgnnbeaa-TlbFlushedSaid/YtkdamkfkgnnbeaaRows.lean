/-
  No cell of these rows narrows 'for every input' (looked for: loops, veiled, ifaces, maps, wideKeys, modest, calm, conditions, laid).
  DERIVED. THE GIVEN ROWS OF THIS SEAT. 4 by the template 'for every input the law returns true; each argument reads behind the call as it read before'; 0 by the template 'total and deterministic' (their statements: YtkdamkfkgnnbeaaTotals.lean).
  GIVEN WITH THE SEED: the statements are not yours to turn. If you find one false, say at which input.
  Laid BY PROGRAM, IN A SANDBOX (cutbox-rows.mjs): the forced cells as the released guide's own fill.sh prints them over the translation e18b9e9e2d06d5e1… (all of the seat's roots in one cut). By AI agents, Wed Nov 11 2026. No macro, syntax, notation, axiom, sorry.
-/
import Derived.Test.YtkdamkfkgnnbeaaChecked
import GoSem.Claim
import GoSem.ClaimJoined
import GoSem.ClaimMapViews
import Derived.JoinedTies
import Derived.KernelRfl
namespace Go.Proofs.Ytkdamkfkgnnbeaa
/- THE CELL 'sum', in the pinned program and in every row, IS THE sha256 OF THE DUMP (.gsa) THAT YtkdamkfkgnnbeaaProg.lean LOADS. Nothing in Lean hashes anything: it is a label: what it is worth is what the hold of that sum in a sandbox is worth. -/
noncomputable def Try.pinned : Pinned := { name := "ytkdamkfkgnnbeaa", sum := "e18b9e9e2d06d5e1d3a7c02157189add30240922fa06c456d7512a83927e7e4a", checked := Try.checked }
namespace Rows
def none {H : Type} : Left H := { results := [], args := [] }

/-- 'citadellaw04.TlbFull': WHATEVER THE INPUT: true; the input reads as it did. -/
def tlbFullSpec : ChangeSpec := { name := "tlbFull", fn := fun _ => fun
  | [d1, d2, d3] => { results := [.lit (.bool true)], args := [d1, d2, d3] }
  | _ => none }
def tlbFullRow : OpenClaim := { program := "ytkdamkfkgnnbeaa", sum := "e18b9e9e2d06d5e1d3a7c02157189add30240922fa06c456d7512a83927e7e4a", func := "citadel/citadellaw04.TlbFull", spec := "tlbFull", apart := false }
def TlbFullSaid : Prop := tlbFullRow.holds Try.pinned (OpenSpec.ofChange tlbFullSpec)

/-- ITS FALSE NEIGHBOUR: 'it returns false'. Refute it at one input. -/
def tlbFullWrong : ChangeSpec := { name := "tlbFull", fn := fun _ => fun
  | [d1, d2, d3] => { results := [.lit (.bool false)], args := [d1, d2, d3] }
  | _ => none }
def TlbFullWrongFalsely : Prop := tlbFullRow.holds Try.pinned (OpenSpec.ofChange tlbFullWrong)

/-- 'citadellaw04.TlbFlushed': WHATEVER THE INPUT: true; the input reads as it did. -/
def tlbFlushedSpec : ChangeSpec := { name := "tlbFlushed", fn := fun _ => fun
  | [d] => { results := [.lit (.bool true)], args := [d] }
  | _ => none }
def tlbFlushedRow : OpenClaim := { program := "ytkdamkfkgnnbeaa", sum := "e18b9e9e2d06d5e1d3a7c02157189add30240922fa06c456d7512a83927e7e4a", func := "citadel/citadellaw04.TlbFlushed", spec := "tlbFlushed", unfollowed := true, recurses := true, apart := false }
def TlbFlushedSaid : Prop := tlbFlushedRow.holds Try.pinned (OpenSpec.ofChange tlbFlushedSpec)

/-- ITS FALSE NEIGHBOUR: 'it returns false'. Refute it at one input. -/
def tlbFlushedWrong : ChangeSpec := { name := "tlbFlushed", fn := fun _ => fun
  | [d] => { results := [.lit (.bool false)], args := [d] }
  | _ => none }
def TlbFlushedWrongFalsely : Prop := tlbFlushedRow.holds Try.pinned (OpenSpec.ofChange tlbFlushedWrong)

/-- 'citadellaw04.TlbPlays': WHATEVER THE INPUT: true; the input reads as it did. -/
def tlbPlaysSpec : ChangeSpec := { name := "tlbPlays", fn := fun _ => fun
  | [d] => { results := [.lit (.bool true)], args := [d] }
  | _ => none }
def tlbPlaysRow : OpenClaim := { program := "ytkdamkfkgnnbeaa", sum := "e18b9e9e2d06d5e1d3a7c02157189add30240922fa06c456d7512a83927e7e4a", func := "citadel/citadellaw04.TlbPlays", spec := "tlbPlays", unfollowed := true, recurses := true, apart := false }
def TlbPlaysSaid : Prop := tlbPlaysRow.holds Try.pinned (OpenSpec.ofChange tlbPlaysSpec)

/-- ITS FALSE NEIGHBOUR: 'it returns false'. Refute it at one input. -/
def tlbPlaysWrong : ChangeSpec := { name := "tlbPlays", fn := fun _ => fun
  | [d] => { results := [.lit (.bool false)], args := [d] }
  | _ => none }
def TlbPlaysWrongFalsely : Prop := tlbPlaysRow.holds Try.pinned (OpenSpec.ofChange tlbPlaysWrong)

/-- 'citadellaw04.TlbHonest': WHATEVER THE INPUT: true; the input reads as it did. -/
def tlbHonestSpec : ChangeSpec := { name := "tlbHonest", fn := fun _ => fun
  | [d] => { results := [.lit (.bool true)], args := [d] }
  | _ => none }
def tlbHonestRow : OpenClaim := { program := "ytkdamkfkgnnbeaa", sum := "e18b9e9e2d06d5e1d3a7c02157189add30240922fa06c456d7512a83927e7e4a", func := "citadel/citadellaw04.TlbHonest", spec := "tlbHonest", unfollowed := true, recurses := true, apart := false }
def TlbHonestSaid : Prop := tlbHonestRow.holds Try.pinned (OpenSpec.ofChange tlbHonestSpec)

/-- ITS FALSE NEIGHBOUR: 'it returns false'. Refute it at one input. -/
def tlbHonestWrong : ChangeSpec := { name := "tlbHonest", fn := fun _ => fun
  | [d] => { results := [.lit (.bool false)], args := [d] }
  | _ => none }
def TlbHonestWrongFalsely : Prop := tlbHonestRow.holds Try.pinned (OpenSpec.ofChange tlbHonestWrong)

/- THE SECOND FORM. 'bulk': how many values and letters a reading holds, each counted each time it is reached (what is shared counts as often as it is met; a slice's spare places count too). A statement '..UptoSaid' is the law's where the arguments, and the package variables that the reading takes, are together of bulk at most 1048576: NARROWER than '..Said'. Prove '..Said' where nothing that the law and all that it calls make is longer than what came in: it says more and counts as full. Else prove '..UptoSaid'. A law counts once. -/
mutual
def uptoBulk {H : Type} : DataW H → Nat
  | .lit (.string bytes) => bytes.length + 1
  | .lit _ => 1
  | .nil => 1
  | .ptr d => uptoBulk d + 1
  | .slice elems spare => uptoBulkAll elems + uptoBulkAll spare + 1
  | .agg parts => uptoBulkAll parts + 1
  | .iface _ d => uptoBulk d + 1
  | .map entries => uptoBulkEntries entries + 1
  | .held _ => 1
def uptoBulkAll {H : Type} : List (DataW H) → Nat
  | [] => 0
  | d :: r => uptoBulk d + uptoBulkAll r
def uptoBulkEntries {H : Type} : List (Lit × DataW H) → Nat
  | [] => 0
  | x :: r => uptoBulkEntry x + uptoBulkEntries r
def uptoBulkEntry {H : Type} : Lit × DataW H → Nat
  | (.string bytes, d) => bytes.length + uptoBulk d + 1
  | (_, d) => uptoBulk d + 1
 end
def uptoSmall : (H : Type) → List (DataW H) → Bool := fun _ ds => decide (uptoBulkAll ds ≤ 1048576)
def OpenSpec.upto (s : _root_.Go.ChangeSpec) : _root_.Go.OpenSpec := { _root_.Go.OpenSpec.ofChange s with cond := some uptoSmall }

/-- 'citadellaw04.TlbFull', WHERE WHAT IT READS IS OF BULK AT MOST 1048576: true; the input reads as it did. -/
def tlbFullUptoRow : OpenClaim := { program := "ytkdamkfkgnnbeaa", sum := "e18b9e9e2d06d5e1d3a7c02157189add30240922fa06c456d7512a83927e7e4a", func := "citadel/citadellaw04.TlbFull", spec := "tlbFull", apart := false, narrowed := true }
def TlbFullUptoSaid : Prop := tlbFullUptoRow.holds Try.pinned (OpenSpec.upto tlbFullSpec)

/-- 'citadellaw04.TlbFlushed', WHERE WHAT IT READS IS OF BULK AT MOST 1048576: true; the input reads as it did. -/
def tlbFlushedUptoRow : OpenClaim := { program := "ytkdamkfkgnnbeaa", sum := "e18b9e9e2d06d5e1d3a7c02157189add30240922fa06c456d7512a83927e7e4a", func := "citadel/citadellaw04.TlbFlushed", spec := "tlbFlushed", unfollowed := true, recurses := true, apart := false, narrowed := true }
def TlbFlushedUptoSaid : Prop := tlbFlushedUptoRow.holds Try.pinned (OpenSpec.upto tlbFlushedSpec)

/-- 'citadellaw04.TlbPlays', WHERE WHAT IT READS IS OF BULK AT MOST 1048576: true; the input reads as it did. -/
def tlbPlaysUptoRow : OpenClaim := { program := "ytkdamkfkgnnbeaa", sum := "e18b9e9e2d06d5e1d3a7c02157189add30240922fa06c456d7512a83927e7e4a", func := "citadel/citadellaw04.TlbPlays", spec := "tlbPlays", unfollowed := true, recurses := true, apart := false, narrowed := true }
def TlbPlaysUptoSaid : Prop := tlbPlaysUptoRow.holds Try.pinned (OpenSpec.upto tlbPlaysSpec)

/-- 'citadellaw04.TlbHonest', WHERE WHAT IT READS IS OF BULK AT MOST 1048576: true; the input reads as it did. -/
def tlbHonestUptoRow : OpenClaim := { program := "ytkdamkfkgnnbeaa", sum := "e18b9e9e2d06d5e1d3a7c02157189add30240922fa06c456d7512a83927e7e4a", func := "citadel/citadellaw04.TlbHonest", spec := "tlbHonest", unfollowed := true, recurses := true, apart := false, narrowed := true }
def TlbHonestUptoSaid : Prop := tlbHonestUptoRow.holds Try.pinned (OpenSpec.upto tlbHonestSpec)

end Rows
end Go.Proofs.Ytkdamkfkgnnbeaa
