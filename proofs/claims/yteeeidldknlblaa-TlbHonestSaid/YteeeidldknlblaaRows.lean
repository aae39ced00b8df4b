/-
  No cell of these rows narrows 'for every input' (looked for: loops, veiled, ifaces, maps, wideKeys, modest, calm, conditions, laid).
  DERIVED. THE GIVEN ROWS OF THIS SEAT. 10 by the template 'for every input the law returns true; each argument reads behind the call as it read before'; 0 by the template 'total and deterministic' (their statements: YteeeidldknlblaaTotals.lean).
  GIVEN WITH THE SEED: the statements are not yours to turn. If you find one false, say at which input.
  Laid BY PROGRAM, IN A SANDBOX (cutbox-rows.mjs): the forced cells as the released guide's own fill.sh prints them over the translation 48f5ab681b878f95… (all of the seat's roots in one cut). By AI agents, Wed Nov 11 2026. No macro, syntax, notation, axiom, sorry.
-/
import Derived.Test.YteeeidldknlblaaChecked
import GoSem.Claim
import GoSem.ClaimJoined
import GoSem.ClaimMapViews
import Derived.JoinedTies
import Derived.KernelRfl
namespace Go.Proofs.Yteeeidldknlblaa
/- THE CELL 'sum', in the pinned program and in every row, IS THE sha256 OF THE DUMP (.gsa) THAT YteeeidldknlblaaProg.lean LOADS. Nothing in Lean hashes anything: it is a label: what it is worth is what the hold of that sum in a sandbox is worth. -/
noncomputable def Try.pinned : Pinned := { name := "yteeeidldknlblaa", sum := "48f5ab681b878f95d4e69ef41be555c6710ed0c5ebca7b2c7deafee3d2420d5a", checked := Try.checked }
namespace Rows
def none {H : Type} : Left H := { results := [], args := [] }

/-- 'citadellaw04.TlbHonest': WHATEVER THE INPUT: true; the input reads as it did. -/
def tlbHonestSpec : ChangeSpec := { name := "tlbHonest", fn := fun _ => fun
  | [d] => { results := [.lit (.bool true)], args := [d] }
  | _ => none }
def tlbHonestRow : OpenClaim := { program := "yteeeidldknlblaa", sum := "48f5ab681b878f95d4e69ef41be555c6710ed0c5ebca7b2c7deafee3d2420d5a", func := "citadel/citadellaw04.TlbHonest", spec := "tlbHonest", unfollowed := true, recurses := true, apart := false }
def TlbHonestSaid : Prop := tlbHonestRow.holds Try.pinned (OpenSpec.ofChange tlbHonestSpec)

/-- ITS FALSE NEIGHBOUR: 'it returns false'. Refute it at one input. -/
def tlbHonestWrong : ChangeSpec := { name := "tlbHonest", fn := fun _ => fun
  | [d] => { results := [.lit (.bool false)], args := [d] }
  | _ => none }
def TlbHonestWrongFalsely : Prop := tlbHonestRow.holds Try.pinned (OpenSpec.ofChange tlbHonestWrong)

/-- 'citadellaw02.MemKeeps': WHATEVER THE INPUT: true; the input reads as it did. -/
def memKeepsSpec : ChangeSpec := { name := "memKeeps", fn := fun _ => fun
  | [d] => { results := [.lit (.bool true)], args := [d] }
  | _ => none }
def memKeepsRow : OpenClaim := { program := "yteeeidldknlblaa", sum := "48f5ab681b878f95d4e69ef41be555c6710ed0c5ebca7b2c7deafee3d2420d5a", func := "citadel/citadellaw02.MemKeeps", spec := "memKeeps", apart := false }
def MemKeepsSaid : Prop := memKeepsRow.holds Try.pinned (OpenSpec.ofChange memKeepsSpec)

/-- ITS FALSE NEIGHBOUR: 'it returns false'. Refute it at one input. -/
def memKeepsWrong : ChangeSpec := { name := "memKeeps", fn := fun _ => fun
  | [d] => { results := [.lit (.bool false)], args := [d] }
  | _ => none }
def MemKeepsWrongFalsely : Prop := memKeepsRow.holds Try.pinned (OpenSpec.ofChange memKeepsWrong)

/-- 'citadellaw02.MemSingles': WHATEVER THE INPUT: true; the input reads as it did. -/
def memSinglesSpec : ChangeSpec := { name := "memSingles", fn := fun _ => fun
  | [d1, d2] => { results := [.lit (.bool true)], args := [d1, d2] }
  | _ => none }
def memSinglesRow : OpenClaim := { program := "yteeeidldknlblaa", sum := "48f5ab681b878f95d4e69ef41be555c6710ed0c5ebca7b2c7deafee3d2420d5a", func := "citadel/citadellaw02.MemSingles", spec := "memSingles", apart := false }
def MemSinglesSaid : Prop := memSinglesRow.holds Try.pinned (OpenSpec.ofChange memSinglesSpec)

/-- ITS FALSE NEIGHBOUR: 'it returns false'. Refute it at one input. -/
def memSinglesWrong : ChangeSpec := { name := "memSingles", fn := fun _ => fun
  | [d1, d2] => { results := [.lit (.bool false)], args := [d1, d2] }
  | _ => none }
def MemSinglesWrongFalsely : Prop := memSinglesRow.holds Try.pinned (OpenSpec.ofChange memSinglesWrong)

/-- 'citadellaw02.MemHalves': WHATEVER THE INPUT: true; the input reads as it did. -/
def memHalvesSpec : ChangeSpec := { name := "memHalves", fn := fun _ => fun
  | [d1, d2, d3] => { results := [.lit (.bool true)], args := [d1, d2, d3] }
  | _ => none }
def memHalvesRow : OpenClaim := { program := "yteeeidldknlblaa", sum := "48f5ab681b878f95d4e69ef41be555c6710ed0c5ebca7b2c7deafee3d2420d5a", func := "citadel/citadellaw02.MemHalves", spec := "memHalves", apart := false }
def MemHalvesSaid : Prop := memHalvesRow.holds Try.pinned (OpenSpec.ofChange memHalvesSpec)

/-- ITS FALSE NEIGHBOUR: 'it returns false'. Refute it at one input. -/
def memHalvesWrong : ChangeSpec := { name := "memHalves", fn := fun _ => fun
  | [d1, d2, d3] => { results := [.lit (.bool false)], args := [d1, d2, d3] }
  | _ => none }
def MemHalvesWrongFalsely : Prop := memHalvesRow.holds Try.pinned (OpenSpec.ofChange memHalvesWrong)

/-- 'citadellaw02.MemPlays': WHATEVER THE INPUT: true; the input reads as it did. -/
def memPlaysSpec : ChangeSpec := { name := "memPlays", fn := fun _ => fun
  | [d1, d2] => { results := [.lit (.bool true)], args := [d1, d2] }
  | _ => none }
def memPlaysRow : OpenClaim := { program := "yteeeidldknlblaa", sum := "48f5ab681b878f95d4e69ef41be555c6710ed0c5ebca7b2c7deafee3d2420d5a", func := "citadel/citadellaw02.MemPlays", spec := "memPlays", apart := false }
def MemPlaysSaid : Prop := memPlaysRow.holds Try.pinned (OpenSpec.ofChange memPlaysSpec)

/-- ITS FALSE NEIGHBOUR: 'it returns false'. Refute it at one input. -/
def memPlaysWrong : ChangeSpec := { name := "memPlays", fn := fun _ => fun
  | [d1, d2] => { results := [.lit (.bool false)], args := [d1, d2] }
  | _ => none }
def MemPlaysWrongFalsely : Prop := memPlaysRow.holds Try.pinned (OpenSpec.ofChange memPlaysWrong)

/-- 'citadellaw05.WalkEntries': WHATEVER THE INPUT: true; the input reads as it did. -/
def walkEntriesSpec : ChangeSpec := { name := "walkEntries", fn := fun _ => fun
  | [d] => { results := [.lit (.bool true)], args := [d] }
  | _ => none }
def walkEntriesRow : OpenClaim := { program := "yteeeidldknlblaa", sum := "48f5ab681b878f95d4e69ef41be555c6710ed0c5ebca7b2c7deafee3d2420d5a", func := "citadel/citadellaw05.WalkEntries", spec := "walkEntries", apart := false }
def WalkEntriesSaid : Prop := walkEntriesRow.holds Try.pinned (OpenSpec.ofChange walkEntriesSpec)

/-- ITS FALSE NEIGHBOUR: 'it returns false'. Refute it at one input. -/
def walkEntriesWrong : ChangeSpec := { name := "walkEntries", fn := fun _ => fun
  | [d] => { results := [.lit (.bool false)], args := [d] }
  | _ => none }
def WalkEntriesWrongFalsely : Prop := walkEntriesRow.holds Try.pinned (OpenSpec.ofChange walkEntriesWrong)

/-- 'citadellaw05.WalkApart': WHATEVER THE INPUT: true; the input reads as it did. -/
def walkApartSpec : ChangeSpec := { name := "walkApart", fn := fun _ => fun
  | [d] => { results := [.lit (.bool true)], args := [d] }
  | _ => none }
def walkApartRow : OpenClaim := { program := "yteeeidldknlblaa", sum := "48f5ab681b878f95d4e69ef41be555c6710ed0c5ebca7b2c7deafee3d2420d5a", func := "citadel/citadellaw05.WalkApart", spec := "walkApart", apart := false }
def WalkApartSaid : Prop := walkApartRow.holds Try.pinned (OpenSpec.ofChange walkApartSpec)

/-- ITS FALSE NEIGHBOUR: 'it returns false'. Refute it at one input. -/
def walkApartWrong : ChangeSpec := { name := "walkApart", fn := fun _ => fun
  | [d] => { results := [.lit (.bool false)], args := [d] }
  | _ => none }
def WalkApartWrongFalsely : Prop := walkApartRow.holds Try.pinned (OpenSpec.ofChange walkApartWrong)

/-- 'citadellaw05.WalkWalks': WHATEVER THE INPUT: true; the input reads as it did. -/
def walkWalksSpec : ChangeSpec := { name := "walkWalks", fn := fun _ => fun
  | [d1, d2, d3] => { results := [.lit (.bool true)], args := [d1, d2, d3] }
  | _ => none }
def walkWalksRow : OpenClaim := { program := "yteeeidldknlblaa", sum := "48f5ab681b878f95d4e69ef41be555c6710ed0c5ebca7b2c7deafee3d2420d5a", func := "citadel/citadellaw05.WalkWalks", spec := "walkWalks", apart := false }
def WalkWalksSaid : Prop := walkWalksRow.holds Try.pinned (OpenSpec.ofChange walkWalksSpec)

/-- ITS FALSE NEIGHBOUR: 'it returns false'. Refute it at one input. -/
def walkWalksWrong : ChangeSpec := { name := "walkWalks", fn := fun _ => fun
  | [d1, d2, d3] => { results := [.lit (.bool false)], args := [d1, d2, d3] }
  | _ => none }
def WalkWalksWrongFalsely : Prop := walkWalksRow.holds Try.pinned (OpenSpec.ofChange walkWalksWrong)

/-- 'citadellaw05.WalkBuffered': WHATEVER THE INPUT: true; the input reads as it did. -/
def walkBufferedSpec : ChangeSpec := { name := "walkBuffered", fn := fun _ => fun
  | [d1, d2, d3] => { results := [.lit (.bool true)], args := [d1, d2, d3] }
  | _ => none }
def walkBufferedRow : OpenClaim := { program := "yteeeidldknlblaa", sum := "48f5ab681b878f95d4e69ef41be555c6710ed0c5ebca7b2c7deafee3d2420d5a", func := "citadel/citadellaw05.WalkBuffered", spec := "walkBuffered", unfollowed := true, recurses := true, apart := false }
def WalkBufferedSaid : Prop := walkBufferedRow.holds Try.pinned (OpenSpec.ofChange walkBufferedSpec)

/-- ITS FALSE NEIGHBOUR: 'it returns false'. Refute it at one input. -/
def walkBufferedWrong : ChangeSpec := { name := "walkBuffered", fn := fun _ => fun
  | [d1, d2, d3] => { results := [.lit (.bool false)], args := [d1, d2, d3] }
  | _ => none }
def WalkBufferedWrongFalsely : Prop := walkBufferedRow.holds Try.pinned (OpenSpec.ofChange walkBufferedWrong)

/-- 'citadellaw05.WalkReaches': WHATEVER THE INPUT: true; the input reads as it did. -/
def walkReachesSpec : ChangeSpec := { name := "walkReaches", fn := fun _ => fun
  | [d1, d2] => { results := [.lit (.bool true)], args := [d1, d2] }
  | _ => none }
def walkReachesRow : OpenClaim := { program := "yteeeidldknlblaa", sum := "48f5ab681b878f95d4e69ef41be555c6710ed0c5ebca7b2c7deafee3d2420d5a", func := "citadel/citadellaw05.WalkReaches", spec := "walkReaches", unfollowed := true, recurses := true, apart := false }
def WalkReachesSaid : Prop := walkReachesRow.holds Try.pinned (OpenSpec.ofChange walkReachesSpec)

/-- ITS FALSE NEIGHBOUR: 'it returns false'. Refute it at one input. -/
def walkReachesWrong : ChangeSpec := { name := "walkReaches", fn := fun _ => fun
  | [d1, d2] => { results := [.lit (.bool false)], args := [d1, d2] }
  | _ => none }
def WalkReachesWrongFalsely : Prop := walkReachesRow.holds Try.pinned (OpenSpec.ofChange walkReachesWrong)

/- THE SECOND FORM. 'bulk': how many values and letters a reading holds, each counted each time it is reached (what is shared counts as often as it is met; a slice's spare places count too). A statement '..UptoSaid' is the law's where the arguments, and the package variables that the reading takes, are together of bulk at most 1048576: NARROWER than '..Said'. Prove '..Said' where nothing that the law and all that it calls make is longer than what came in: it says more and counts as full. Else prove '..UptoSaid'. A law counts once. -/
mutual
def uptoBulk {H : Type} : DataW H → Nat
  | .lit (.string bytes) => bytes.length + 1
  | .lit _ => 1
  | .nil => 1
  | .ptr d => uptoBulk d + 1
  | .slice elems spare => uptoBulkAll elems + uptoBulkAll spare + 1
  | .agg parts => uptoBulkAll parts + 1
  | .iface _ d => uptoBulk d + 1
  | .map entries => uptoBulkEntries entries + 1
  | .held _ => 1
def uptoBulkAll {H : Type} : List (DataW H) → Nat
  | [] => 0
  | d :: r => uptoBulk d + uptoBulkAll r
def uptoBulkEntries {H : Type} : List (Lit × DataW H) → Nat
  | [] => 0
  | x :: r => uptoBulkEntry x + uptoBulkEntries r
def uptoBulkEntry {H : Type} : Lit × DataW H → Nat
  | (.string bytes, d) => bytes.length + uptoBulk d + 1
  | (_, d) => uptoBulk d + 1
 end
def uptoSmall : (H : Type) → List (DataW H) → Bool := fun _ ds => decide (uptoBulkAll ds ≤ 1048576)
def OpenSpec.upto (s : _root_.Go.ChangeSpec) : _root_.Go.OpenSpec := { _root_.Go.OpenSpec.ofChange s with cond := some uptoSmall }

/-- 'citadellaw04.TlbHonest', WHERE WHAT IT READS IS OF BULK AT MOST 1048576: true; the input reads as it did. -/
def tlbHonestUptoRow : OpenClaim := { program := "yteeeidldknlblaa", sum := "48f5ab681b878f95d4e69ef41be555c6710ed0c5ebca7b2c7deafee3d2420d5a", func := "citadel/citadellaw04.TlbHonest", spec := "tlbHonest", unfollowed := true, recurses := true, apart := false, narrowed := true }
def TlbHonestUptoSaid : Prop := tlbHonestUptoRow.holds Try.pinned (OpenSpec.upto tlbHonestSpec)

/-- 'citadellaw02.MemKeeps', WHERE WHAT IT READS IS OF BULK AT MOST 1048576: true; the input reads as it did. -/
def memKeepsUptoRow : OpenClaim := { program := "yteeeidldknlblaa", sum := "48f5ab681b878f95d4e69ef41be555c6710ed0c5ebca7b2c7deafee3d2420d5a", func := "citadel/citadellaw02.MemKeeps", spec := "memKeeps", apart := false, narrowed := true }
def MemKeepsUptoSaid : Prop := memKeepsUptoRow.holds Try.pinned (OpenSpec.upto memKeepsSpec)

/-- 'citadellaw02.MemSingles', WHERE WHAT IT READS IS OF BULK AT MOST 1048576: true; the input reads as it did. -/
def memSinglesUptoRow : OpenClaim := { program := "yteeeidldknlblaa", sum := "48f5ab681b878f95d4e69ef41be555c6710ed0c5ebca7b2c7deafee3d2420d5a", func := "citadel/citadellaw02.MemSingles", spec := "memSingles", apart := false, narrowed := true }
def MemSinglesUptoSaid : Prop := memSinglesUptoRow.holds Try.pinned (OpenSpec.upto memSinglesSpec)

/-- 'citadellaw02.MemHalves', WHERE WHAT IT READS IS OF BULK AT MOST 1048576: true; the input reads as it did. -/
def memHalvesUptoRow : OpenClaim := { program := "yteeeidldknlblaa", sum := "48f5ab681b878f95d4e69ef41be555c6710ed0c5ebca7b2c7deafee3d2420d5a", func := "citadel/citadellaw02.MemHalves", spec := "memHalves", apart := false, narrowed := true }
def MemHalvesUptoSaid : Prop := memHalvesUptoRow.holds Try.pinned (OpenSpec.upto memHalvesSpec)

/-- 'citadellaw02.MemPlays', WHERE WHAT IT READS IS OF BULK AT MOST 1048576: true; the input reads as it did. -/
def memPlaysUptoRow : OpenClaim := { program := "yteeeidldknlblaa", sum := "48f5ab681b878f95d4e69ef41be555c6710ed0c5ebca7b2c7deafee3d2420d5a", func := "citadel/citadellaw02.MemPlays", spec := "memPlays", apart := false, narrowed := true }
def MemPlaysUptoSaid : Prop := memPlaysUptoRow.holds Try.pinned (OpenSpec.upto memPlaysSpec)

/-- 'citadellaw05.WalkEntries', WHERE WHAT IT READS IS OF BULK AT MOST 1048576: true; the input reads as it did. -/
def walkEntriesUptoRow : OpenClaim := { program := "yteeeidldknlblaa", sum := "48f5ab681b878f95d4e69ef41be555c6710ed0c5ebca7b2c7deafee3d2420d5a", func := "citadel/citadellaw05.WalkEntries", spec := "walkEntries", apart := false, narrowed := true }
def WalkEntriesUptoSaid : Prop := walkEntriesUptoRow.holds Try.pinned (OpenSpec.upto walkEntriesSpec)

/-- 'citadellaw05.WalkApart', WHERE WHAT IT READS IS OF BULK AT MOST 1048576: true; the input reads as it did. -/
def walkApartUptoRow : OpenClaim := { program := "yteeeidldknlblaa", sum := "48f5ab681b878f95d4e69ef41be555c6710ed0c5ebca7b2c7deafee3d2420d5a", func := "citadel/citadellaw05.WalkApart", spec := "walkApart", apart := false, narrowed := true }
def WalkApartUptoSaid : Prop := walkApartUptoRow.holds Try.pinned (OpenSpec.upto walkApartSpec)

/-- 'citadellaw05.WalkWalks', WHERE WHAT IT READS IS OF BULK AT MOST 1048576: true; the input reads as it did. -/
def walkWalksUptoRow : OpenClaim := { program := "yteeeidldknlblaa", sum := "48f5ab681b878f95d4e69ef41be555c6710ed0c5ebca7b2c7deafee3d2420d5a", func := "citadel/citadellaw05.WalkWalks", spec := "walkWalks", apart := false, narrowed := true }
def WalkWalksUptoSaid : Prop := walkWalksUptoRow.holds Try.pinned (OpenSpec.upto walkWalksSpec)

/-- 'citadellaw05.WalkBuffered', WHERE WHAT IT READS IS OF BULK AT MOST 1048576: true; the input reads as it did. -/
def walkBufferedUptoRow : OpenClaim := { program := "yteeeidldknlblaa", sum := "48f5ab681b878f95d4e69ef41be555c6710ed0c5ebca7b2c7deafee3d2420d5a", func := "citadel/citadellaw05.WalkBuffered", spec := "walkBuffered", unfollowed := true, recurses := true, apart := false, narrowed := true }
def WalkBufferedUptoSaid : Prop := walkBufferedUptoRow.holds Try.pinned (OpenSpec.upto walkBufferedSpec)

/-- 'citadellaw05.WalkReaches', WHERE WHAT IT READS IS OF BULK AT MOST 1048576: true; the input reads as it did. -/
def walkReachesUptoRow : OpenClaim := { program := "yteeeidldknlblaa", sum := "48f5ab681b878f95d4e69ef41be555c6710ed0c5ebca7b2c7deafee3d2420d5a", func := "citadel/citadellaw05.WalkReaches", spec := "walkReaches", unfollowed := true, recurses := true, apart := false, narrowed := true }
def WalkReachesUptoSaid : Prop := walkReachesUptoRow.holds Try.pinned (OpenSpec.upto walkReachesSpec)

end Rows
end Go.Proofs.Yteeeidldknlblaa
