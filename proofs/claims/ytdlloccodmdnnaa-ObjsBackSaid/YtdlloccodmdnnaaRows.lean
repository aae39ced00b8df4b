/-
  No cell of these rows narrows 'for every input' (looked for: loops, veiled, ifaces, maps, wideKeys, modest, calm, conditions, laid).
  DERIVED. THE GIVEN ROWS OF THIS SEAT. 10 by the template 'for every input the law returns true; each argument reads behind the call as it read before'; 0 by the template 'total and deterministic' (their statements: YtdlloccodmdnnaaTotals.lean).
  GIVEN WITH THE SEED: the statements are not yours to turn. If you find one false, say at which input.
  Laid BY PROGRAM, IN A SANDBOX (cutbox-rows.mjs): the forced cells as the released guide's own fill.sh prints them over the translation 624f0da668be2a87… (all of the seat's roots in one cut). By AI agents, Wed Nov 11 2026. No macro, syntax, notation, axiom, sorry.
-/
import Derived.Test.YtdlloccodmdnnaaChecked
import GoSem.Claim
import GoSem.ClaimJoined
import GoSem.ClaimMapViews
import Derived.JoinedTies
import Derived.KernelRfl
namespace Go.Proofs.Ytdlloccodmdnnaa
/- THE CELL 'sum', in the pinned program and in every row, IS THE sha256 OF THE DUMP (.gsa) THAT YtdlloccodmdnnaaProg.lean LOADS. Nothing in Lean hashes anything: it is a label: what it is worth is what the hold of that sum in a sandbox is worth. -/
noncomputable def Try.pinned : Pinned := { name := "ytdlloccodmdnnaa", sum := "624f0da668be2a87ebc139ae24e9ef61297dd370bc42e8b02e53f565881d8a2a", checked := Try.checked }
namespace Rows
def none {H : Type} : Left H := { results := [], args := [] }

/-- 'citadellaw10.CspaceLocal': WHATEVER THE INPUT: true; the input reads as it did. -/
def cspaceLocalSpec : ChangeSpec := { name := "cspaceLocal", fn := fun _ => fun
  | [d1, d2, d3, d4, d5] => { results := [.lit (.bool true)], args := [d1, d2, d3, d4, d5] }
  | _ => none }
def cspaceLocalRow : OpenClaim := { program := "ytdlloccodmdnnaa", sum := "624f0da668be2a87ebc139ae24e9ef61297dd370bc42e8b02e53f565881d8a2a", func := "citadel/citadellaw10.CspaceLocal", spec := "cspaceLocal", unfollowed := true, recurses := true, apart := false }
def CspaceLocalSaid : Prop := cspaceLocalRow.holds Try.pinned (OpenSpec.ofChange cspaceLocalSpec)

/-- ITS FALSE NEIGHBOUR: 'it returns false'. Refute it at one input. -/
def cspaceLocalWrong : ChangeSpec := { name := "cspaceLocal", fn := fun _ => fun
  | [d1, d2, d3, d4, d5] => { results := [.lit (.bool false)], args := [d1, d2, d3, d4, d5] }
  | _ => none }
def CspaceLocalWrongFalsely : Prop := cspaceLocalRow.holds Try.pinned (OpenSpec.ofChange cspaceLocalWrong)

/-- 'citadellaw10.CspaceDeeper': WHATEVER THE INPUT: true; the input reads as it did. -/
def cspaceDeeperSpec : ChangeSpec := { name := "cspaceDeeper", fn := fun _ => fun
  | [d1, d2, d3, d4, d5, d6] => { results := [.lit (.bool true)], args := [d1, d2, d3, d4, d5, d6] }
  | _ => none }
def cspaceDeeperRow : OpenClaim := { program := "ytdlloccodmdnnaa", sum := "624f0da668be2a87ebc139ae24e9ef61297dd370bc42e8b02e53f565881d8a2a", func := "citadel/citadellaw10.CspaceDeeper", spec := "cspaceDeeper", unfollowed := true, recurses := true, apart := false }
def CspaceDeeperSaid : Prop := cspaceDeeperRow.holds Try.pinned (OpenSpec.ofChange cspaceDeeperSpec)

/-- ITS FALSE NEIGHBOUR: 'it returns false'. Refute it at one input. -/
def cspaceDeeperWrong : ChangeSpec := { name := "cspaceDeeper", fn := fun _ => fun
  | [d1, d2, d3, d4, d5, d6] => { results := [.lit (.bool false)], args := [d1, d2, d3, d4, d5, d6] }
  | _ => none }
def CspaceDeeperWrongFalsely : Prop := cspaceDeeperRow.holds Try.pinned (OpenSpec.ofChange cspaceDeeperWrong)

/-- 'citadellaw10.CspaceGuards': WHATEVER THE INPUT: true; the input reads as it did. -/
def cspaceGuardsSpec : ChangeSpec := { name := "cspaceGuards", fn := fun _ => fun
  | [d1, d2, d3, d4, d5] => { results := [.lit (.bool true)], args := [d1, d2, d3, d4, d5] }
  | _ => none }
def cspaceGuardsRow : OpenClaim := { program := "ytdlloccodmdnnaa", sum := "624f0da668be2a87ebc139ae24e9ef61297dd370bc42e8b02e53f565881d8a2a", func := "citadel/citadellaw10.CspaceGuards", spec := "cspaceGuards", unfollowed := true, recurses := true, apart := false }
def CspaceGuardsSaid : Prop := cspaceGuardsRow.holds Try.pinned (OpenSpec.ofChange cspaceGuardsSpec)

/-- ITS FALSE NEIGHBOUR: 'it returns false'. Refute it at one input. -/
def cspaceGuardsWrong : ChangeSpec := { name := "cspaceGuards", fn := fun _ => fun
  | [d1, d2, d3, d4, d5] => { results := [.lit (.bool false)], args := [d1, d2, d3, d4, d5] }
  | _ => none }
def CspaceGuardsWrongFalsely : Prop := cspaceGuardsRow.holds Try.pinned (OpenSpec.ofChange cspaceGuardsWrong)

/-- 'citadellaw10.CspaceShort': WHATEVER THE INPUT: true; the input reads as it did. -/
def cspaceShortSpec : ChangeSpec := { name := "cspaceShort", fn := fun _ => fun
  | [d1, d2, d3, d4] => { results := [.lit (.bool true)], args := [d1, d2, d3, d4] }
  | _ => none }
def cspaceShortRow : OpenClaim := { program := "ytdlloccodmdnnaa", sum := "624f0da668be2a87ebc139ae24e9ef61297dd370bc42e8b02e53f565881d8a2a", func := "citadel/citadellaw10.CspaceShort", spec := "cspaceShort", unfollowed := true, recurses := true, apart := false }
def CspaceShortSaid : Prop := cspaceShortRow.holds Try.pinned (OpenSpec.ofChange cspaceShortSpec)

/-- ITS FALSE NEIGHBOUR: 'it returns false'. Refute it at one input. -/
def cspaceShortWrong : ChangeSpec := { name := "cspaceShort", fn := fun _ => fun
  | [d1, d2, d3, d4] => { results := [.lit (.bool false)], args := [d1, d2, d3, d4] }
  | _ => none }
def CspaceShortWrongFalsely : Prop := cspaceShortRow.holds Try.pinned (OpenSpec.ofChange cspaceShortWrong)

/-- 'citadellaw10.CspaceMasks': WHATEVER THE INPUT: true; the input reads as it did. -/
def cspaceMasksSpec : ChangeSpec := { name := "cspaceMasks", fn := fun _ => fun
  | [d1, d2, d3] => { results := [.lit (.bool true)], args := [d1, d2, d3] }
  | _ => none }
def cspaceMasksRow : OpenClaim := { program := "ytdlloccodmdnnaa", sum := "624f0da668be2a87ebc139ae24e9ef61297dd370bc42e8b02e53f565881d8a2a", func := "citadel/citadellaw10.CspaceMasks", spec := "cspaceMasks", unfollowed := true, recurses := true, apart := false }
def CspaceMasksSaid : Prop := cspaceMasksRow.holds Try.pinned (OpenSpec.ofChange cspaceMasksSpec)

/-- ITS FALSE NEIGHBOUR: 'it returns false'. Refute it at one input. -/
def cspaceMasksWrong : ChangeSpec := { name := "cspaceMasks", fn := fun _ => fun
  | [d1, d2, d3] => { results := [.lit (.bool false)], args := [d1, d2, d3] }
  | _ => none }
def CspaceMasksWrongFalsely : Prop := cspaceMasksRow.holds Try.pinned (OpenSpec.ofChange cspaceMasksWrong)

/-- 'citadellaw10.CspaceResolves': WHATEVER THE INPUT: true; the input reads as it did. -/
def cspaceResolvesSpec : ChangeSpec := { name := "cspaceResolves", fn := fun _ => fun
  | [d1, d2, d3, d4] => { results := [.lit (.bool true)], args := [d1, d2, d3, d4] }
  | _ => none }
def cspaceResolvesRow : OpenClaim := { program := "ytdlloccodmdnnaa", sum := "624f0da668be2a87ebc139ae24e9ef61297dd370bc42e8b02e53f565881d8a2a", func := "citadel/citadellaw10.CspaceResolves", spec := "cspaceResolves", unfollowed := true, recurses := true, apart := false }
def CspaceResolvesSaid : Prop := cspaceResolvesRow.holds Try.pinned (OpenSpec.ofChange cspaceResolvesSpec)

/-- ITS FALSE NEIGHBOUR: 'it returns false'. Refute it at one input. -/
def cspaceResolvesWrong : ChangeSpec := { name := "cspaceResolves", fn := fun _ => fun
  | [d1, d2, d3, d4] => { results := [.lit (.bool false)], args := [d1, d2, d3, d4] }
  | _ => none }
def CspaceResolvesWrongFalsely : Prop := cspaceResolvesRow.holds Try.pinned (OpenSpec.ofChange cspaceResolvesWrong)

/-- 'citadellaw08.ObjsApart': WHATEVER THE INPUT: true; the input reads as it did. -/
def objsApartSpec : ChangeSpec := { name := "objsApart", fn := fun _ => fun
  | [d1, d2] => { results := [.lit (.bool true)], args := [d1, d2] }
  | _ => none }
def objsApartRow : OpenClaim := { program := "ytdlloccodmdnnaa", sum := "624f0da668be2a87ebc139ae24e9ef61297dd370bc42e8b02e53f565881d8a2a", func := "citadel/citadellaw08.ObjsApart", spec := "objsApart", apart := false }
def ObjsApartSaid : Prop := objsApartRow.holds Try.pinned (OpenSpec.ofChange objsApartSpec)

/-- ITS FALSE NEIGHBOUR: 'it returns false'. Refute it at one input. -/
def objsApartWrong : ChangeSpec := { name := "objsApart", fn := fun _ => fun
  | [d1, d2] => { results := [.lit (.bool false)], args := [d1, d2] }
  | _ => none }
def ObjsApartWrongFalsely : Prop := objsApartRow.holds Try.pinned (OpenSpec.ofChange objsApartWrong)

/-- 'citadellaw08.ObjsZero': WHATEVER THE INPUT: true; the input reads as it did. -/
def objsZeroSpec : ChangeSpec := { name := "objsZero", fn := fun _ => fun
  | [d1, d2] => { results := [.lit (.bool true)], args := [d1, d2] }
  | _ => none }
def objsZeroRow : OpenClaim := { program := "ytdlloccodmdnnaa", sum := "624f0da668be2a87ebc139ae24e9ef61297dd370bc42e8b02e53f565881d8a2a", func := "citadel/citadellaw08.ObjsZero", spec := "objsZero", apart := false }
def ObjsZeroSaid : Prop := objsZeroRow.holds Try.pinned (OpenSpec.ofChange objsZeroSpec)

/-- ITS FALSE NEIGHBOUR: 'it returns false'. Refute it at one input. -/
def objsZeroWrong : ChangeSpec := { name := "objsZero", fn := fun _ => fun
  | [d1, d2] => { results := [.lit (.bool false)], args := [d1, d2] }
  | _ => none }
def ObjsZeroWrongFalsely : Prop := objsZeroRow.holds Try.pinned (OpenSpec.ofChange objsZeroWrong)

/-- 'citadellaw08.ObjsBack': WHATEVER THE INPUT: true; the input reads as it did. -/
def objsBackSpec : ChangeSpec := { name := "objsBack", fn := fun _ => fun
  | [d] => { results := [.lit (.bool true)], args := [d] }
  | _ => none }
def objsBackRow : OpenClaim := { program := "ytdlloccodmdnnaa", sum := "624f0da668be2a87ebc139ae24e9ef61297dd370bc42e8b02e53f565881d8a2a", func := "citadel/citadellaw08.ObjsBack", spec := "objsBack", apart := false }
def ObjsBackSaid : Prop := objsBackRow.holds Try.pinned (OpenSpec.ofChange objsBackSpec)

/-- ITS FALSE NEIGHBOUR: 'it returns false'. Refute it at one input. -/
def objsBackWrong : ChangeSpec := { name := "objsBack", fn := fun _ => fun
  | [d] => { results := [.lit (.bool false)], args := [d] }
  | _ => none }
def ObjsBackWrongFalsely : Prop := objsBackRow.holds Try.pinned (OpenSpec.ofChange objsBackWrong)

/-- 'citadellaw08.ObjsPlays': WHATEVER THE INPUT: true; the input reads as it did. -/
def objsPlaysSpec : ChangeSpec := { name := "objsPlays", fn := fun _ => fun
  | [d] => { results := [.lit (.bool true)], args := [d] }
  | _ => none }
def objsPlaysRow : OpenClaim := { program := "ytdlloccodmdnnaa", sum := "624f0da668be2a87ebc139ae24e9ef61297dd370bc42e8b02e53f565881d8a2a", func := "citadel/citadellaw08.ObjsPlays", spec := "objsPlays", apart := false }
def ObjsPlaysSaid : Prop := objsPlaysRow.holds Try.pinned (OpenSpec.ofChange objsPlaysSpec)

/-- ITS FALSE NEIGHBOUR: 'it returns false'. Refute it at one input. -/
def objsPlaysWrong : ChangeSpec := { name := "objsPlays", fn := fun _ => fun
  | [d] => { results := [.lit (.bool false)], args := [d] }
  | _ => none }
def ObjsPlaysWrongFalsely : Prop := objsPlaysRow.holds Try.pinned (OpenSpec.ofChange objsPlaysWrong)

/- THE SECOND FORM. 'bulk': how many values and letters a reading holds, each counted each time it is reached (what is shared counts as often as it is met; a slice's spare places count too). A statement '..UptoSaid' is the law's where the arguments, and the package variables that the reading takes, are together of bulk at most 1048576: NARROWER than '..Said'. Prove '..Said' where nothing that the law and all that it calls make is longer than what came in: it says more and counts as full. Else prove '..UptoSaid'. A law counts once. -/
mutual
def uptoBulk {H : Type} : DataW H → Nat
  | .lit (.string bytes) => bytes.length + 1
  | .lit _ => 1
  | .nil => 1
  | .ptr d => uptoBulk d + 1
  | .slice elems spare => uptoBulkAll elems + uptoBulkAll spare + 1
  | .agg parts => uptoBulkAll parts + 1
  | .iface _ d => uptoBulk d + 1
  | .map entries => uptoBulkEntries entries + 1
  | .held _ => 1
def uptoBulkAll {H : Type} : List (DataW H) → Nat
  | [] => 0
  | d :: r => uptoBulk d + uptoBulkAll r
def uptoBulkEntries {H : Type} : List (Lit × DataW H) → Nat
  | [] => 0
  | x :: r => uptoBulkEntry x + uptoBulkEntries r
def uptoBulkEntry {H : Type} : Lit × DataW H → Nat
  | (.string bytes, d) => bytes.length + uptoBulk d + 1
  | (_, d) => uptoBulk d + 1
 end
def uptoSmall : (H : Type) → List (DataW H) → Bool := fun _ ds => decide (uptoBulkAll ds ≤ 1048576)
def OpenSpec.upto (s : _root_.Go.ChangeSpec) : _root_.Go.OpenSpec := { _root_.Go.OpenSpec.ofChange s with cond := some uptoSmall }

/-- 'citadellaw10.CspaceLocal', WHERE WHAT IT READS IS OF BULK AT MOST 1048576: true; the input reads as it did. -/
def cspaceLocalUptoRow : OpenClaim := { program := "ytdlloccodmdnnaa", sum := "624f0da668be2a87ebc139ae24e9ef61297dd370bc42e8b02e53f565881d8a2a", func := "citadel/citadellaw10.CspaceLocal", spec := "cspaceLocal", unfollowed := true, recurses := true, apart := false, narrowed := true }
def CspaceLocalUptoSaid : Prop := cspaceLocalUptoRow.holds Try.pinned (OpenSpec.upto cspaceLocalSpec)

/-- 'citadellaw10.CspaceDeeper', WHERE WHAT IT READS IS OF BULK AT MOST 1048576: true; the input reads as it did. -/
def cspaceDeeperUptoRow : OpenClaim := { program := "ytdlloccodmdnnaa", sum := "624f0da668be2a87ebc139ae24e9ef61297dd370bc42e8b02e53f565881d8a2a", func := "citadel/citadellaw10.CspaceDeeper", spec := "cspaceDeeper", unfollowed := true, recurses := true, apart := false, narrowed := true }
def CspaceDeeperUptoSaid : Prop := cspaceDeeperUptoRow.holds Try.pinned (OpenSpec.upto cspaceDeeperSpec)

/-- 'citadellaw10.CspaceGuards', WHERE WHAT IT READS IS OF BULK AT MOST 1048576: true; the input reads as it did. -/
def cspaceGuardsUptoRow : OpenClaim := { program := "ytdlloccodmdnnaa", sum := "624f0da668be2a87ebc139ae24e9ef61297dd370bc42e8b02e53f565881d8a2a", func := "citadel/citadellaw10.CspaceGuards", spec := "cspaceGuards", unfollowed := true, recurses := true, apart := false, narrowed := true }
def CspaceGuardsUptoSaid : Prop := cspaceGuardsUptoRow.holds Try.pinned (OpenSpec.upto cspaceGuardsSpec)

/-- 'citadellaw10.CspaceShort', WHERE WHAT IT READS IS OF BULK AT MOST 1048576: true; the input reads as it did. -/
def cspaceShortUptoRow : OpenClaim := { program := "ytdlloccodmdnnaa", sum := "624f0da668be2a87ebc139ae24e9ef61297dd370bc42e8b02e53f565881d8a2a", func := "citadel/citadellaw10.CspaceShort", spec := "cspaceShort", unfollowed := true, recurses := true, apart := false, narrowed := true }
def CspaceShortUptoSaid : Prop := cspaceShortUptoRow.holds Try.pinned (OpenSpec.upto cspaceShortSpec)

/-- 'citadellaw10.CspaceMasks', WHERE WHAT IT READS IS OF BULK AT MOST 1048576: true; the input reads as it did. -/
def cspaceMasksUptoRow : OpenClaim := { program := "ytdlloccodmdnnaa", sum := "624f0da668be2a87ebc139ae24e9ef61297dd370bc42e8b02e53f565881d8a2a", func := "citadel/citadellaw10.CspaceMasks", spec := "cspaceMasks", unfollowed := true, recurses := true, apart := false, narrowed := true }
def CspaceMasksUptoSaid : Prop := cspaceMasksUptoRow.holds Try.pinned (OpenSpec.upto cspaceMasksSpec)

/-- 'citadellaw10.CspaceResolves', WHERE WHAT IT READS IS OF BULK AT MOST 1048576: true; the input reads as it did. -/
def cspaceResolvesUptoRow : OpenClaim := { program := "ytdlloccodmdnnaa", sum := "624f0da668be2a87ebc139ae24e9ef61297dd370bc42e8b02e53f565881d8a2a", func := "citadel/citadellaw10.CspaceResolves", spec := "cspaceResolves", unfollowed := true, recurses := true, apart := false, narrowed := true }
def CspaceResolvesUptoSaid : Prop := cspaceResolvesUptoRow.holds Try.pinned (OpenSpec.upto cspaceResolvesSpec)

/-- 'citadellaw08.ObjsApart', WHERE WHAT IT READS IS OF BULK AT MOST 1048576: true; the input reads as it did. -/
def objsApartUptoRow : OpenClaim := { program := "ytdlloccodmdnnaa", sum := "624f0da668be2a87ebc139ae24e9ef61297dd370bc42e8b02e53f565881d8a2a", func := "citadel/citadellaw08.ObjsApart", spec := "objsApart", apart := false, narrowed := true }
def ObjsApartUptoSaid : Prop := objsApartUptoRow.holds Try.pinned (OpenSpec.upto objsApartSpec)

/-- 'citadellaw08.ObjsZero', WHERE WHAT IT READS IS OF BULK AT MOST 1048576: true; the input reads as it did. -/
def objsZeroUptoRow : OpenClaim := { program := "ytdlloccodmdnnaa", sum := "624f0da668be2a87ebc139ae24e9ef61297dd370bc42e8b02e53f565881d8a2a", func := "citadel/citadellaw08.ObjsZero", spec := "objsZero", apart := false, narrowed := true }
def ObjsZeroUptoSaid : Prop := objsZeroUptoRow.holds Try.pinned (OpenSpec.upto objsZeroSpec)

/-- 'citadellaw08.ObjsBack', WHERE WHAT IT READS IS OF BULK AT MOST 1048576: true; the input reads as it did. -/
def objsBackUptoRow : OpenClaim := { program := "ytdlloccodmdnnaa", sum := "624f0da668be2a87ebc139ae24e9ef61297dd370bc42e8b02e53f565881d8a2a", func := "citadel/citadellaw08.ObjsBack", spec := "objsBack", apart := false, narrowed := true }
def ObjsBackUptoSaid : Prop := objsBackUptoRow.holds Try.pinned (OpenSpec.upto objsBackSpec)

/-- 'citadellaw08.ObjsPlays', WHERE WHAT IT READS IS OF BULK AT MOST 1048576: true; the input reads as it did. -/
def objsPlaysUptoRow : OpenClaim := { program := "ytdlloccodmdnnaa", sum := "624f0da668be2a87ebc139ae24e9ef61297dd370bc42e8b02e53f565881d8a2a", func := "citadel/citadellaw08.ObjsPlays", spec := "objsPlays", apart := false, narrowed := true }
def ObjsPlaysUptoSaid : Prop := objsPlaysUptoRow.holds Try.pinned (OpenSpec.upto objsPlaysSpec)

end Rows
end Go.Proofs.Ytdlloccodmdnnaa
