/-
  No cell of these rows narrows 'for every input' (looked for: loops, veiled, ifaces, maps, wideKeys, modest, calm, conditions, laid).
  DERIVED. THE GIVEN ROWS OF THIS SEAT. 8 by the template 'for every input the law returns true; each argument reads behind the call as it read before'; 0 by the template 'total and deterministic' (their statements: YtcdfofeolgbnbaaGreatTotals.lean).
  GIVEN WITH THE SEED: the statements are not yours to turn. If you find one false, say at which input.
  Laid BY PROGRAM, IN A SANDBOX (cutbox-rows.mjs): the forced cells as the released guide's own fill.sh prints them over the translation 309033c6c30a559d… (all of the seat's roots in one cut). By AI agents, Wed Nov 11 2026. No macro, syntax, notation, axiom, sorry.
-/
import Derived.Test.YtcdfofeolgbnbaaGreatChecked
import GoSem.Claim
import GoSem.ClaimJoined
import GoSem.ClaimMapViews
import Derived.JoinedTies
import Derived.KernelRfl
namespace Go.Proofs.YtcdfofeolgbnbaaGreat
/- THE CELL 'sum', in the pinned program and in every row, IS THE sha256 OF THE DUMP (.gsa) THAT YtcdfofeolgbnbaaGreatProg.lean LOADS. Nothing in Lean hashes anything: it is a label: what it is worth is what the hold of that sum in a sandbox is worth. -/
noncomputable def Tryz.pinned : Pinned := { name := "ytcdfofeolgbnbaagreat", sum := "309033c6c30a559d671e302280fa5a1d96da05f186d3384d6dd1c4b59128c3bd", checked := Tryz.checked }
namespace Rows
def none {H : Type} : Left H := { results := [], args := [] }

/-- 'citadellaw11.CdtPlays': WHATEVER THE INPUT: true; the input reads as it did. -/
def cdtPlaysSpec : ChangeSpec := { name := "cdtPlays", fn := fun _ => fun
  | [d] => { results := [.lit (.bool true)], args := [d] }
  | _ => none }
def cdtPlaysRow : OpenClaim := { program := "ytcdfofeolgbnbaagreat", sum := "309033c6c30a559d671e302280fa5a1d96da05f186d3384d6dd1c4b59128c3bd", func := "citadel/citadellaw11.CdtPlays", spec := "cdtPlays", unfollowed := true, recurses := true, apart := false }
def CdtPlaysSaid : Prop := cdtPlaysRow.holds Tryz.pinned (OpenSpec.ofChange cdtPlaysSpec)

/-- ITS FALSE NEIGHBOUR: 'it returns false'. Refute it at one input. -/
def cdtPlaysWrong : ChangeSpec := { name := "cdtPlays", fn := fun _ => fun
  | [d] => { results := [.lit (.bool false)], args := [d] }
  | _ => none }
def CdtPlaysWrongFalsely : Prop := cdtPlaysRow.holds Tryz.pinned (OpenSpec.ofChange cdtPlaysWrong)

/-- 'citadellaw15.UntypedRoom': WHATEVER THE INPUT: true; the input reads as it did. -/
def untypedRoomSpec : ChangeSpec := { name := "untypedRoom", fn := fun _ => fun
  | [d1, d2, d3, d4] => { results := [.lit (.bool true)], args := [d1, d2, d3, d4] }
  | _ => none }
def untypedRoomRow : OpenClaim := { program := "ytcdfofeolgbnbaagreat", sum := "309033c6c30a559d671e302280fa5a1d96da05f186d3384d6dd1c4b59128c3bd", func := "citadel/citadellaw15.UntypedRoom", spec := "untypedRoom", unfollowed := true, recurses := true, apart := false }
def UntypedRoomSaid : Prop := untypedRoomRow.holds Tryz.pinned (OpenSpec.ofChange untypedRoomSpec)

/-- ITS FALSE NEIGHBOUR: 'it returns false'. Refute it at one input. -/
def untypedRoomWrong : ChangeSpec := { name := "untypedRoom", fn := fun _ => fun
  | [d1, d2, d3, d4] => { results := [.lit (.bool false)], args := [d1, d2, d3, d4] }
  | _ => none }
def UntypedRoomWrongFalsely : Prop := untypedRoomRow.holds Tryz.pinned (OpenSpec.ofChange untypedRoomWrong)

/-- 'citadellaw15.UntypedFull': WHATEVER THE INPUT: true; the input reads as it did. -/
def untypedFullSpec : ChangeSpec := { name := "untypedFull", fn := fun _ => fun
  | [d] => { results := [.lit (.bool true)], args := [d] }
  | _ => none }
def untypedFullRow : OpenClaim := { program := "ytcdfofeolgbnbaagreat", sum := "309033c6c30a559d671e302280fa5a1d96da05f186d3384d6dd1c4b59128c3bd", func := "citadel/citadellaw15.UntypedFull", spec := "untypedFull", unfollowed := true, recurses := true, apart := false }
def UntypedFullSaid : Prop := untypedFullRow.holds Tryz.pinned (OpenSpec.ofChange untypedFullSpec)

/-- ITS FALSE NEIGHBOUR: 'it returns false'. Refute it at one input. -/
def untypedFullWrong : ChangeSpec := { name := "untypedFull", fn := fun _ => fun
  | [d] => { results := [.lit (.bool false)], args := [d] }
  | _ => none }
def UntypedFullWrongFalsely : Prop := untypedFullRow.holds Tryz.pinned (OpenSpec.ofChange untypedFullWrong)

/-- 'citadellaw15.UntypedPlays': WHATEVER THE INPUT: true; the input reads as it did. -/
def untypedPlaysSpec : ChangeSpec := { name := "untypedPlays", fn := fun _ => fun
  | [d] => { results := [.lit (.bool true)], args := [d] }
  | _ => none }
def untypedPlaysRow : OpenClaim := { program := "ytcdfofeolgbnbaagreat", sum := "309033c6c30a559d671e302280fa5a1d96da05f186d3384d6dd1c4b59128c3bd", func := "citadel/citadellaw15.UntypedPlays", spec := "untypedPlays", unfollowed := true, recurses := true, apart := false }
def UntypedPlaysSaid : Prop := untypedPlaysRow.holds Tryz.pinned (OpenSpec.ofChange untypedPlaysSpec)

/-- ITS FALSE NEIGHBOUR: 'it returns false'. Refute it at one input. -/
def untypedPlaysWrong : ChangeSpec := { name := "untypedPlays", fn := fun _ => fun
  | [d] => { results := [.lit (.bool false)], args := [d] }
  | _ => none }
def UntypedPlaysWrongFalsely : Prop := untypedPlaysRow.holds Tryz.pinned (OpenSpec.ofChange untypedPlaysWrong)

/-- 'citadellaw15.UntypedResets': WHATEVER THE INPUT: true; the input reads as it did. -/
def untypedResetsSpec : ChangeSpec := { name := "untypedResets", fn := fun _ => fun
  | [d1, d2, d3] => { results := [.lit (.bool true)], args := [d1, d2, d3] }
  | _ => none }
def untypedResetsRow : OpenClaim := { program := "ytcdfofeolgbnbaagreat", sum := "309033c6c30a559d671e302280fa5a1d96da05f186d3384d6dd1c4b59128c3bd", func := "citadel/citadellaw15.UntypedResets", spec := "untypedResets", unfollowed := true, recurses := true, apart := false }
def UntypedResetsSaid : Prop := untypedResetsRow.holds Tryz.pinned (OpenSpec.ofChange untypedResetsSpec)

/-- ITS FALSE NEIGHBOUR: 'it returns false'. Refute it at one input. -/
def untypedResetsWrong : ChangeSpec := { name := "untypedResets", fn := fun _ => fun
  | [d1, d2, d3] => { results := [.lit (.bool false)], args := [d1, d2, d3] }
  | _ => none }
def UntypedResetsWrongFalsely : Prop := untypedResetsRow.holds Tryz.pinned (OpenSpec.ofChange untypedResetsWrong)

/-- 'citadellaw15.UntypedFresh': WHATEVER THE INPUT: true; the input reads as it did. -/
def untypedFreshSpec : ChangeSpec := { name := "untypedFresh", fn := fun _ => fun
  | [d1, d2] => { results := [.lit (.bool true)], args := [d1, d2] }
  | _ => none }
def untypedFreshRow : OpenClaim := { program := "ytcdfofeolgbnbaagreat", sum := "309033c6c30a559d671e302280fa5a1d96da05f186d3384d6dd1c4b59128c3bd", func := "citadel/citadellaw15.UntypedFresh", spec := "untypedFresh", unfollowed := true, recurses := true, apart := false }
def UntypedFreshSaid : Prop := untypedFreshRow.holds Tryz.pinned (OpenSpec.ofChange untypedFreshSpec)

/-- ITS FALSE NEIGHBOUR: 'it returns false'. Refute it at one input. -/
def untypedFreshWrong : ChangeSpec := { name := "untypedFresh", fn := fun _ => fun
  | [d1, d2] => { results := [.lit (.bool false)], args := [d1, d2] }
  | _ => none }
def UntypedFreshWrongFalsely : Prop := untypedFreshRow.holds Tryz.pinned (OpenSpec.ofChange untypedFreshWrong)

/-- 'citadellaw15.UntypedApart': WHATEVER THE INPUT: true; the input reads as it did. -/
def untypedApartSpec : ChangeSpec := { name := "untypedApart", fn := fun _ => fun
  | [d] => { results := [.lit (.bool true)], args := [d] }
  | _ => none }
def untypedApartRow : OpenClaim := { program := "ytcdfofeolgbnbaagreat", sum := "309033c6c30a559d671e302280fa5a1d96da05f186d3384d6dd1c4b59128c3bd", func := "citadel/citadellaw15.UntypedApart", spec := "untypedApart", unfollowed := true, recurses := true, apart := false }
def UntypedApartSaid : Prop := untypedApartRow.holds Tryz.pinned (OpenSpec.ofChange untypedApartSpec)

/-- ITS FALSE NEIGHBOUR: 'it returns false'. Refute it at one input. -/
def untypedApartWrong : ChangeSpec := { name := "untypedApart", fn := fun _ => fun
  | [d] => { results := [.lit (.bool false)], args := [d] }
  | _ => none }
def UntypedApartWrongFalsely : Prop := untypedApartRow.holds Tryz.pinned (OpenSpec.ofChange untypedApartWrong)

/-- 'citadellaw12.DeriveChild': WHATEVER THE INPUT: true; the input reads as it did. -/
def deriveChildSpec : ChangeSpec := { name := "deriveChild", fn := fun _ => fun
  | [d1, d2, d3, d4] => { results := [.lit (.bool true)], args := [d1, d2, d3, d4] }
  | _ => none }
def deriveChildRow : OpenClaim := { program := "ytcdfofeolgbnbaagreat", sum := "309033c6c30a559d671e302280fa5a1d96da05f186d3384d6dd1c4b59128c3bd", func := "citadel/citadellaw12.DeriveChild", spec := "deriveChild", unfollowed := true, recurses := true, apart := false }
def DeriveChildSaid : Prop := deriveChildRow.holds Tryz.pinned (OpenSpec.ofChange deriveChildSpec)

/-- ITS FALSE NEIGHBOUR: 'it returns false'. Refute it at one input. -/
def deriveChildWrong : ChangeSpec := { name := "deriveChild", fn := fun _ => fun
  | [d1, d2, d3, d4] => { results := [.lit (.bool false)], args := [d1, d2, d3, d4] }
  | _ => none }
def DeriveChildWrongFalsely : Prop := deriveChildRow.holds Tryz.pinned (OpenSpec.ofChange deriveChildWrong)

/- THE SECOND FORM. 'bulk': how many values and letters a reading holds, each counted each time it is reached (what is shared counts as often as it is met; a slice's spare places count too). A statement '..UptoSaid' is the law's where the arguments, and the package variables that the reading takes, are together of bulk at most 1048576: NARROWER than '..Said'. Prove '..Said' where nothing that the law and all that it calls make is longer than what came in: it says more and counts as full. Else prove '..UptoSaid'. A law counts once. -/
mutual
def uptoBulk {H : Type} : DataW H → Nat
  | .lit (.string bytes) => bytes.length + 1
  | .lit _ => 1
  | .nil => 1
  | .ptr d => uptoBulk d + 1
  | .slice elems spare => uptoBulkAll elems + uptoBulkAll spare + 1
  | .agg parts => uptoBulkAll parts + 1
  | .iface _ d => uptoBulk d + 1
  | .map entries => uptoBulkEntries entries + 1
  | .held _ => 1
def uptoBulkAll {H : Type} : List (DataW H) → Nat
  | [] => 0
  | d :: r => uptoBulk d + uptoBulkAll r
def uptoBulkEntries {H : Type} : List (Lit × DataW H) → Nat
  | [] => 0
  | x :: r => uptoBulkEntry x + uptoBulkEntries r
def uptoBulkEntry {H : Type} : Lit × DataW H → Nat
  | (.string bytes, d) => bytes.length + uptoBulk d + 1
  | (_, d) => uptoBulk d + 1
 end
def uptoSmall : (H : Type) → List (DataW H) → Bool := fun _ ds => decide (uptoBulkAll ds ≤ 1048576)
def OpenSpec.upto (s : _root_.Go.ChangeSpec) : _root_.Go.OpenSpec := { _root_.Go.OpenSpec.ofChange s with cond := some uptoSmall }

/-- 'citadellaw11.CdtPlays', WHERE WHAT IT READS IS OF BULK AT MOST 1048576: true; the input reads as it did. -/
def cdtPlaysUptoRow : OpenClaim := { program := "ytcdfofeolgbnbaagreat", sum := "309033c6c30a559d671e302280fa5a1d96da05f186d3384d6dd1c4b59128c3bd", func := "citadel/citadellaw11.CdtPlays", spec := "cdtPlays", unfollowed := true, recurses := true, apart := false, narrowed := true }
def CdtPlaysUptoSaid : Prop := cdtPlaysUptoRow.holds Tryz.pinned (OpenSpec.upto cdtPlaysSpec)

/-- 'citadellaw15.UntypedRoom', WHERE WHAT IT READS IS OF BULK AT MOST 1048576: true; the input reads as it did. -/
def untypedRoomUptoRow : OpenClaim := { program := "ytcdfofeolgbnbaagreat", sum := "309033c6c30a559d671e302280fa5a1d96da05f186d3384d6dd1c4b59128c3bd", func := "citadel/citadellaw15.UntypedRoom", spec := "untypedRoom", unfollowed := true, recurses := true, apart := false, narrowed := true }
def UntypedRoomUptoSaid : Prop := untypedRoomUptoRow.holds Tryz.pinned (OpenSpec.upto untypedRoomSpec)

/-- 'citadellaw15.UntypedFull', WHERE WHAT IT READS IS OF BULK AT MOST 1048576: true; the input reads as it did. -/
def untypedFullUptoRow : OpenClaim := { program := "ytcdfofeolgbnbaagreat", sum := "309033c6c30a559d671e302280fa5a1d96da05f186d3384d6dd1c4b59128c3bd", func := "citadel/citadellaw15.UntypedFull", spec := "untypedFull", unfollowed := true, recurses := true, apart := false, narrowed := true }
def UntypedFullUptoSaid : Prop := untypedFullUptoRow.holds Tryz.pinned (OpenSpec.upto untypedFullSpec)

/-- 'citadellaw15.UntypedPlays', WHERE WHAT IT READS IS OF BULK AT MOST 1048576: true; the input reads as it did. -/
def untypedPlaysUptoRow : OpenClaim := { program := "ytcdfofeolgbnbaagreat", sum := "309033c6c30a559d671e302280fa5a1d96da05f186d3384d6dd1c4b59128c3bd", func := "citadel/citadellaw15.UntypedPlays", spec := "untypedPlays", unfollowed := true, recurses := true, apart := false, narrowed := true }
def UntypedPlaysUptoSaid : Prop := untypedPlaysUptoRow.holds Tryz.pinned (OpenSpec.upto untypedPlaysSpec)

/-- 'citadellaw15.UntypedResets', WHERE WHAT IT READS IS OF BULK AT MOST 1048576: true; the input reads as it did. -/
def untypedResetsUptoRow : OpenClaim := { program := "ytcdfofeolgbnbaagreat", sum := "309033c6c30a559d671e302280fa5a1d96da05f186d3384d6dd1c4b59128c3bd", func := "citadel/citadellaw15.UntypedResets", spec := "untypedResets", unfollowed := true, recurses := true, apart := false, narrowed := true }
def UntypedResetsUptoSaid : Prop := untypedResetsUptoRow.holds Tryz.pinned (OpenSpec.upto untypedResetsSpec)

/-- 'citadellaw15.UntypedFresh', WHERE WHAT IT READS IS OF BULK AT MOST 1048576: true; the input reads as it did. -/
def untypedFreshUptoRow : OpenClaim := { program := "ytcdfofeolgbnbaagreat", sum := "309033c6c30a559d671e302280fa5a1d96da05f186d3384d6dd1c4b59128c3bd", func := "citadel/citadellaw15.UntypedFresh", spec := "untypedFresh", unfollowed := true, recurses := true, apart := false, narrowed := true }
def UntypedFreshUptoSaid : Prop := untypedFreshUptoRow.holds Tryz.pinned (OpenSpec.upto untypedFreshSpec)

/-- 'citadellaw15.UntypedApart', WHERE WHAT IT READS IS OF BULK AT MOST 1048576: true; the input reads as it did. -/
def untypedApartUptoRow : OpenClaim := { program := "ytcdfofeolgbnbaagreat", sum := "309033c6c30a559d671e302280fa5a1d96da05f186d3384d6dd1c4b59128c3bd", func := "citadel/citadellaw15.UntypedApart", spec := "untypedApart", unfollowed := true, recurses := true, apart := false, narrowed := true }
def UntypedApartUptoSaid : Prop := untypedApartUptoRow.holds Tryz.pinned (OpenSpec.upto untypedApartSpec)

/-- 'citadellaw12.DeriveChild', WHERE WHAT IT READS IS OF BULK AT MOST 1048576: true; the input reads as it did. -/
def deriveChildUptoRow : OpenClaim := { program := "ytcdfofeolgbnbaagreat", sum := "309033c6c30a559d671e302280fa5a1d96da05f186d3384d6dd1c4b59128c3bd", func := "citadel/citadellaw12.DeriveChild", spec := "deriveChild", unfollowed := true, recurses := true, apart := false, narrowed := true }
def DeriveChildUptoSaid : Prop := deriveChildUptoRow.holds Tryz.pinned (OpenSpec.upto deriveChildSpec)

end Rows
end Go.Proofs.YtcdfofeolgbnbaaGreat
