/-
  NARROWER THAN 'FOR EVERY INPUT', by the rows' own cells (each row's printed sentence says how): TopSignals: laid · TopTurns: laid · TopUrgent: laid · TopBadges: laid · TopRevoked: laid · TopSpawn: laid · TopLines: laid · TopForgets: laid.
  DERIVED. THE GIVEN ROWS OF THIS SEAT. 8 by the template 'for every input the law returns true; each argument reads behind the call as it read before'; 0 by the template 'total and deterministic' (their statements: YtebgbhgehnpahaaGreatDoorTotals.lean).
  GIVEN WITH THE SEED: the statements are not yours to turn. If you find one false, say at which input.
  Laid BY PROGRAM, IN A SANDBOX (cutbox-rows.mjs): the forced cells as the released guide's own fill.sh prints them over the translation 0383a54891142c80… (all of the seat's roots in one cut). By AI agents, Wed Nov 11 2026. No macro, syntax, notation, axiom, sorry.
-/
import Derived.Test.YtebgbhgehnpahaaGreatDoorChecked
import GoSem.Claim
import GoSem.ClaimJoined
import GoSem.ClaimMapViews
import Derived.JoinedTies
import Derived.KernelRfl
namespace Go.Proofs.YtebgbhgehnpahaaGreatDoor
/- THE CELL 'sum', in the pinned program and in every row, IS THE sha256 OF THE DUMP (.gsa) THAT YtebgbhgehnpahaaGreatDoorProg.lean LOADS. Nothing in Lean hashes anything: it is a label: what it is worth is what the hold of that sum in a sandbox is worth. -/
noncomputable def Tryz.pinned : Pinned := { name := "ytebgbhgehnpahaagreatdoor", sum := "0383a54891142c80927c5720dd80f38a1831cc783f030294c56a2b454ce91498", checked := Tryz.checked }
namespace Rows
def none {H : Type} : Left H := { results := [], args := [] }

/- WHAT THE LISTED PACKAGE-LEVEL VARIABLES READ AS WHEN THE CALL BEGINS. Each datum BY PROGRAM (the guide's laid-datum.mjs) off the statement by which the dump's own 'gosem.cut.vars' lays the variable. In a bare row this is a premise. The card (YtebgbhgehnpahaaGreatDoorCards.lean) ties it to the program's text. -/
def laid_math_bits_deBruijn32tab {H : Type} : DataW H := .agg [.lit (.int .u8 0), .lit (.int .u8 1), .lit (.int .u8 28), .lit (.int .u8 2), .lit (.int .u8 29), .lit (.int .u8 14), .lit (.int .u8 24), .lit (.int .u8 3), .lit (.int .u8 30), .lit (.int .u8 22), .lit (.int .u8 20), .lit (.int .u8 15), .lit (.int .u8 25), .lit (.int .u8 17), .lit (.int .u8 4), .lit (.int .u8 8), .lit (.int .u8 31), .lit (.int .u8 27), .lit (.int .u8 13), .lit (.int .u8 23), .lit (.int .u8 21), .lit (.int .u8 19), .lit (.int .u8 16), .lit (.int .u8 7), .lit (.int .u8 26), .lit (.int .u8 12), .lit (.int .u8 18), .lit (.int .u8 6), .lit (.int .u8 11), .lit (.int .u8 5), .lit (.int .u8 10), .lit (.int .u8 9)]

/-- 'citadeltop.TopSignals': WHATEVER THE INPUT: true; the input reads as it did. -/
def topSignalsSpec : ChangeSpec := { name := "topSignals", fn := fun _ => fun
  | [d] => { results := [.lit (.bool true)], args := [d] }
  | _ => none }
def topSignalsRow : OpenClaim := { program := "ytebgbhgehnpahaagreatdoor", sum := "0383a54891142c80927c5720dd80f38a1831cc783f030294c56a2b454ce91498", func := "citadel/citadeltop.TopSignals", spec := "topSignals", unfollowed := true, recurses := true, named := ["math/bits.deBruijn32tab"], plainKeys := false, apart := false, laid := [("math/bits.deBruijn32tab", laid_math_bits_deBruijn32tab)] }
def TopSignalsSaid : Prop := topSignalsRow.holds Tryz.pinned (OpenSpec.ofChange topSignalsSpec)

/-- ITS FALSE NEIGHBOUR: 'it returns false'. Refute it at one input. -/
def topSignalsWrong : ChangeSpec := { name := "topSignals", fn := fun _ => fun
  | [d] => { results := [.lit (.bool false)], args := [d] }
  | _ => none }
def TopSignalsWrongFalsely : Prop := topSignalsRow.holds Tryz.pinned (OpenSpec.ofChange topSignalsWrong)

/-- 'citadeltop.TopTurns': WHATEVER THE INPUT: true; the input reads as it did. -/
def topTurnsSpec : ChangeSpec := { name := "topTurns", fn := fun _ => fun
  | [d1, d2, d3] => { results := [.lit (.bool true)], args := [d1, d2, d3] }
  | _ => none }
def topTurnsRow : OpenClaim := { program := "ytebgbhgehnpahaagreatdoor", sum := "0383a54891142c80927c5720dd80f38a1831cc783f030294c56a2b454ce91498", func := "citadel/citadeltop.TopTurns", spec := "topTurns", unfollowed := true, recurses := true, named := ["math/bits.deBruijn32tab"], plainKeys := false, apart := false, laid := [("math/bits.deBruijn32tab", laid_math_bits_deBruijn32tab)] }
def TopTurnsSaid : Prop := topTurnsRow.holds Tryz.pinned (OpenSpec.ofChange topTurnsSpec)

/-- ITS FALSE NEIGHBOUR: 'it returns false'. Refute it at one input. -/
def topTurnsWrong : ChangeSpec := { name := "topTurns", fn := fun _ => fun
  | [d1, d2, d3] => { results := [.lit (.bool false)], args := [d1, d2, d3] }
  | _ => none }
def TopTurnsWrongFalsely : Prop := topTurnsRow.holds Tryz.pinned (OpenSpec.ofChange topTurnsWrong)

/-- 'citadeltop.TopUrgent': WHATEVER THE INPUT: true; the input reads as it did. -/
def topUrgentSpec : ChangeSpec := { name := "topUrgent", fn := fun _ => fun
  | [d] => { results := [.lit (.bool true)], args := [d] }
  | _ => none }
def topUrgentRow : OpenClaim := { program := "ytebgbhgehnpahaagreatdoor", sum := "0383a54891142c80927c5720dd80f38a1831cc783f030294c56a2b454ce91498", func := "citadel/citadeltop.TopUrgent", spec := "topUrgent", unfollowed := true, recurses := true, named := ["math/bits.deBruijn32tab"], plainKeys := false, apart := false, laid := [("math/bits.deBruijn32tab", laid_math_bits_deBruijn32tab)] }
def TopUrgentSaid : Prop := topUrgentRow.holds Tryz.pinned (OpenSpec.ofChange topUrgentSpec)

/-- ITS FALSE NEIGHBOUR: 'it returns false'. Refute it at one input. -/
def topUrgentWrong : ChangeSpec := { name := "topUrgent", fn := fun _ => fun
  | [d] => { results := [.lit (.bool false)], args := [d] }
  | _ => none }
def TopUrgentWrongFalsely : Prop := topUrgentRow.holds Tryz.pinned (OpenSpec.ofChange topUrgentWrong)

/-- 'citadeltop.TopBadges': WHATEVER THE INPUT: true; the input reads as it did. -/
def topBadgesSpec : ChangeSpec := { name := "topBadges", fn := fun _ => fun
  | [d1, d2] => { results := [.lit (.bool true)], args := [d1, d2] }
  | _ => none }
def topBadgesRow : OpenClaim := { program := "ytebgbhgehnpahaagreatdoor", sum := "0383a54891142c80927c5720dd80f38a1831cc783f030294c56a2b454ce91498", func := "citadel/citadeltop.TopBadges", spec := "topBadges", unfollowed := true, recurses := true, named := ["math/bits.deBruijn32tab"], plainKeys := false, apart := false, laid := [("math/bits.deBruijn32tab", laid_math_bits_deBruijn32tab)] }
def TopBadgesSaid : Prop := topBadgesRow.holds Tryz.pinned (OpenSpec.ofChange topBadgesSpec)

/-- ITS FALSE NEIGHBOUR: 'it returns false'. Refute it at one input. -/
def topBadgesWrong : ChangeSpec := { name := "topBadges", fn := fun _ => fun
  | [d1, d2] => { results := [.lit (.bool false)], args := [d1, d2] }
  | _ => none }
def TopBadgesWrongFalsely : Prop := topBadgesRow.holds Tryz.pinned (OpenSpec.ofChange topBadgesWrong)

/-- 'citadeltop.TopRevoked': WHATEVER THE INPUT: true; the input reads as it did. -/
def topRevokedSpec : ChangeSpec := { name := "topRevoked", fn := fun _ => fun
  | [d] => { results := [.lit (.bool true)], args := [d] }
  | _ => none }
def topRevokedRow : OpenClaim := { program := "ytebgbhgehnpahaagreatdoor", sum := "0383a54891142c80927c5720dd80f38a1831cc783f030294c56a2b454ce91498", func := "citadel/citadeltop.TopRevoked", spec := "topRevoked", unfollowed := true, recurses := true, named := ["math/bits.deBruijn32tab"], plainKeys := false, apart := false, laid := [("math/bits.deBruijn32tab", laid_math_bits_deBruijn32tab)] }
def TopRevokedSaid : Prop := topRevokedRow.holds Tryz.pinned (OpenSpec.ofChange topRevokedSpec)

/-- ITS FALSE NEIGHBOUR: 'it returns false'. Refute it at one input. -/
def topRevokedWrong : ChangeSpec := { name := "topRevoked", fn := fun _ => fun
  | [d] => { results := [.lit (.bool false)], args := [d] }
  | _ => none }
def TopRevokedWrongFalsely : Prop := topRevokedRow.holds Tryz.pinned (OpenSpec.ofChange topRevokedWrong)

/-- 'citadeltop.TopSpawn': WHATEVER THE INPUT: true; the input reads as it did. -/
def topSpawnSpec : ChangeSpec := { name := "topSpawn", fn := fun _ => fun
  | [d1, d2, d3, d4] => { results := [.lit (.bool true)], args := [d1, d2, d3, d4] }
  | _ => none }
def topSpawnRow : OpenClaim := { program := "ytebgbhgehnpahaagreatdoor", sum := "0383a54891142c80927c5720dd80f38a1831cc783f030294c56a2b454ce91498", func := "citadel/citadeltop.TopSpawn", spec := "topSpawn", unfollowed := true, recurses := true, named := ["math/bits.deBruijn32tab"], plainKeys := false, apart := false, laid := [("math/bits.deBruijn32tab", laid_math_bits_deBruijn32tab)] }
def TopSpawnSaid : Prop := topSpawnRow.holds Tryz.pinned (OpenSpec.ofChange topSpawnSpec)

/-- ITS FALSE NEIGHBOUR: 'it returns false'. Refute it at one input. -/
def topSpawnWrong : ChangeSpec := { name := "topSpawn", fn := fun _ => fun
  | [d1, d2, d3, d4] => { results := [.lit (.bool false)], args := [d1, d2, d3, d4] }
  | _ => none }
def TopSpawnWrongFalsely : Prop := topSpawnRow.holds Tryz.pinned (OpenSpec.ofChange topSpawnWrong)

/-- 'citadeltop.TopLines': WHATEVER THE INPUT: true; the input reads as it did. -/
def topLinesSpec : ChangeSpec := { name := "topLines", fn := fun _ => fun
  | [d1, d2, d3] => { results := [.lit (.bool true)], args := [d1, d2, d3] }
  | _ => none }
def topLinesRow : OpenClaim := { program := "ytebgbhgehnpahaagreatdoor", sum := "0383a54891142c80927c5720dd80f38a1831cc783f030294c56a2b454ce91498", func := "citadel/citadeltop.TopLines", spec := "topLines", unfollowed := true, recurses := true, named := ["math/bits.deBruijn32tab"], plainKeys := false, apart := false, laid := [("math/bits.deBruijn32tab", laid_math_bits_deBruijn32tab)] }
def TopLinesSaid : Prop := topLinesRow.holds Tryz.pinned (OpenSpec.ofChange topLinesSpec)

/-- ITS FALSE NEIGHBOUR: 'it returns false'. Refute it at one input. -/
def topLinesWrong : ChangeSpec := { name := "topLines", fn := fun _ => fun
  | [d1, d2, d3] => { results := [.lit (.bool false)], args := [d1, d2, d3] }
  | _ => none }
def TopLinesWrongFalsely : Prop := topLinesRow.holds Tryz.pinned (OpenSpec.ofChange topLinesWrong)

/-- 'citadeltop.TopForgets': WHATEVER THE INPUT: true; the input reads as it did. -/
def topForgetsSpec : ChangeSpec := { name := "topForgets", fn := fun _ => fun
  | [d1, d2] => { results := [.lit (.bool true)], args := [d1, d2] }
  | _ => none }
def topForgetsRow : OpenClaim := { program := "ytebgbhgehnpahaagreatdoor", sum := "0383a54891142c80927c5720dd80f38a1831cc783f030294c56a2b454ce91498", func := "citadel/citadeltop.TopForgets", spec := "topForgets", unfollowed := true, recurses := true, named := ["math/bits.deBruijn32tab"], plainKeys := false, apart := false, laid := [("math/bits.deBruijn32tab", laid_math_bits_deBruijn32tab)] }
def TopForgetsSaid : Prop := topForgetsRow.holds Tryz.pinned (OpenSpec.ofChange topForgetsSpec)

/-- ITS FALSE NEIGHBOUR: 'it returns false'. Refute it at one input. -/
def topForgetsWrong : ChangeSpec := { name := "topForgets", fn := fun _ => fun
  | [d1, d2] => { results := [.lit (.bool false)], args := [d1, d2] }
  | _ => none }
def TopForgetsWrongFalsely : Prop := topForgetsRow.holds Tryz.pinned (OpenSpec.ofChange topForgetsWrong)

/- THE SECOND FORM. 'bulk': how many values and letters a reading holds, each counted each time it is reached (what is shared counts as often as it is met; a slice's spare places count too). A statement '..UptoSaid' is the law's where the arguments, and the package variables that the reading takes, are together of bulk at most 1048576: NARROWER than '..Said'. Prove '..Said' where nothing that the law and all that it calls make is longer than what came in: it says more and counts as full. Else prove '..UptoSaid'. A law counts once. -/
mutual
def uptoBulk {H : Type} : DataW H → Nat
  | .lit (.string bytes) => bytes.length + 1
  | .lit _ => 1
  | .nil => 1
  | .ptr d => uptoBulk d + 1
  | .slice elems spare => uptoBulkAll elems + uptoBulkAll spare + 1
  | .agg parts => uptoBulkAll parts + 1
  | .iface _ d => uptoBulk d + 1
  | .map entries => uptoBulkEntries entries + 1
  | .held _ => 1
def uptoBulkAll {H : Type} : List (DataW H) → Nat
  | [] => 0
  | d :: r => uptoBulk d + uptoBulkAll r
def uptoBulkEntries {H : Type} : List (Lit × DataW H) → Nat
  | [] => 0
  | x :: r => uptoBulkEntry x + uptoBulkEntries r
def uptoBulkEntry {H : Type} : Lit × DataW H → Nat
  | (.string bytes, d) => bytes.length + uptoBulk d + 1
  | (_, d) => uptoBulk d + 1
 end
def uptoSmall : (H : Type) → List (DataW H) → Bool := fun _ ds => decide (uptoBulkAll ds ≤ 1048576)
def OpenSpec.upto (s : _root_.Go.ChangeSpec) : _root_.Go.OpenSpec := { _root_.Go.OpenSpec.ofChange s with cond := some uptoSmall }

/-- 'citadeltop.TopSignals', WHERE WHAT IT READS IS OF BULK AT MOST 1048576: true; the input reads as it did. -/
def topSignalsUptoRow : OpenClaim := { program := "ytebgbhgehnpahaagreatdoor", sum := "0383a54891142c80927c5720dd80f38a1831cc783f030294c56a2b454ce91498", func := "citadel/citadeltop.TopSignals", spec := "topSignals", unfollowed := true, recurses := true, named := ["math/bits.deBruijn32tab"], plainKeys := false, apart := false, laid := [("math/bits.deBruijn32tab", laid_math_bits_deBruijn32tab)], narrowed := true }
def TopSignalsUptoSaid : Prop := topSignalsUptoRow.holds Tryz.pinned (OpenSpec.upto topSignalsSpec)

/-- 'citadeltop.TopTurns', WHERE WHAT IT READS IS OF BULK AT MOST 1048576: true; the input reads as it did. -/
def topTurnsUptoRow : OpenClaim := { program := "ytebgbhgehnpahaagreatdoor", sum := "0383a54891142c80927c5720dd80f38a1831cc783f030294c56a2b454ce91498", func := "citadel/citadeltop.TopTurns", spec := "topTurns", unfollowed := true, recurses := true, named := ["math/bits.deBruijn32tab"], plainKeys := false, apart := false, laid := [("math/bits.deBruijn32tab", laid_math_bits_deBruijn32tab)], narrowed := true }
def TopTurnsUptoSaid : Prop := topTurnsUptoRow.holds Tryz.pinned (OpenSpec.upto topTurnsSpec)

/-- 'citadeltop.TopUrgent', WHERE WHAT IT READS IS OF BULK AT MOST 1048576: true; the input reads as it did. -/
def topUrgentUptoRow : OpenClaim := { program := "ytebgbhgehnpahaagreatdoor", sum := "0383a54891142c80927c5720dd80f38a1831cc783f030294c56a2b454ce91498", func := "citadel/citadeltop.TopUrgent", spec := "topUrgent", unfollowed := true, recurses := true, named := ["math/bits.deBruijn32tab"], plainKeys := false, apart := false, laid := [("math/bits.deBruijn32tab", laid_math_bits_deBruijn32tab)], narrowed := true }
def TopUrgentUptoSaid : Prop := topUrgentUptoRow.holds Tryz.pinned (OpenSpec.upto topUrgentSpec)

/-- 'citadeltop.TopBadges', WHERE WHAT IT READS IS OF BULK AT MOST 1048576: true; the input reads as it did. -/
def topBadgesUptoRow : OpenClaim := { program := "ytebgbhgehnpahaagreatdoor", sum := "0383a54891142c80927c5720dd80f38a1831cc783f030294c56a2b454ce91498", func := "citadel/citadeltop.TopBadges", spec := "topBadges", unfollowed := true, recurses := true, named := ["math/bits.deBruijn32tab"], plainKeys := false, apart := false, laid := [("math/bits.deBruijn32tab", laid_math_bits_deBruijn32tab)], narrowed := true }
def TopBadgesUptoSaid : Prop := topBadgesUptoRow.holds Tryz.pinned (OpenSpec.upto topBadgesSpec)

/-- 'citadeltop.TopRevoked', WHERE WHAT IT READS IS OF BULK AT MOST 1048576: true; the input reads as it did. -/
def topRevokedUptoRow : OpenClaim := { program := "ytebgbhgehnpahaagreatdoor", sum := "0383a54891142c80927c5720dd80f38a1831cc783f030294c56a2b454ce91498", func := "citadel/citadeltop.TopRevoked", spec := "topRevoked", unfollowed := true, recurses := true, named := ["math/bits.deBruijn32tab"], plainKeys := false, apart := false, laid := [("math/bits.deBruijn32tab", laid_math_bits_deBruijn32tab)], narrowed := true }
def TopRevokedUptoSaid : Prop := topRevokedUptoRow.holds Tryz.pinned (OpenSpec.upto topRevokedSpec)

/-- 'citadeltop.TopSpawn', WHERE WHAT IT READS IS OF BULK AT MOST 1048576: true; the input reads as it did. -/
def topSpawnUptoRow : OpenClaim := { program := "ytebgbhgehnpahaagreatdoor", sum := "0383a54891142c80927c5720dd80f38a1831cc783f030294c56a2b454ce91498", func := "citadel/citadeltop.TopSpawn", spec := "topSpawn", unfollowed := true, recurses := true, named := ["math/bits.deBruijn32tab"], plainKeys := false, apart := false, laid := [("math/bits.deBruijn32tab", laid_math_bits_deBruijn32tab)], narrowed := true }
def TopSpawnUptoSaid : Prop := topSpawnUptoRow.holds Tryz.pinned (OpenSpec.upto topSpawnSpec)

/-- 'citadeltop.TopLines', WHERE WHAT IT READS IS OF BULK AT MOST 1048576: true; the input reads as it did. -/
def topLinesUptoRow : OpenClaim := { program := "ytebgbhgehnpahaagreatdoor", sum := "0383a54891142c80927c5720dd80f38a1831cc783f030294c56a2b454ce91498", func := "citadel/citadeltop.TopLines", spec := "topLines", unfollowed := true, recurses := true, named := ["math/bits.deBruijn32tab"], plainKeys := false, apart := false, laid := [("math/bits.deBruijn32tab", laid_math_bits_deBruijn32tab)], narrowed := true }
def TopLinesUptoSaid : Prop := topLinesUptoRow.holds Tryz.pinned (OpenSpec.upto topLinesSpec)

/-- 'citadeltop.TopForgets', WHERE WHAT IT READS IS OF BULK AT MOST 1048576: true; the input reads as it did. -/
def topForgetsUptoRow : OpenClaim := { program := "ytebgbhgehnpahaagreatdoor", sum := "0383a54891142c80927c5720dd80f38a1831cc783f030294c56a2b454ce91498", func := "citadel/citadeltop.TopForgets", spec := "topForgets", unfollowed := true, recurses := true, named := ["math/bits.deBruijn32tab"], plainKeys := false, apart := false, laid := [("math/bits.deBruijn32tab", laid_math_bits_deBruijn32tab)], narrowed := true }
def TopForgetsUptoSaid : Prop := topForgetsUptoRow.holds Tryz.pinned (OpenSpec.upto topForgetsSpec)

end Rows
end Go.Proofs.YtebgbhgehnpahaaGreatDoor
