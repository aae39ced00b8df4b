/-
  No cell of these rows narrows 'for every input' (looked for: loops, veiled, ifaces, maps, wideKeys, modest, calm, conditions, laid).
  DERIVED. THE GIVEN ROWS OF THIS SEAT. 8 by the template 'for every input the law returns true; each argument reads behind the call as it read before'; 0 by the template 'total and deterministic' (their statements: YtpmobbehdpgnbaaGreatTotals.lean).
  GIVEN WITH THE SEED: the statements are not yours to turn. If you find one false, say at which input.
  Laid BY PROGRAM, IN A SANDBOX (cutbox-rows.mjs): the forced cells as the released guide's own fill.sh prints them over the translation 76f714841ab47dfc… (all of the seat's roots in one cut). By AI agents, Wed Nov 11 2026. No macro, syntax, notation, axiom, sorry.
-/
import Derived.Test.YtpmobbehdpgnbaaGreatChecked
import GoSem.Claim
import GoSem.ClaimJoined
import GoSem.ClaimMapViews
import Derived.JoinedTies
import Derived.KernelRfl
namespace Go.Proofs.YtpmobbehdpgnbaaGreat
/- THE CELL 'sum', in the pinned program and in every row, IS THE sha256 OF THE DUMP (.gsa) THAT YtpmobbehdpgnbaaGreatProg.lean LOADS. Nothing in Lean hashes anything: it is a label: what it is worth is what the hold of that sum in a sandbox is worth. -/
noncomputable def Tryz.pinned : Pinned := { name := "ytpmobbehdpgnbaagreat", sum := "76f714841ab47dfcdafca4fa10731d4a227b1373793a3f928aff488756ce0b67", checked := Tryz.checked }
namespace Rows
def none {H : Type} : Left H := { results := [], args := [] }

/-- 'citadellaw11.CdtPlays': WHATEVER THE INPUT: true; the input reads as it did. -/
def cdtPlaysSpec : ChangeSpec := { name := "cdtPlays", fn := fun _ => fun
  | [d] => { results := [.lit (.bool true)], args := [d] }
  | _ => none }
def cdtPlaysRow : OpenClaim := { program := "ytpmobbehdpgnbaagreat", sum := "76f714841ab47dfcdafca4fa10731d4a227b1373793a3f928aff488756ce0b67", func := "citadel/citadellaw11.CdtPlays", spec := "cdtPlays", unfollowed := true, recurses := true, apart := false }
def CdtPlaysSaid : Prop := cdtPlaysRow.holds Tryz.pinned (OpenSpec.ofChange cdtPlaysSpec)

/-- ITS FALSE NEIGHBOUR: 'it returns false'. Refute it at one input. -/
def cdtPlaysWrong : ChangeSpec := { name := "cdtPlays", fn := fun _ => fun
  | [d] => { results := [.lit (.bool false)], args := [d] }
  | _ => none }
def CdtPlaysWrongFalsely : Prop := cdtPlaysRow.holds Tryz.pinned (OpenSpec.ofChange cdtPlaysWrong)

/-- 'citadellaw12.DeriveLess': WHATEVER THE INPUT: true; the input reads as it did. -/
def deriveLessSpec : ChangeSpec := { name := "deriveLess", fn := fun _ => fun
  | [d] => { results := [.lit (.bool true)], args := [d] }
  | _ => none }
def deriveLessRow : OpenClaim := { program := "ytpmobbehdpgnbaagreat", sum := "76f714841ab47dfcdafca4fa10731d4a227b1373793a3f928aff488756ce0b67", func := "citadel/citadellaw12.DeriveLess", spec := "deriveLess", unfollowed := true, recurses := true, apart := false }
def DeriveLessSaid : Prop := deriveLessRow.holds Tryz.pinned (OpenSpec.ofChange deriveLessSpec)

/-- ITS FALSE NEIGHBOUR: 'it returns false'. Refute it at one input. -/
def deriveLessWrong : ChangeSpec := { name := "deriveLess", fn := fun _ => fun
  | [d] => { results := [.lit (.bool false)], args := [d] }
  | _ => none }
def DeriveLessWrongFalsely : Prop := deriveLessRow.holds Tryz.pinned (OpenSpec.ofChange deriveLessWrong)

/-- 'citadellaw12.DeriveOrder': WHATEVER THE INPUT: true; the input reads as it did. -/
def deriveOrderSpec : ChangeSpec := { name := "deriveOrder", fn := fun _ => fun
  | [d] => { results := [.lit (.bool true)], args := [d] }
  | _ => none }
def deriveOrderRow : OpenClaim := { program := "ytpmobbehdpgnbaagreat", sum := "76f714841ab47dfcdafca4fa10731d4a227b1373793a3f928aff488756ce0b67", func := "citadel/citadellaw12.DeriveOrder", spec := "deriveOrder", unfollowed := true, recurses := true, apart := false }
def DeriveOrderSaid : Prop := deriveOrderRow.holds Tryz.pinned (OpenSpec.ofChange deriveOrderSpec)

/-- ITS FALSE NEIGHBOUR: 'it returns false'. Refute it at one input. -/
def deriveOrderWrong : ChangeSpec := { name := "deriveOrder", fn := fun _ => fun
  | [d] => { results := [.lit (.bool false)], args := [d] }
  | _ => none }
def DeriveOrderWrongFalsely : Prop := deriveOrderRow.holds Tryz.pinned (OpenSpec.ofChange deriveOrderWrong)

/-- 'citadellaw12.DeriveBadge': WHATEVER THE INPUT: true; the input reads as it did. -/
def deriveBadgeSpec : ChangeSpec := { name := "deriveBadge", fn := fun _ => fun
  | [d1, d2, d3, d4] => { results := [.lit (.bool true)], args := [d1, d2, d3, d4] }
  | _ => none }
def deriveBadgeRow : OpenClaim := { program := "ytpmobbehdpgnbaagreat", sum := "76f714841ab47dfcdafca4fa10731d4a227b1373793a3f928aff488756ce0b67", func := "citadel/citadellaw12.DeriveBadge", spec := "deriveBadge", unfollowed := true, recurses := true, apart := false }
def DeriveBadgeSaid : Prop := deriveBadgeRow.holds Tryz.pinned (OpenSpec.ofChange deriveBadgeSpec)

/-- ITS FALSE NEIGHBOUR: 'it returns false'. Refute it at one input. -/
def deriveBadgeWrong : ChangeSpec := { name := "deriveBadge", fn := fun _ => fun
  | [d1, d2, d3, d4] => { results := [.lit (.bool false)], args := [d1, d2, d3, d4] }
  | _ => none }
def DeriveBadgeWrongFalsely : Prop := deriveBadgeRow.holds Tryz.pinned (OpenSpec.ofChange deriveBadgeWrong)

/-- 'citadellaw12.DerivePlays': WHATEVER THE INPUT: true; the input reads as it did. -/
def derivePlaysSpec : ChangeSpec := { name := "derivePlays", fn := fun _ => fun
  | [d] => { results := [.lit (.bool true)], args := [d] }
  | _ => none }
def derivePlaysRow : OpenClaim := { program := "ytpmobbehdpgnbaagreat", sum := "76f714841ab47dfcdafca4fa10731d4a227b1373793a3f928aff488756ce0b67", func := "citadel/citadellaw12.DerivePlays", spec := "derivePlays", unfollowed := true, recurses := true, apart := false }
def DerivePlaysSaid : Prop := derivePlaysRow.holds Tryz.pinned (OpenSpec.ofChange derivePlaysSpec)

/-- ITS FALSE NEIGHBOUR: 'it returns false'. Refute it at one input. -/
def derivePlaysWrong : ChangeSpec := { name := "derivePlays", fn := fun _ => fun
  | [d] => { results := [.lit (.bool false)], args := [d] }
  | _ => none }
def DerivePlaysWrongFalsely : Prop := derivePlaysRow.holds Tryz.pinned (OpenSpec.ofChange derivePlaysWrong)

/-- 'citadellaw12.DeriveBack': WHATEVER THE INPUT: true; the input reads as it did. -/
def deriveBackSpec : ChangeSpec := { name := "deriveBack", fn := fun _ => fun
  | [d1, d2, d3] => { results := [.lit (.bool true)], args := [d1, d2, d3] }
  | _ => none }
def deriveBackRow : OpenClaim := { program := "ytpmobbehdpgnbaagreat", sum := "76f714841ab47dfcdafca4fa10731d4a227b1373793a3f928aff488756ce0b67", func := "citadel/citadellaw12.DeriveBack", spec := "deriveBack", unfollowed := true, recurses := true, apart := false }
def DeriveBackSaid : Prop := deriveBackRow.holds Tryz.pinned (OpenSpec.ofChange deriveBackSpec)

/-- ITS FALSE NEIGHBOUR: 'it returns false'. Refute it at one input. -/
def deriveBackWrong : ChangeSpec := { name := "deriveBack", fn := fun _ => fun
  | [d1, d2, d3] => { results := [.lit (.bool false)], args := [d1, d2, d3] }
  | _ => none }
def DeriveBackWrongFalsely : Prop := deriveBackRow.holds Tryz.pinned (OpenSpec.ofChange deriveBackWrong)

/-- 'citadellaw12.DeriveTurns': WHATEVER THE INPUT: true; the input reads as it did. -/
def deriveTurnsSpec : ChangeSpec := { name := "deriveTurns", fn := fun _ => fun
  | [d1, d2, d3] => { results := [.lit (.bool true)], args := [d1, d2, d3] }
  | _ => none }
def deriveTurnsRow : OpenClaim := { program := "ytpmobbehdpgnbaagreat", sum := "76f714841ab47dfcdafca4fa10731d4a227b1373793a3f928aff488756ce0b67", func := "citadel/citadellaw12.DeriveTurns", spec := "deriveTurns", unfollowed := true, recurses := true, apart := false }
def DeriveTurnsSaid : Prop := deriveTurnsRow.holds Tryz.pinned (OpenSpec.ofChange deriveTurnsSpec)

/-- ITS FALSE NEIGHBOUR: 'it returns false'. Refute it at one input. -/
def deriveTurnsWrong : ChangeSpec := { name := "deriveTurns", fn := fun _ => fun
  | [d1, d2, d3] => { results := [.lit (.bool false)], args := [d1, d2, d3] }
  | _ => none }
def DeriveTurnsWrongFalsely : Prop := deriveTurnsRow.holds Tryz.pinned (OpenSpec.ofChange deriveTurnsWrong)

/-- 'citadellaw12.DeriveChild': WHATEVER THE INPUT: true; the input reads as it did. -/
def deriveChildSpec : ChangeSpec := { name := "deriveChild", fn := fun _ => fun
  | [d1, d2, d3, d4] => { results := [.lit (.bool true)], args := [d1, d2, d3, d4] }
  | _ => none }
def deriveChildRow : OpenClaim := { program := "ytpmobbehdpgnbaagreat", sum := "76f714841ab47dfcdafca4fa10731d4a227b1373793a3f928aff488756ce0b67", func := "citadel/citadellaw12.DeriveChild", spec := "deriveChild", unfollowed := true, recurses := true, apart := false }
def DeriveChildSaid : Prop := deriveChildRow.holds Tryz.pinned (OpenSpec.ofChange deriveChildSpec)

/-- ITS FALSE NEIGHBOUR: 'it returns false'. Refute it at one input. -/
def deriveChildWrong : ChangeSpec := { name := "deriveChild", fn := fun _ => fun
  | [d1, d2, d3, d4] => { results := [.lit (.bool false)], args := [d1, d2, d3, d4] }
  | _ => none }
def DeriveChildWrongFalsely : Prop := deriveChildRow.holds Tryz.pinned (OpenSpec.ofChange deriveChildWrong)

/- THE SECOND FORM. 'bulk': how many values and letters a reading holds, each counted each time it is reached (what is shared counts as often as it is met; a slice's spare places count too). A statement '..UptoSaid' is the law's where the arguments, and the package variables that the reading takes, are together of bulk at most 1048576: NARROWER than '..Said'. Prove '..Said' where nothing that the law and all that it calls make is longer than what came in: it says more and counts as full. Else prove '..UptoSaid'. A law counts once. -/
mutual
def uptoBulk {H : Type} : DataW H → Nat
  | .lit (.string bytes) => bytes.length + 1
  | .lit _ => 1
  | .nil => 1
  | .ptr d => uptoBulk d + 1
  | .slice elems spare => uptoBulkAll elems + uptoBulkAll spare + 1
  | .agg parts => uptoBulkAll parts + 1
  | .iface _ d => uptoBulk d + 1
  | .map entries => uptoBulkEntries entries + 1
  | .held _ => 1
def uptoBulkAll {H : Type} : List (DataW H) → Nat
  | [] => 0
  | d :: r => uptoBulk d + uptoBulkAll r
def uptoBulkEntries {H : Type} : List (Lit × DataW H) → Nat
  | [] => 0
  | x :: r => uptoBulkEntry x + uptoBulkEntries r
def uptoBulkEntry {H : Type} : Lit × DataW H → Nat
  | (.string bytes, d) => bytes.length + uptoBulk d + 1
  | (_, d) => uptoBulk d + 1
 end
def uptoSmall : (H : Type) → List (DataW H) → Bool := fun _ ds => decide (uptoBulkAll ds ≤ 1048576)
def OpenSpec.upto (s : _root_.Go.ChangeSpec) : _root_.Go.OpenSpec := { _root_.Go.OpenSpec.ofChange s with cond := some uptoSmall }

/-- 'citadellaw11.CdtPlays', WHERE WHAT IT READS IS OF BULK AT MOST 1048576: true; the input reads as it did. -/
def cdtPlaysUptoRow : OpenClaim := { program := "ytpmobbehdpgnbaagreat", sum := "76f714841ab47dfcdafca4fa10731d4a227b1373793a3f928aff488756ce0b67", func := "citadel/citadellaw11.CdtPlays", spec := "cdtPlays", unfollowed := true, recurses := true, apart := false, narrowed := true }
def CdtPlaysUptoSaid : Prop := cdtPlaysUptoRow.holds Tryz.pinned (OpenSpec.upto cdtPlaysSpec)

/-- 'citadellaw12.DeriveLess', WHERE WHAT IT READS IS OF BULK AT MOST 1048576: true; the input reads as it did. -/
def deriveLessUptoRow : OpenClaim := { program := "ytpmobbehdpgnbaagreat", sum := "76f714841ab47dfcdafca4fa10731d4a227b1373793a3f928aff488756ce0b67", func := "citadel/citadellaw12.DeriveLess", spec := "deriveLess", unfollowed := true, recurses := true, apart := false, narrowed := true }
def DeriveLessUptoSaid : Prop := deriveLessUptoRow.holds Tryz.pinned (OpenSpec.upto deriveLessSpec)

/-- 'citadellaw12.DeriveOrder', WHERE WHAT IT READS IS OF BULK AT MOST 1048576: true; the input reads as it did. -/
def deriveOrderUptoRow : OpenClaim := { program := "ytpmobbehdpgnbaagreat", sum := "76f714841ab47dfcdafca4fa10731d4a227b1373793a3f928aff488756ce0b67", func := "citadel/citadellaw12.DeriveOrder", spec := "deriveOrder", unfollowed := true, recurses := true, apart := false, narrowed := true }
def DeriveOrderUptoSaid : Prop := deriveOrderUptoRow.holds Tryz.pinned (OpenSpec.upto deriveOrderSpec)

/-- 'citadellaw12.DeriveBadge', WHERE WHAT IT READS IS OF BULK AT MOST 1048576: true; the input reads as it did. -/
def deriveBadgeUptoRow : OpenClaim := { program := "ytpmobbehdpgnbaagreat", sum := "76f714841ab47dfcdafca4fa10731d4a227b1373793a3f928aff488756ce0b67", func := "citadel/citadellaw12.DeriveBadge", spec := "deriveBadge", unfollowed := true, recurses := true, apart := false, narrowed := true }
def DeriveBadgeUptoSaid : Prop := deriveBadgeUptoRow.holds Tryz.pinned (OpenSpec.upto deriveBadgeSpec)

/-- 'citadellaw12.DerivePlays', WHERE WHAT IT READS IS OF BULK AT MOST 1048576: true; the input reads as it did. -/
def derivePlaysUptoRow : OpenClaim := { program := "ytpmobbehdpgnbaagreat", sum := "76f714841ab47dfcdafca4fa10731d4a227b1373793a3f928aff488756ce0b67", func := "citadel/citadellaw12.DerivePlays", spec := "derivePlays", unfollowed := true, recurses := true, apart := false, narrowed := true }
def DerivePlaysUptoSaid : Prop := derivePlaysUptoRow.holds Tryz.pinned (OpenSpec.upto derivePlaysSpec)

/-- 'citadellaw12.DeriveBack', WHERE WHAT IT READS IS OF BULK AT MOST 1048576: true; the input reads as it did. -/
def deriveBackUptoRow : OpenClaim := { program := "ytpmobbehdpgnbaagreat", sum := "76f714841ab47dfcdafca4fa10731d4a227b1373793a3f928aff488756ce0b67", func := "citadel/citadellaw12.DeriveBack", spec := "deriveBack", unfollowed := true, recurses := true, apart := false, narrowed := true }
def DeriveBackUptoSaid : Prop := deriveBackUptoRow.holds Tryz.pinned (OpenSpec.upto deriveBackSpec)

/-- 'citadellaw12.DeriveTurns', WHERE WHAT IT READS IS OF BULK AT MOST 1048576: true; the input reads as it did. -/
def deriveTurnsUptoRow : OpenClaim := { program := "ytpmobbehdpgnbaagreat", sum := "76f714841ab47dfcdafca4fa10731d4a227b1373793a3f928aff488756ce0b67", func := "citadel/citadellaw12.DeriveTurns", spec := "deriveTurns", unfollowed := true, recurses := true, apart := false, narrowed := true }
def DeriveTurnsUptoSaid : Prop := deriveTurnsUptoRow.holds Tryz.pinned (OpenSpec.upto deriveTurnsSpec)

/-- 'citadellaw12.DeriveChild', WHERE WHAT IT READS IS OF BULK AT MOST 1048576: true; the input reads as it did. -/
def deriveChildUptoRow : OpenClaim := { program := "ytpmobbehdpgnbaagreat", sum := "76f714841ab47dfcdafca4fa10731d4a227b1373793a3f928aff488756ce0b67", func := "citadel/citadellaw12.DeriveChild", spec := "deriveChild", unfollowed := true, recurses := true, apart := false, narrowed := true }
def DeriveChildUptoSaid : Prop := deriveChildUptoRow.holds Tryz.pinned (OpenSpec.upto deriveChildSpec)

end Rows
end Go.Proofs.YtpmobbehdpgnbaaGreat
