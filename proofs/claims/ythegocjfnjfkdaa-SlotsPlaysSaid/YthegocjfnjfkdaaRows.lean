/-
  No cell of these rows narrows 'for every input' (looked for: loops, veiled, ifaces, maps, wideKeys, modest, calm, conditions, laid).
  DERIVED. THE GIVEN ROWS OF THIS SEAT. 11 by the template 'for every input the law returns true; each argument reads behind the call as it read before'; 0 by the template 'total and deterministic' (their statements: YthegocjfnjfkdaaTotals.lean).
  GIVEN WITH THE SEED: the statements are not yours to turn. If you find one false, say at which input.
  Laid BY PROGRAM, IN A SANDBOX (cutbox-rows.mjs): the forced cells as the released guide's own fill.sh prints them over the translation 1e6622eecc3ab5ad… (all of the seat's roots in one cut). By AI agents, Wed Nov 11 2026. No macro, syntax, notation, axiom, sorry.
-/
import Derived.Test.YthegocjfnjfkdaaChecked
import GoSem.Claim
import GoSem.ClaimJoined
import GoSem.ClaimMapViews
import Derived.JoinedTies
import Derived.KernelRfl
namespace Go.Proofs.Ythegocjfnjfkdaa
/- THE CELL 'sum', in the pinned program and in every row, IS THE sha256 OF THE DUMP (.gsa) THAT YthegocjfnjfkdaaProg.lean LOADS. Nothing in Lean hashes anything: it is a label: what it is worth is what the hold of that sum in a sandbox is worth. -/
noncomputable def Try.pinned : Pinned := { name := "ythegocjfnjfkdaa", sum := "1e6622eecc3ab5adc34b314d7a4eaecd51fc80d840857fcef745574346dc75a8", checked := Try.checked }
namespace Rows
def none {H : Type} : Left H := { results := [], args := [] }

/-- 'citadellaw06.CapsWords': WHATEVER THE INPUT: true; the input reads as it did. -/
def capsWordsSpec : ChangeSpec := { name := "capsWords", fn := fun _ => fun
  | [d] => { results := [.lit (.bool true)], args := [d] }
  | _ => none }
def capsWordsRow : OpenClaim := { program := "ythegocjfnjfkdaa", sum := "1e6622eecc3ab5adc34b314d7a4eaecd51fc80d840857fcef745574346dc75a8", func := "citadel/citadellaw06.CapsWords", spec := "capsWords", unfollowed := true, recurses := true, apart := false }
def CapsWordsSaid : Prop := capsWordsRow.holds Try.pinned (OpenSpec.ofChange capsWordsSpec)

/-- ITS FALSE NEIGHBOUR: 'it returns false'. Refute it at one input. -/
def capsWordsWrong : ChangeSpec := { name := "capsWords", fn := fun _ => fun
  | [d] => { results := [.lit (.bool false)], args := [d] }
  | _ => none }
def CapsWordsWrongFalsely : Prop := capsWordsRow.holds Try.pinned (OpenSpec.ofChange capsWordsWrong)

/-- 'citadellaw06.CapsBack': WHATEVER THE INPUT: true; the input reads as it did. -/
def capsBackSpec : ChangeSpec := { name := "capsBack", fn := fun _ => fun
  | [d1, d2] => { results := [.lit (.bool true)], args := [d1, d2] }
  | _ => none }
def capsBackRow : OpenClaim := { program := "ythegocjfnjfkdaa", sum := "1e6622eecc3ab5adc34b314d7a4eaecd51fc80d840857fcef745574346dc75a8", func := "citadel/citadellaw06.CapsBack", spec := "capsBack", unfollowed := true, recurses := true, apart := false }
def CapsBackSaid : Prop := capsBackRow.holds Try.pinned (OpenSpec.ofChange capsBackSpec)

/-- ITS FALSE NEIGHBOUR: 'it returns false'. Refute it at one input. -/
def capsBackWrong : ChangeSpec := { name := "capsBack", fn := fun _ => fun
  | [d1, d2] => { results := [.lit (.bool false)], args := [d1, d2] }
  | _ => none }
def CapsBackWrongFalsely : Prop := capsBackRow.holds Try.pinned (OpenSpec.ofChange capsBackWrong)

/-- 'citadellaw06.CapsRead': WHATEVER THE INPUT: true; the input reads as it did. -/
def capsReadSpec : ChangeSpec := { name := "capsRead", fn := fun _ => fun
  | [d1, d2] => { results := [.lit (.bool true)], args := [d1, d2] }
  | _ => none }
def capsReadRow : OpenClaim := { program := "ythegocjfnjfkdaa", sum := "1e6622eecc3ab5adc34b314d7a4eaecd51fc80d840857fcef745574346dc75a8", func := "citadel/citadellaw06.CapsRead", spec := "capsRead", unfollowed := true, recurses := true, apart := false }
def CapsReadSaid : Prop := capsReadRow.holds Try.pinned (OpenSpec.ofChange capsReadSpec)

/-- ITS FALSE NEIGHBOUR: 'it returns false'. Refute it at one input. -/
def capsReadWrong : ChangeSpec := { name := "capsRead", fn := fun _ => fun
  | [d1, d2] => { results := [.lit (.bool false)], args := [d1, d2] }
  | _ => none }
def CapsReadWrongFalsely : Prop := capsReadRow.holds Try.pinned (OpenSpec.ofChange capsReadWrong)

/-- 'citadellaw06.CapsBits': WHATEVER THE INPUT: true; the input reads as it did. -/
def capsBitsSpec : ChangeSpec := { name := "capsBits", fn := fun _ => fun
  | [d1, d2] => { results := [.lit (.bool true)], args := [d1, d2] }
  | _ => none }
def capsBitsRow : OpenClaim := { program := "ythegocjfnjfkdaa", sum := "1e6622eecc3ab5adc34b314d7a4eaecd51fc80d840857fcef745574346dc75a8", func := "citadel/citadellaw06.CapsBits", spec := "capsBits", unfollowed := true, recurses := true, apart := false }
def CapsBitsSaid : Prop := capsBitsRow.holds Try.pinned (OpenSpec.ofChange capsBitsSpec)

/-- ITS FALSE NEIGHBOUR: 'it returns false'. Refute it at one input. -/
def capsBitsWrong : ChangeSpec := { name := "capsBits", fn := fun _ => fun
  | [d1, d2] => { results := [.lit (.bool false)], args := [d1, d2] }
  | _ => none }
def CapsBitsWrongFalsely : Prop := capsBitsRow.holds Try.pinned (OpenSpec.ofChange capsBitsWrong)

/-- 'citadellaw09.HeapSizes': WHATEVER THE INPUT: true; the input reads as it did. -/
def heapSizesSpec : ChangeSpec := { name := "heapSizes", fn := fun _ => fun
  | [d] => { results := [.lit (.bool true)], args := [d] }
  | _ => none }
def heapSizesRow : OpenClaim := { program := "ythegocjfnjfkdaa", sum := "1e6622eecc3ab5adc34b314d7a4eaecd51fc80d840857fcef745574346dc75a8", func := "citadel/citadellaw09.HeapSizes", spec := "heapSizes", unfollowed := true, recurses := true, apart := false }
def HeapSizesSaid : Prop := heapSizesRow.holds Try.pinned (OpenSpec.ofChange heapSizesSpec)

/-- ITS FALSE NEIGHBOUR: 'it returns false'. Refute it at one input. -/
def heapSizesWrong : ChangeSpec := { name := "heapSizes", fn := fun _ => fun
  | [d] => { results := [.lit (.bool false)], args := [d] }
  | _ => none }
def HeapSizesWrongFalsely : Prop := heapSizesRow.holds Try.pinned (OpenSpec.ofChange heapSizesWrong)

/-- 'citadellaw09.HeapSlots': WHATEVER THE INPUT: true; the input reads as it did. -/
def heapSlotsSpec : ChangeSpec := { name := "heapSlots", fn := fun _ => fun
  | [d] => { results := [.lit (.bool true)], args := [d] }
  | _ => none }
def heapSlotsRow : OpenClaim := { program := "ythegocjfnjfkdaa", sum := "1e6622eecc3ab5adc34b314d7a4eaecd51fc80d840857fcef745574346dc75a8", func := "citadel/citadellaw09.HeapSlots", spec := "heapSlots", unfollowed := true, recurses := true, apart := false }
def HeapSlotsSaid : Prop := heapSlotsRow.holds Try.pinned (OpenSpec.ofChange heapSlotsSpec)

/-- ITS FALSE NEIGHBOUR: 'it returns false'. Refute it at one input. -/
def heapSlotsWrong : ChangeSpec := { name := "heapSlots", fn := fun _ => fun
  | [d] => { results := [.lit (.bool false)], args := [d] }
  | _ => none }
def HeapSlotsWrongFalsely : Prop := heapSlotsRow.holds Try.pinned (OpenSpec.ofChange heapSlotsWrong)

/-- 'citadellaw09.HeapNested': WHATEVER THE INPUT: true; the input reads as it did. -/
def heapNestedSpec : ChangeSpec := { name := "heapNested", fn := fun _ => fun
  | [d1, d2, d3] => { results := [.lit (.bool true)], args := [d1, d2, d3] }
  | _ => none }
def heapNestedRow : OpenClaim := { program := "ythegocjfnjfkdaa", sum := "1e6622eecc3ab5adc34b314d7a4eaecd51fc80d840857fcef745574346dc75a8", func := "citadel/citadellaw09.HeapNested", spec := "heapNested", unfollowed := true, recurses := true, apart := false }
def HeapNestedSaid : Prop := heapNestedRow.holds Try.pinned (OpenSpec.ofChange heapNestedSpec)

/-- ITS FALSE NEIGHBOUR: 'it returns false'. Refute it at one input. -/
def heapNestedWrong : ChangeSpec := { name := "heapNested", fn := fun _ => fun
  | [d1, d2, d3] => { results := [.lit (.bool false)], args := [d1, d2, d3] }
  | _ => none }
def HeapNestedWrongFalsely : Prop := heapNestedRow.holds Try.pinned (OpenSpec.ofChange heapNestedWrong)

/-- 'citadellaw09.HeapOnce': WHATEVER THE INPUT: true; the input reads as it did. -/
def heapOnceSpec : ChangeSpec := { name := "heapOnce", fn := fun _ => fun
  | [d1, d2] => { results := [.lit (.bool true)], args := [d1, d2] }
  | _ => none }
def heapOnceRow : OpenClaim := { program := "ythegocjfnjfkdaa", sum := "1e6622eecc3ab5adc34b314d7a4eaecd51fc80d840857fcef745574346dc75a8", func := "citadel/citadellaw09.HeapOnce", spec := "heapOnce", unfollowed := true, recurses := true, apart := false }
def HeapOnceSaid : Prop := heapOnceRow.holds Try.pinned (OpenSpec.ofChange heapOnceSpec)

/-- ITS FALSE NEIGHBOUR: 'it returns false'. Refute it at one input. -/
def heapOnceWrong : ChangeSpec := { name := "heapOnce", fn := fun _ => fun
  | [d1, d2] => { results := [.lit (.bool false)], args := [d1, d2] }
  | _ => none }
def HeapOnceWrongFalsely : Prop := heapOnceRow.holds Try.pinned (OpenSpec.ofChange heapOnceWrong)

/-- 'citadellaw07.SlotsBack': WHATEVER THE INPUT: true; the input reads as it did. -/
def slotsBackSpec : ChangeSpec := { name := "slotsBack", fn := fun _ => fun
  | [d1, d2, d3] => { results := [.lit (.bool true)], args := [d1, d2, d3] }
  | _ => none }
def slotsBackRow : OpenClaim := { program := "ythegocjfnjfkdaa", sum := "1e6622eecc3ab5adc34b314d7a4eaecd51fc80d840857fcef745574346dc75a8", func := "citadel/citadellaw07.SlotsBack", spec := "slotsBack", unfollowed := true, recurses := true, apart := false }
def SlotsBackSaid : Prop := slotsBackRow.holds Try.pinned (OpenSpec.ofChange slotsBackSpec)

/-- ITS FALSE NEIGHBOUR: 'it returns false'. Refute it at one input. -/
def slotsBackWrong : ChangeSpec := { name := "slotsBack", fn := fun _ => fun
  | [d1, d2, d3] => { results := [.lit (.bool false)], args := [d1, d2, d3] }
  | _ => none }
def SlotsBackWrongFalsely : Prop := slotsBackRow.holds Try.pinned (OpenSpec.ofChange slotsBackWrong)

/-- 'citadellaw07.SlotsApart': WHATEVER THE INPUT: true; the input reads as it did. -/
def slotsApartSpec : ChangeSpec := { name := "slotsApart", fn := fun _ => fun
  | [d] => { results := [.lit (.bool true)], args := [d] }
  | _ => none }
def slotsApartRow : OpenClaim := { program := "ythegocjfnjfkdaa", sum := "1e6622eecc3ab5adc34b314d7a4eaecd51fc80d840857fcef745574346dc75a8", func := "citadel/citadellaw07.SlotsApart", spec := "slotsApart", unfollowed := true, recurses := true, apart := false }
def SlotsApartSaid : Prop := slotsApartRow.holds Try.pinned (OpenSpec.ofChange slotsApartSpec)

/-- ITS FALSE NEIGHBOUR: 'it returns false'. Refute it at one input. -/
def slotsApartWrong : ChangeSpec := { name := "slotsApart", fn := fun _ => fun
  | [d] => { results := [.lit (.bool false)], args := [d] }
  | _ => none }
def SlotsApartWrongFalsely : Prop := slotsApartRow.holds Try.pinned (OpenSpec.ofChange slotsApartWrong)

/-- 'citadellaw07.SlotsPlays': WHATEVER THE INPUT: true; the input reads as it did. -/
def slotsPlaysSpec : ChangeSpec := { name := "slotsPlays", fn := fun _ => fun
  | [d1, d2, d3] => { results := [.lit (.bool true)], args := [d1, d2, d3] }
  | _ => none }
def slotsPlaysRow : OpenClaim := { program := "ythegocjfnjfkdaa", sum := "1e6622eecc3ab5adc34b314d7a4eaecd51fc80d840857fcef745574346dc75a8", func := "citadel/citadellaw07.SlotsPlays", spec := "slotsPlays", unfollowed := true, recurses := true, apart := false }
def SlotsPlaysSaid : Prop := slotsPlaysRow.holds Try.pinned (OpenSpec.ofChange slotsPlaysSpec)

/-- ITS FALSE NEIGHBOUR: 'it returns false'. Refute it at one input. -/
def slotsPlaysWrong : ChangeSpec := { name := "slotsPlays", fn := fun _ => fun
  | [d1, d2, d3] => { results := [.lit (.bool false)], args := [d1, d2, d3] }
  | _ => none }
def SlotsPlaysWrongFalsely : Prop := slotsPlaysRow.holds Try.pinned (OpenSpec.ofChange slotsPlaysWrong)

/- THE SECOND FORM. 'bulk': how many values and letters a reading holds, each counted each time it is reached (what is shared counts as often as it is met; a slice's spare places count too). A statement '..UptoSaid' is the law's where the arguments, and the package variables that the reading takes, are together of bulk at most 1048576: NARROWER than '..Said'. Prove '..Said' where nothing that the law and all that it calls make is longer than what came in: it says more and counts as full. Else prove '..UptoSaid'. A law counts once. -/
mutual
def uptoBulk {H : Type} : DataW H → Nat
  | .lit (.string bytes) => bytes.length + 1
  | .lit _ => 1
  | .nil => 1
  | .ptr d => uptoBulk d + 1
  | .slice elems spare => uptoBulkAll elems + uptoBulkAll spare + 1
  | .agg parts => uptoBulkAll parts + 1
  | .iface _ d => uptoBulk d + 1
  | .map entries => uptoBulkEntries entries + 1
  | .held _ => 1
def uptoBulkAll {H : Type} : List (DataW H) → Nat
  | [] => 0
  | d :: r => uptoBulk d + uptoBulkAll r
def uptoBulkEntries {H : Type} : List (Lit × DataW H) → Nat
  | [] => 0
  | x :: r => uptoBulkEntry x + uptoBulkEntries r
def uptoBulkEntry {H : Type} : Lit × DataW H → Nat
  | (.string bytes, d) => bytes.length + uptoBulk d + 1
  | (_, d) => uptoBulk d + 1
 end
def uptoSmall : (H : Type) → List (DataW H) → Bool := fun _ ds => decide (uptoBulkAll ds ≤ 1048576)
def OpenSpec.upto (s : _root_.Go.ChangeSpec) : _root_.Go.OpenSpec := { _root_.Go.OpenSpec.ofChange s with cond := some uptoSmall }

/-- 'citadellaw06.CapsWords', WHERE WHAT IT READS IS OF BULK AT MOST 1048576: true; the input reads as it did. -/
def capsWordsUptoRow : OpenClaim := { program := "ythegocjfnjfkdaa", sum := "1e6622eecc3ab5adc34b314d7a4eaecd51fc80d840857fcef745574346dc75a8", func := "citadel/citadellaw06.CapsWords", spec := "capsWords", unfollowed := true, recurses := true, apart := false, narrowed := true }
def CapsWordsUptoSaid : Prop := capsWordsUptoRow.holds Try.pinned (OpenSpec.upto capsWordsSpec)

/-- 'citadellaw06.CapsBack', WHERE WHAT IT READS IS OF BULK AT MOST 1048576: true; the input reads as it did. -/
def capsBackUptoRow : OpenClaim := { program := "ythegocjfnjfkdaa", sum := "1e6622eecc3ab5adc34b314d7a4eaecd51fc80d840857fcef745574346dc75a8", func := "citadel/citadellaw06.CapsBack", spec := "capsBack", unfollowed := true, recurses := true, apart := false, narrowed := true }
def CapsBackUptoSaid : Prop := capsBackUptoRow.holds Try.pinned (OpenSpec.upto capsBackSpec)

/-- 'citadellaw06.CapsRead', WHERE WHAT IT READS IS OF BULK AT MOST 1048576: true; the input reads as it did. -/
def capsReadUptoRow : OpenClaim := { program := "ythegocjfnjfkdaa", sum := "1e6622eecc3ab5adc34b314d7a4eaecd51fc80d840857fcef745574346dc75a8", func := "citadel/citadellaw06.CapsRead", spec := "capsRead", unfollowed := true, recurses := true, apart := false, narrowed := true }
def CapsReadUptoSaid : Prop := capsReadUptoRow.holds Try.pinned (OpenSpec.upto capsReadSpec)

/-- 'citadellaw06.CapsBits', WHERE WHAT IT READS IS OF BULK AT MOST 1048576: true; the input reads as it did. -/
def capsBitsUptoRow : OpenClaim := { program := "ythegocjfnjfkdaa", sum := "1e6622eecc3ab5adc34b314d7a4eaecd51fc80d840857fcef745574346dc75a8", func := "citadel/citadellaw06.CapsBits", spec := "capsBits", unfollowed := true, recurses := true, apart := false, narrowed := true }
def CapsBitsUptoSaid : Prop := capsBitsUptoRow.holds Try.pinned (OpenSpec.upto capsBitsSpec)

/-- 'citadellaw09.HeapSizes', WHERE WHAT IT READS IS OF BULK AT MOST 1048576: true; the input reads as it did. -/
def heapSizesUptoRow : OpenClaim := { program := "ythegocjfnjfkdaa", sum := "1e6622eecc3ab5adc34b314d7a4eaecd51fc80d840857fcef745574346dc75a8", func := "citadel/citadellaw09.HeapSizes", spec := "heapSizes", unfollowed := true, recurses := true, apart := false, narrowed := true }
def HeapSizesUptoSaid : Prop := heapSizesUptoRow.holds Try.pinned (OpenSpec.upto heapSizesSpec)

/-- 'citadellaw09.HeapSlots', WHERE WHAT IT READS IS OF BULK AT MOST 1048576: true; the input reads as it did. -/
def heapSlotsUptoRow : OpenClaim := { program := "ythegocjfnjfkdaa", sum := "1e6622eecc3ab5adc34b314d7a4eaecd51fc80d840857fcef745574346dc75a8", func := "citadel/citadellaw09.HeapSlots", spec := "heapSlots", unfollowed := true, recurses := true, apart := false, narrowed := true }
def HeapSlotsUptoSaid : Prop := heapSlotsUptoRow.holds Try.pinned (OpenSpec.upto heapSlotsSpec)

/-- 'citadellaw09.HeapNested', WHERE WHAT IT READS IS OF BULK AT MOST 1048576: true; the input reads as it did. -/
def heapNestedUptoRow : OpenClaim := { program := "ythegocjfnjfkdaa", sum := "1e6622eecc3ab5adc34b314d7a4eaecd51fc80d840857fcef745574346dc75a8", func := "citadel/citadellaw09.HeapNested", spec := "heapNested", unfollowed := true, recurses := true, apart := false, narrowed := true }
def HeapNestedUptoSaid : Prop := heapNestedUptoRow.holds Try.pinned (OpenSpec.upto heapNestedSpec)

/-- 'citadellaw09.HeapOnce', WHERE WHAT IT READS IS OF BULK AT MOST 1048576: true; the input reads as it did. -/
def heapOnceUptoRow : OpenClaim := { program := "ythegocjfnjfkdaa", sum := "1e6622eecc3ab5adc34b314d7a4eaecd51fc80d840857fcef745574346dc75a8", func := "citadel/citadellaw09.HeapOnce", spec := "heapOnce", unfollowed := true, recurses := true, apart := false, narrowed := true }
def HeapOnceUptoSaid : Prop := heapOnceUptoRow.holds Try.pinned (OpenSpec.upto heapOnceSpec)

/-- 'citadellaw07.SlotsBack', WHERE WHAT IT READS IS OF BULK AT MOST 1048576: true; the input reads as it did. -/
def slotsBackUptoRow : OpenClaim := { program := "ythegocjfnjfkdaa", sum := "1e6622eecc3ab5adc34b314d7a4eaecd51fc80d840857fcef745574346dc75a8", func := "citadel/citadellaw07.SlotsBack", spec := "slotsBack", unfollowed := true, recurses := true, apart := false, narrowed := true }
def SlotsBackUptoSaid : Prop := slotsBackUptoRow.holds Try.pinned (OpenSpec.upto slotsBackSpec)

/-- 'citadellaw07.SlotsApart', WHERE WHAT IT READS IS OF BULK AT MOST 1048576: true; the input reads as it did. -/
def slotsApartUptoRow : OpenClaim := { program := "ythegocjfnjfkdaa", sum := "1e6622eecc3ab5adc34b314d7a4eaecd51fc80d840857fcef745574346dc75a8", func := "citadel/citadellaw07.SlotsApart", spec := "slotsApart", unfollowed := true, recurses := true, apart := false, narrowed := true }
def SlotsApartUptoSaid : Prop := slotsApartUptoRow.holds Try.pinned (OpenSpec.upto slotsApartSpec)

/-- 'citadellaw07.SlotsPlays', WHERE WHAT IT READS IS OF BULK AT MOST 1048576: true; the input reads as it did. -/
def slotsPlaysUptoRow : OpenClaim := { program := "ythegocjfnjfkdaa", sum := "1e6622eecc3ab5adc34b314d7a4eaecd51fc80d840857fcef745574346dc75a8", func := "citadel/citadellaw07.SlotsPlays", spec := "slotsPlays", unfollowed := true, recurses := true, apart := false, narrowed := true }
def SlotsPlaysUptoSaid : Prop := slotsPlaysUptoRow.holds Try.pinned (OpenSpec.upto slotsPlaysSpec)

end Rows
end Go.Proofs.Ythegocjfnjfkdaa
