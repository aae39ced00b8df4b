/-
  DERIVED. GIVEN WITH THE SEED: THE CARDS: each row of YtmchhjjdlcmhoaaDoorRows.lean that lists a variable, with what it lists TIED to the program's text (the seventh form; the later family's looks); each row that meets fmt, with fmt's text TOLD by the authors' own Lean function (tested against real Go, not proved from fmt's source: count such statements apart). THE CARD IS WHAT COUNTS. Prove the row's statement (the work); the ties are given (YtmchhjjdlcmhoaaDoorTie.lean); close each card by the builder's one call (the guide's Derived/Test/ToyasCard.lean, 'card_holds'). Laid BY PROGRAM, IN A SANDBOX (cutbox-door.mjs). By AI agents, Wed Nov 11 2026. No macro, syntax, notation, axiom, sorry.
-/
import Derived.Test.YtmchhjjdlcmhoaaDoorRows
import GoSem.ClaimSeven
namespace Go.Proofs.YtmchhjjdlcmhoaaDoor
namespace Rows

/-- THE TIED CARD OF 'citadellaw01.WordFields'. -/
def wordFieldsCard : Claim7 := { stood := { row := wordFieldsRow, standIns := [], harness := (true, "43424d0c0273213d5ca8fb5aa903f277f631c3887a7609e4b88ee3fa99446570"), looks := false }, kinds := [], alts := [], laidByText := true, laidKinds := [.data], laidTests := true, laidLooks := .later }
def WordFieldsCardSaid : Prop := Claim7.holds Tryd.pinned (.plain (OpenSpec.ofChange wordFieldsSpec)) wordFieldsCard

/-- THE TIED CARD OF 'citadellaw01.WordPacks'. -/
def wordPacksCard : Claim7 := { stood := { row := wordPacksRow, standIns := [], harness := (true, "43424d0c0273213d5ca8fb5aa903f277f631c3887a7609e4b88ee3fa99446570"), looks := false }, kinds := [], alts := [], laidByText := true, laidKinds := [.data], laidTests := true, laidLooks := .later }
def WordPacksCardSaid : Prop := Claim7.holds Tryd.pinned (.plain (OpenSpec.ofChange wordPacksSpec)) wordPacksCard

/-- THE TIED CARD OF 'citadellaw01.WordBits'. -/
def wordBitsCard : Claim7 := { stood := { row := wordBitsRow, standIns := [], harness := (true, "43424d0c0273213d5ca8fb5aa903f277f631c3887a7609e4b88ee3fa99446570"), looks := false }, kinds := [], alts := [], laidByText := true, laidKinds := [.data], laidTests := true, laidLooks := .later }
def WordBitsCardSaid : Prop := Claim7.holds Tryd.pinned (.plain (OpenSpec.ofChange wordBitsSpec)) wordBitsCard

/-- THE TIED CARD OF 'citadellaw01.WordKeeps'. -/
def wordKeepsCard : Claim7 := { stood := { row := wordKeepsRow, standIns := [], harness := (true, "43424d0c0273213d5ca8fb5aa903f277f631c3887a7609e4b88ee3fa99446570"), looks := false }, kinds := [], alts := [], laidByText := true, laidKinds := [.data], laidTests := true, laidLooks := .later }
def WordKeepsCardSaid : Prop := Claim7.holds Tryd.pinned (.plain (OpenSpec.ofChange wordKeepsSpec)) wordKeepsCard

/-- THE TIED CARD OF 'citadellaw01.WordBack'. -/
def wordBackCard : Claim7 := { stood := { row := wordBackRow, standIns := [], harness := (true, "43424d0c0273213d5ca8fb5aa903f277f631c3887a7609e4b88ee3fa99446570"), looks := false }, kinds := [], alts := [], laidByText := true, laidKinds := [.data], laidTests := true, laidLooks := .later }
def WordBackCardSaid : Prop := Claim7.holds Tryd.pinned (.plain (OpenSpec.ofChange wordBackSpec)) wordBackCard

/-- THE SECOND FORM's CARD OF 'citadellaw01.WordFields'. -/
def wordFieldsUptoCard : Claim7 := { stood := { row := wordFieldsUptoRow, standIns := [], harness := (true, "43424d0c0273213d5ca8fb5aa903f277f631c3887a7609e4b88ee3fa99446570"), looks := false }, kinds := [], alts := [], laidByText := true, laidKinds := [.data], laidTests := true, laidLooks := .later }
def WordFieldsUptoCardSaid : Prop := Claim7.holds Tryd.pinned (.plain (OpenSpec.upto wordFieldsSpec)) wordFieldsUptoCard

/-- THE SECOND FORM's CARD OF 'citadellaw01.WordPacks'. -/
def wordPacksUptoCard : Claim7 := { stood := { row := wordPacksUptoRow, standIns := [], harness := (true, "43424d0c0273213d5ca8fb5aa903f277f631c3887a7609e4b88ee3fa99446570"), looks := false }, kinds := [], alts := [], laidByText := true, laidKinds := [.data], laidTests := true, laidLooks := .later }
def WordPacksUptoCardSaid : Prop := Claim7.holds Tryd.pinned (.plain (OpenSpec.upto wordPacksSpec)) wordPacksUptoCard

/-- THE SECOND FORM's CARD OF 'citadellaw01.WordBits'. -/
def wordBitsUptoCard : Claim7 := { stood := { row := wordBitsUptoRow, standIns := [], harness := (true, "43424d0c0273213d5ca8fb5aa903f277f631c3887a7609e4b88ee3fa99446570"), looks := false }, kinds := [], alts := [], laidByText := true, laidKinds := [.data], laidTests := true, laidLooks := .later }
def WordBitsUptoCardSaid : Prop := Claim7.holds Tryd.pinned (.plain (OpenSpec.upto wordBitsSpec)) wordBitsUptoCard

/-- THE SECOND FORM's CARD OF 'citadellaw01.WordKeeps'. -/
def wordKeepsUptoCard : Claim7 := { stood := { row := wordKeepsUptoRow, standIns := [], harness := (true, "43424d0c0273213d5ca8fb5aa903f277f631c3887a7609e4b88ee3fa99446570"), looks := false }, kinds := [], alts := [], laidByText := true, laidKinds := [.data], laidTests := true, laidLooks := .later }
def WordKeepsUptoCardSaid : Prop := Claim7.holds Tryd.pinned (.plain (OpenSpec.upto wordKeepsSpec)) wordKeepsUptoCard

/-- THE SECOND FORM's CARD OF 'citadellaw01.WordBack'. -/
def wordBackUptoCard : Claim7 := { stood := { row := wordBackUptoRow, standIns := [], harness := (true, "43424d0c0273213d5ca8fb5aa903f277f631c3887a7609e4b88ee3fa99446570"), looks := false }, kinds := [], alts := [], laidByText := true, laidKinds := [.data], laidTests := true, laidLooks := .later }
def WordBackUptoCardSaid : Prop := Claim7.holds Tryd.pinned (.plain (OpenSpec.upto wordBackSpec)) wordBackUptoCard
end Rows
end Go.Proofs.YtmchhjjdlcmhoaaDoor
