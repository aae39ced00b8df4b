/-
  DERIVED. GIVEN WITH THE SEED: THE CARDS: each row of YtebgbhgehnpahaaGreatDoorRows.lean that lists a variable, with what it lists TIED to the program's text (the seventh form; the later family's looks); each row that meets fmt, with fmt's text TOLD by the authors' own Lean function (tested against real Go, not proved from fmt's source: count such statements apart). THE CARD IS WHAT COUNTS. Prove the row's statement (the work); the ties are given (YtebgbhgehnpahaaGreatDoorTie.lean); close each card by the builder's one call (the guide's Derived/Test/ToyasCard.lean, 'card_holds'). Laid BY PROGRAM, IN A SANDBOX (cutbox-door.mjs). By AI agents, Wed Nov 11 2026. No macro, syntax, notation, axiom, sorry.
-/
import Derived.Test.YtebgbhgehnpahaaGreatDoorRows
import GoSem.ClaimSeven
namespace Go.Proofs.YtebgbhgehnpahaaGreatDoor
namespace Rows

/-- THE TIED CARD OF 'citadeltop.TopSignals'. -/
def topSignalsCard : Claim7 := { stood := { row := topSignalsRow, standIns := [], harness := (true, "ea4873745c0dd9f4f5fd843b2c266520ce747d3e1c86e5a89c4c02ceb79cb2e4"), looks := false }, kinds := [], alts := [], laidByText := true, laidKinds := [.data], laidTests := true, laidLooks := .later }
def TopSignalsCardSaid : Prop := Claim7.holds Tryz.pinned (.plain (OpenSpec.ofChange topSignalsSpec)) topSignalsCard

/-- THE TIED CARD OF 'citadeltop.TopTurns'. -/
def topTurnsCard : Claim7 := { stood := { row := topTurnsRow, standIns := [], harness := (true, "ea4873745c0dd9f4f5fd843b2c266520ce747d3e1c86e5a89c4c02ceb79cb2e4"), looks := false }, kinds := [], alts := [], laidByText := true, laidKinds := [.data], laidTests := true, laidLooks := .later }
def TopTurnsCardSaid : Prop := Claim7.holds Tryz.pinned (.plain (OpenSpec.ofChange topTurnsSpec)) topTurnsCard

/-- THE TIED CARD OF 'citadeltop.TopUrgent'. -/
def topUrgentCard : Claim7 := { stood := { row := topUrgentRow, standIns := [], harness := (true, "ea4873745c0dd9f4f5fd843b2c266520ce747d3e1c86e5a89c4c02ceb79cb2e4"), looks := false }, kinds := [], alts := [], laidByText := true, laidKinds := [.data], laidTests := true, laidLooks := .later }
def TopUrgentCardSaid : Prop := Claim7.holds Tryz.pinned (.plain (OpenSpec.ofChange topUrgentSpec)) topUrgentCard

/-- THE TIED CARD OF 'citadeltop.TopBadges'. -/
def topBadgesCard : Claim7 := { stood := { row := topBadgesRow, standIns := [], harness := (true, "ea4873745c0dd9f4f5fd843b2c266520ce747d3e1c86e5a89c4c02ceb79cb2e4"), looks := false }, kinds := [], alts := [], laidByText := true, laidKinds := [.data], laidTests := true, laidLooks := .later }
def TopBadgesCardSaid : Prop := Claim7.holds Tryz.pinned (.plain (OpenSpec.ofChange topBadgesSpec)) topBadgesCard

/-- THE TIED CARD OF 'citadeltop.TopRevoked'. -/
def topRevokedCard : Claim7 := { stood := { row := topRevokedRow, standIns := [], harness := (true, "ea4873745c0dd9f4f5fd843b2c266520ce747d3e1c86e5a89c4c02ceb79cb2e4"), looks := false }, kinds := [], alts := [], laidByText := true, laidKinds := [.data], laidTests := true, laidLooks := .later }
def TopRevokedCardSaid : Prop := Claim7.holds Tryz.pinned (.plain (OpenSpec.ofChange topRevokedSpec)) topRevokedCard

/-- THE TIED CARD OF 'citadeltop.TopSpawn'. -/
def topSpawnCard : Claim7 := { stood := { row := topSpawnRow, standIns := [], harness := (true, "ea4873745c0dd9f4f5fd843b2c266520ce747d3e1c86e5a89c4c02ceb79cb2e4"), looks := false }, kinds := [], alts := [], laidByText := true, laidKinds := [.data], laidTests := true, laidLooks := .later }
def TopSpawnCardSaid : Prop := Claim7.holds Tryz.pinned (.plain (OpenSpec.ofChange topSpawnSpec)) topSpawnCard

/-- THE TIED CARD OF 'citadeltop.TopLines'. -/
def topLinesCard : Claim7 := { stood := { row := topLinesRow, standIns := [], harness := (true, "ea4873745c0dd9f4f5fd843b2c266520ce747d3e1c86e5a89c4c02ceb79cb2e4"), looks := false }, kinds := [], alts := [], laidByText := true, laidKinds := [.data], laidTests := true, laidLooks := .later }
def TopLinesCardSaid : Prop := Claim7.holds Tryz.pinned (.plain (OpenSpec.ofChange topLinesSpec)) topLinesCard

/-- THE TIED CARD OF 'citadeltop.TopForgets'. -/
def topForgetsCard : Claim7 := { stood := { row := topForgetsRow, standIns := [], harness := (true, "ea4873745c0dd9f4f5fd843b2c266520ce747d3e1c86e5a89c4c02ceb79cb2e4"), looks := false }, kinds := [], alts := [], laidByText := true, laidKinds := [.data], laidTests := true, laidLooks := .later }
def TopForgetsCardSaid : Prop := Claim7.holds Tryz.pinned (.plain (OpenSpec.ofChange topForgetsSpec)) topForgetsCard

/-- THE SECOND FORM's CARD OF 'citadeltop.TopSignals'. -/
def topSignalsUptoCard : Claim7 := { stood := { row := topSignalsUptoRow, standIns := [], harness := (true, "ea4873745c0dd9f4f5fd843b2c266520ce747d3e1c86e5a89c4c02ceb79cb2e4"), looks := false }, kinds := [], alts := [], laidByText := true, laidKinds := [.data], laidTests := true, laidLooks := .later }
def TopSignalsUptoCardSaid : Prop := Claim7.holds Tryz.pinned (.plain (OpenSpec.upto topSignalsSpec)) topSignalsUptoCard

/-- THE SECOND FORM's CARD OF 'citadeltop.TopTurns'. -/
def topTurnsUptoCard : Claim7 := { stood := { row := topTurnsUptoRow, standIns := [], harness := (true, "ea4873745c0dd9f4f5fd843b2c266520ce747d3e1c86e5a89c4c02ceb79cb2e4"), looks := false }, kinds := [], alts := [], laidByText := true, laidKinds := [.data], laidTests := true, laidLooks := .later }
def TopTurnsUptoCardSaid : Prop := Claim7.holds Tryz.pinned (.plain (OpenSpec.upto topTurnsSpec)) topTurnsUptoCard

/-- THE SECOND FORM's CARD OF 'citadeltop.TopUrgent'. -/
def topUrgentUptoCard : Claim7 := { stood := { row := topUrgentUptoRow, standIns := [], harness := (true, "ea4873745c0dd9f4f5fd843b2c266520ce747d3e1c86e5a89c4c02ceb79cb2e4"), looks := false }, kinds := [], alts := [], laidByText := true, laidKinds := [.data], laidTests := true, laidLooks := .later }
def TopUrgentUptoCardSaid : Prop := Claim7.holds Tryz.pinned (.plain (OpenSpec.upto topUrgentSpec)) topUrgentUptoCard

/-- THE SECOND FORM's CARD OF 'citadeltop.TopBadges'. -/
def topBadgesUptoCard : Claim7 := { stood := { row := topBadgesUptoRow, standIns := [], harness := (true, "ea4873745c0dd9f4f5fd843b2c266520ce747d3e1c86e5a89c4c02ceb79cb2e4"), looks := false }, kinds := [], alts := [], laidByText := true, laidKinds := [.data], laidTests := true, laidLooks := .later }
def TopBadgesUptoCardSaid : Prop := Claim7.holds Tryz.pinned (.plain (OpenSpec.upto topBadgesSpec)) topBadgesUptoCard

/-- THE SECOND FORM's CARD OF 'citadeltop.TopRevoked'. -/
def topRevokedUptoCard : Claim7 := { stood := { row := topRevokedUptoRow, standIns := [], harness := (true, "ea4873745c0dd9f4f5fd843b2c266520ce747d3e1c86e5a89c4c02ceb79cb2e4"), looks := false }, kinds := [], alts := [], laidByText := true, laidKinds := [.data], laidTests := true, laidLooks := .later }
def TopRevokedUptoCardSaid : Prop := Claim7.holds Tryz.pinned (.plain (OpenSpec.upto topRevokedSpec)) topRevokedUptoCard

/-- THE SECOND FORM's CARD OF 'citadeltop.TopSpawn'. -/
def topSpawnUptoCard : Claim7 := { stood := { row := topSpawnUptoRow, standIns := [], harness := (true, "ea4873745c0dd9f4f5fd843b2c266520ce747d3e1c86e5a89c4c02ceb79cb2e4"), looks := false }, kinds := [], alts := [], laidByText := true, laidKinds := [.data], laidTests := true, laidLooks := .later }
def TopSpawnUptoCardSaid : Prop := Claim7.holds Tryz.pinned (.plain (OpenSpec.upto topSpawnSpec)) topSpawnUptoCard

/-- THE SECOND FORM's CARD OF 'citadeltop.TopLines'. -/
def topLinesUptoCard : Claim7 := { stood := { row := topLinesUptoRow, standIns := [], harness := (true, "ea4873745c0dd9f4f5fd843b2c266520ce747d3e1c86e5a89c4c02ceb79cb2e4"), looks := false }, kinds := [], alts := [], laidByText := true, laidKinds := [.data], laidTests := true, laidLooks := .later }
def TopLinesUptoCardSaid : Prop := Claim7.holds Tryz.pinned (.plain (OpenSpec.upto topLinesSpec)) topLinesUptoCard

/-- THE SECOND FORM's CARD OF 'citadeltop.TopForgets'. -/
def topForgetsUptoCard : Claim7 := { stood := { row := topForgetsUptoRow, standIns := [], harness := (true, "ea4873745c0dd9f4f5fd843b2c266520ce747d3e1c86e5a89c4c02ceb79cb2e4"), looks := false }, kinds := [], alts := [], laidByText := true, laidKinds := [.data], laidTests := true, laidLooks := .later }
def TopForgetsUptoCardSaid : Prop := Claim7.holds Tryz.pinned (.plain (OpenSpec.upto topForgetsSpec)) topForgetsUptoCard
end Rows
end Go.Proofs.YtebgbhgehnpahaaGreatDoor
