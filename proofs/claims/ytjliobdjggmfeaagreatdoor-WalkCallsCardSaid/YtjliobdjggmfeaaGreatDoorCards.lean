/-
  DERIVED. GIVEN WITH THE SEED: THE CARDS: each row of YtjliobdjggmfeaaGreatDoorRows.lean that lists a variable, with what it lists TIED to the program's text (the seventh form; the later family's looks); each row that meets fmt, with fmt's text TOLD by the authors' own Lean function (tested against real Go, not proved from fmt's source: count such statements apart). THE CARD IS WHAT COUNTS. Prove the row's statement (the work); the ties are given (YtjliobdjggmfeaaGreatDoorTie.lean); close each card by the builder's one call (the guide's Derived/Test/ToyasCard.lean, 'card_holds'). Laid BY PROGRAM, IN A SANDBOX (cutbox-door.mjs). By AI agents, Wed Nov 11 2026. No macro, syntax, notation, axiom, sorry.
-/
import Derived.Test.YtjliobdjggmfeaaGreatDoorRows
import GoSem.ClaimSeven
namespace Go.Proofs.YtjliobdjggmfeaaGreatDoor
namespace Rows

/-- THE TIED CARD OF 'skualaw16.WpMoved'. -/
def wpMovedCard : Claim7 := { stood := { row := wpMovedRow, standIns := [], harness := (true, "dbf9b7c831dcc0541629b91632736da5e753f094ac0415736ab0ce74c6fe9800"), looks := true }, kinds := [], alts := [], laidByText := true, laidKinds := [.data, .data, .data, .data, .data, .sentinel, .sentinel, .data, .data, .pinned], laidTests := true, laidLooks := .later }
def WpMovedCardSaid : Prop := Claim7.holds Tryz.pinned (.plain (OpenSpec.ofChange wpMovedSpec)) wpMovedCard

/-- THE TIED CARD OF 'skualaw16.WpBack'. -/
def wpBackCard : Claim7 := { stood := { row := wpBackRow, standIns := [], harness := (true, "dbf9b7c831dcc0541629b91632736da5e753f094ac0415736ab0ce74c6fe9800"), looks := true }, kinds := [], alts := [], laidByText := true, laidKinds := [.data, .data, .data, .data, .data, .sentinel, .sentinel, .data, .data, .pinned], laidTests := true, laidLooks := .later }
def WpBackCardSaid : Prop := Claim7.holds Tryz.pinned (.plain (OpenSpec.ofChange wpBackSpec)) wpBackCard

/-- THE TIED CARD OF 'skualaw16.WpAlong'. -/
def wpAlongCard : Claim7 := { stood := { row := wpAlongRow, standIns := [], harness := (true, "dbf9b7c831dcc0541629b91632736da5e753f094ac0415736ab0ce74c6fe9800"), looks := true }, kinds := [], alts := [], laidByText := true, laidKinds := [.data, .data, .data, .data, .data, .sentinel, .sentinel, .data, .data, .pinned], laidTests := true, laidLooks := .later }
def WpAlongCardSaid : Prop := Claim7.holds Tryz.pinned (.plain (OpenSpec.ofChange wpAlongSpec)) wpAlongCard

/-- THE TIED CARD OF 'skualaw14.WalkCalls'. -/
def walkCallsCard : Claim7 := { stood := { row := walkCallsRow, standIns := [], harness := (true, "dbf9b7c831dcc0541629b91632736da5e753f094ac0415736ab0ce74c6fe9800"), looks := true }, kinds := [], alts := [], laidByText := true, laidKinds := [.data, .data, .data, .data, .data, .sentinel, .sentinel, .data, .data, .pinned], laidTests := true, laidLooks := .later }
def WalkCallsCardSaid : Prop := Claim7.holds Tryz.pinned (.plain (OpenSpec.ofChange walkCallsSpec)) walkCallsCard

/-- THE TIED CARD OF 'skualaw15.PredAdds'. -/
def predAddsCard : Claim7 := { stood := { row := predAddsRow, standIns := [], harness := (true, "dbf9b7c831dcc0541629b91632736da5e753f094ac0415736ab0ce74c6fe9800"), looks := true }, kinds := [], alts := [], laidByText := true, laidKinds := [.data, .data, .data, .data, .data, .sentinel, .sentinel, .data, .data, .pinned], laidTests := true, laidLooks := .later }
def PredAddsCardSaid : Prop := Claim7.holds Tryz.pinned (.plain (OpenSpec.ofChange predAddsSpec)) predAddsCard

/-- THE TIED CARD OF 'skualaw15.PredScopes'. -/
def predScopesCard : Claim7 := { stood := { row := predScopesRow, standIns := [], harness := (true, "dbf9b7c831dcc0541629b91632736da5e753f094ac0415736ab0ce74c6fe9800"), looks := true }, kinds := [], alts := [], laidByText := true, laidKinds := [.data, .data, .data, .data, .data, .sentinel, .sentinel, .data, .data, .pinned], laidTests := true, laidLooks := .later }
def PredScopesCardSaid : Prop := Claim7.holds Tryz.pinned (.plain (OpenSpec.ofChange predScopesSpec)) predScopesCard

/-- THE TIED CARD OF 'skualaw15.PredBits'. -/
def predBitsCard : Claim7 := { stood := { row := predBitsRow, standIns := [], harness := (true, "dbf9b7c831dcc0541629b91632736da5e753f094ac0415736ab0ce74c6fe9800"), looks := true }, kinds := [], alts := [], laidByText := true, laidKinds := [.data, .data, .data, .data, .data, .sentinel, .sentinel, .data, .data, .pinned], laidTests := true, laidLooks := .later }
def PredBitsCardSaid : Prop := Claim7.holds Tryz.pinned (.plain (OpenSpec.ofChange predBitsSpec)) predBitsCard

/-- THE TIED CARD OF 'skualaw15.PredOnce'. -/
def predOnceCard : Claim7 := { stood := { row := predOnceRow, standIns := [], harness := (true, "dbf9b7c831dcc0541629b91632736da5e753f094ac0415736ab0ce74c6fe9800"), looks := true }, kinds := [], alts := [], laidByText := true, laidKinds := [.data, .data, .data, .data, .data, .sentinel, .sentinel, .data, .data, .pinned], laidTests := true, laidLooks := .later }
def PredOnceCardSaid : Prop := Claim7.holds Tryz.pinned (.plain (OpenSpec.ofChange predOnceSpec)) predOnceCard

/-- THE TIED CARD OF 'skualaw16.WpEnters'. -/
def wpEntersCard : Claim7 := { stood := { row := wpEntersRow, standIns := [], harness := (true, "dbf9b7c831dcc0541629b91632736da5e753f094ac0415736ab0ce74c6fe9800"), looks := true }, kinds := [], alts := [], laidByText := true, laidKinds := [.data, .data, .data, .data, .data, .sentinel, .sentinel, .data, .data, .pinned], laidTests := true, laidLooks := .later }
def WpEntersCardSaid : Prop := Claim7.holds Tryz.pinned (.plain (OpenSpec.ofChange wpEntersSpec)) wpEntersCard

/-- THE SECOND FORM's CARD OF 'skualaw16.WpMoved'. -/
def wpMovedUptoCard : Claim7 := { stood := { row := wpMovedUptoRow, standIns := [], harness := (true, "dbf9b7c831dcc0541629b91632736da5e753f094ac0415736ab0ce74c6fe9800"), looks := true }, kinds := [], alts := [], laidByText := true, laidKinds := [.data, .data, .data, .data, .data, .sentinel, .sentinel, .data, .data, .pinned], laidTests := true, laidLooks := .later }
def WpMovedUptoCardSaid : Prop := Claim7.holds Tryz.pinned (.plain (OpenSpec.upto wpMovedSpec)) wpMovedUptoCard

/-- THE SECOND FORM's CARD OF 'skualaw16.WpBack'. -/
def wpBackUptoCard : Claim7 := { stood := { row := wpBackUptoRow, standIns := [], harness := (true, "dbf9b7c831dcc0541629b91632736da5e753f094ac0415736ab0ce74c6fe9800"), looks := true }, kinds := [], alts := [], laidByText := true, laidKinds := [.data, .data, .data, .data, .data, .sentinel, .sentinel, .data, .data, .pinned], laidTests := true, laidLooks := .later }
def WpBackUptoCardSaid : Prop := Claim7.holds Tryz.pinned (.plain (OpenSpec.upto wpBackSpec)) wpBackUptoCard

/-- THE SECOND FORM's CARD OF 'skualaw16.WpAlong'. -/
def wpAlongUptoCard : Claim7 := { stood := { row := wpAlongUptoRow, standIns := [], harness := (true, "dbf9b7c831dcc0541629b91632736da5e753f094ac0415736ab0ce74c6fe9800"), looks := true }, kinds := [], alts := [], laidByText := true, laidKinds := [.data, .data, .data, .data, .data, .sentinel, .sentinel, .data, .data, .pinned], laidTests := true, laidLooks := .later }
def WpAlongUptoCardSaid : Prop := Claim7.holds Tryz.pinned (.plain (OpenSpec.upto wpAlongSpec)) wpAlongUptoCard

/-- THE SECOND FORM's CARD OF 'skualaw14.WalkCalls'. -/
def walkCallsUptoCard : Claim7 := { stood := { row := walkCallsUptoRow, standIns := [], harness := (true, "dbf9b7c831dcc0541629b91632736da5e753f094ac0415736ab0ce74c6fe9800"), looks := true }, kinds := [], alts := [], laidByText := true, laidKinds := [.data, .data, .data, .data, .data, .sentinel, .sentinel, .data, .data, .pinned], laidTests := true, laidLooks := .later }
def WalkCallsUptoCardSaid : Prop := Claim7.holds Tryz.pinned (.plain (OpenSpec.upto walkCallsSpec)) walkCallsUptoCard

/-- THE SECOND FORM's CARD OF 'skualaw15.PredAdds'. -/
def predAddsUptoCard : Claim7 := { stood := { row := predAddsUptoRow, standIns := [], harness := (true, "dbf9b7c831dcc0541629b91632736da5e753f094ac0415736ab0ce74c6fe9800"), looks := true }, kinds := [], alts := [], laidByText := true, laidKinds := [.data, .data, .data, .data, .data, .sentinel, .sentinel, .data, .data, .pinned], laidTests := true, laidLooks := .later }
def PredAddsUptoCardSaid : Prop := Claim7.holds Tryz.pinned (.plain (OpenSpec.upto predAddsSpec)) predAddsUptoCard

/-- THE SECOND FORM's CARD OF 'skualaw15.PredScopes'. -/
def predScopesUptoCard : Claim7 := { stood := { row := predScopesUptoRow, standIns := [], harness := (true, "dbf9b7c831dcc0541629b91632736da5e753f094ac0415736ab0ce74c6fe9800"), looks := true }, kinds := [], alts := [], laidByText := true, laidKinds := [.data, .data, .data, .data, .data, .sentinel, .sentinel, .data, .data, .pinned], laidTests := true, laidLooks := .later }
def PredScopesUptoCardSaid : Prop := Claim7.holds Tryz.pinned (.plain (OpenSpec.upto predScopesSpec)) predScopesUptoCard

/-- THE SECOND FORM's CARD OF 'skualaw15.PredBits'. -/
def predBitsUptoCard : Claim7 := { stood := { row := predBitsUptoRow, standIns := [], harness := (true, "dbf9b7c831dcc0541629b91632736da5e753f094ac0415736ab0ce74c6fe9800"), looks := true }, kinds := [], alts := [], laidByText := true, laidKinds := [.data, .data, .data, .data, .data, .sentinel, .sentinel, .data, .data, .pinned], laidTests := true, laidLooks := .later }
def PredBitsUptoCardSaid : Prop := Claim7.holds Tryz.pinned (.plain (OpenSpec.upto predBitsSpec)) predBitsUptoCard

/-- THE SECOND FORM's CARD OF 'skualaw15.PredOnce'. -/
def predOnceUptoCard : Claim7 := { stood := { row := predOnceUptoRow, standIns := [], harness := (true, "dbf9b7c831dcc0541629b91632736da5e753f094ac0415736ab0ce74c6fe9800"), looks := true }, kinds := [], alts := [], laidByText := true, laidKinds := [.data, .data, .data, .data, .data, .sentinel, .sentinel, .data, .data, .pinned], laidTests := true, laidLooks := .later }
def PredOnceUptoCardSaid : Prop := Claim7.holds Tryz.pinned (.plain (OpenSpec.upto predOnceSpec)) predOnceUptoCard

/-- THE SECOND FORM's CARD OF 'skualaw16.WpEnters'. -/
def wpEntersUptoCard : Claim7 := { stood := { row := wpEntersUptoRow, standIns := [], harness := (true, "dbf9b7c831dcc0541629b91632736da5e753f094ac0415736ab0ce74c6fe9800"), looks := true }, kinds := [], alts := [], laidByText := true, laidKinds := [.data, .data, .data, .data, .data, .sentinel, .sentinel, .data, .data, .pinned], laidTests := true, laidLooks := .later }
def WpEntersUptoCardSaid : Prop := Claim7.holds Tryz.pinned (.plain (OpenSpec.upto wpEntersSpec)) wpEntersUptoCard
end Rows
end Go.Proofs.YtjliobdjggmfeaaGreatDoor
