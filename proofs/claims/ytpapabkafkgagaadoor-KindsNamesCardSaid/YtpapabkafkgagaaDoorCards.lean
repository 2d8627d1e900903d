/-
  DERIVED. GIVEN WITH THE SEED: THE CARDS: each row of YtpapabkafkgagaaDoorRows.lean that lists a variable, with what it lists TIED to the program's text (the seventh form; the later family's looks); each row that meets fmt, with fmt's text TOLD by the authors' own Lean function (tested against real Go, not proved from fmt's source: count such statements apart). THE CARD IS WHAT COUNTS. Prove the row's statement (the work); the ties are given (YtpapabkafkgagaaDoorTie.lean); close each card by the builder's one call (the guide's Derived/Test/ToyasCard.lean, 'card_holds'). Laid BY PROGRAM, IN A SANDBOX (cutbox-door.mjs). By AI agents, Wed Nov 11 2026. No macro, syntax, notation, axiom, sorry.
-/
import Derived.Test.YtpapabkafkgagaaDoorRows
import GoSem.ClaimSeven
namespace Go.Proofs.YtpapabkafkgagaaDoor
namespace Rows

/-- THE TIED CARD OF 'seisinlaw10.KindsTells'. -/
def kindsTellsCard : Claim7 := { stood := { row := kindsTellsRow, standIns := [], harness := (true, "ac262acaa523c78c559f6f19a391a7004bcc799e66daf672cd5534e6fd10f120"), looks := false }, kinds := [], alts := [], laidByText := true, laidKinds := [.data], laidTests := true, laidLooks := .later }
def KindsTellsCardSaid : Prop := Claim7.holds Tryd.pinned (.plain (OpenSpec.ofChange kindsTellsSpec)) kindsTellsCard

/-- THE TIED CARD OF 'seisinlaw10.KindsNames'. -/
def kindsNamesCard : Claim7 := { stood := { row := kindsNamesRow, standIns := [], harness := (true, "ac262acaa523c78c559f6f19a391a7004bcc799e66daf672cd5534e6fd10f120"), looks := false }, kinds := [], alts := [], laidByText := true, laidKinds := [.data], laidTests := true, laidLooks := .later }
def KindsNamesCardSaid : Prop := Claim7.holds Tryd.pinned (.plain (OpenSpec.ofChange kindsNamesSpec)) kindsNamesCard

/-- THE TIED CARD OF 'seisinlaw10.KindsRoom'. -/
def kindsRoomCard : Claim7 := { stood := { row := kindsRoomRow, standIns := [], harness := (true, "ac262acaa523c78c559f6f19a391a7004bcc799e66daf672cd5534e6fd10f120"), looks := false }, kinds := [], alts := [], laidByText := true, laidKinds := [.data], laidTests := true, laidLooks := .later }
def KindsRoomCardSaid : Prop := Claim7.holds Tryd.pinned (.plain (OpenSpec.ofChange kindsRoomSpec)) kindsRoomCard

/-- THE SECOND FORM's CARD OF 'seisinlaw10.KindsTells'. -/
def kindsTellsUptoCard : Claim7 := { stood := { row := kindsTellsUptoRow, standIns := [], harness := (true, "ac262acaa523c78c559f6f19a391a7004bcc799e66daf672cd5534e6fd10f120"), looks := false }, kinds := [], alts := [], laidByText := true, laidKinds := [.data], laidTests := true, laidLooks := .later }
def KindsTellsUptoCardSaid : Prop := Claim7.holds Tryd.pinned (.plain (OpenSpec.upto kindsTellsSpec)) kindsTellsUptoCard

/-- THE SECOND FORM's CARD OF 'seisinlaw10.KindsNames'. -/
def kindsNamesUptoCard : Claim7 := { stood := { row := kindsNamesUptoRow, standIns := [], harness := (true, "ac262acaa523c78c559f6f19a391a7004bcc799e66daf672cd5534e6fd10f120"), looks := false }, kinds := [], alts := [], laidByText := true, laidKinds := [.data], laidTests := true, laidLooks := .later }
def KindsNamesUptoCardSaid : Prop := Claim7.holds Tryd.pinned (.plain (OpenSpec.upto kindsNamesSpec)) kindsNamesUptoCard

/-- THE SECOND FORM's CARD OF 'seisinlaw10.KindsRoom'. -/
def kindsRoomUptoCard : Claim7 := { stood := { row := kindsRoomUptoRow, standIns := [], harness := (true, "ac262acaa523c78c559f6f19a391a7004bcc799e66daf672cd5534e6fd10f120"), looks := false }, kinds := [], alts := [], laidByText := true, laidKinds := [.data], laidTests := true, laidLooks := .later }
def KindsRoomUptoCardSaid : Prop := Claim7.holds Tryd.pinned (.plain (OpenSpec.upto kindsRoomSpec)) kindsRoomUptoCard
end Rows
end Go.Proofs.YtpapabkafkgagaaDoor
