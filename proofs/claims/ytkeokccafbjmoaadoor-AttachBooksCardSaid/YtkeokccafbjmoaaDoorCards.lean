/-
  DERIVED. GIVEN WITH THE SEED: THE CARDS: each row of YtkeokccafbjmoaaDoorRows.lean that lists a variable, with what it lists TIED to the program's text (the seventh form; the later family's looks); each row that meets fmt, with fmt's text TOLD by the authors' own Lean function (tested against real Go, not proved from fmt's source: count such statements apart). THE CARD IS WHAT COUNTS. Prove the row's statement (the work); the ties are given (YtkeokccafbjmoaaDoorTie.lean); close each card by the builder's one call (the guide's Derived/Test/ToyasCard.lean, 'card_holds'). Laid BY PROGRAM, IN A SANDBOX (cutbox-door.mjs). By AI agents, Wed Nov 11 2026. No macro, syntax, notation, axiom, sorry.
-/
import Derived.Test.YtkeokccafbjmoaaDoorRows
import GoSem.ClaimSeven
namespace Go.Proofs.YtkeokccafbjmoaaDoor
namespace Rows

/-- THE TIED CARD OF 'stipendlaw18.AttachServes'. -/
def attachServesCard : Claim7 := { stood := { row := attachServesRow, standIns := [], harness := (true, "94de91a55164e05686995f2152430eb4cf1d8c403be6c26e4e7cfd69925a7f7b"), looks := false }, kinds := [], alts := [], laidByText := true, laidKinds := [.data, .data, .data], laidTests := true, laidLooks := .later }
def AttachServesCardSaid : Prop := Claim7.holds Tryd.pinned (.plain (OpenSpec.ofChange attachServesSpec)) attachServesCard

/-- THE TIED CARD OF 'stipendlaw18.AttachProtects'. -/
def attachProtectsCard : Claim7 := { stood := { row := attachProtectsRow, standIns := [], harness := (true, "94de91a55164e05686995f2152430eb4cf1d8c403be6c26e4e7cfd69925a7f7b"), looks := false }, kinds := [], alts := [], laidByText := true, laidKinds := [.data, .data, .data], laidTests := true, laidLooks := .later }
def AttachProtectsCardSaid : Prop := Claim7.holds Tryd.pinned (.plain (OpenSpec.ofChange attachProtectsSpec)) attachProtectsCard

/-- THE TIED CARD OF 'stipendlaw18.AttachShort'. -/
def attachShortCard : Claim7 := { stood := { row := attachShortRow, standIns := [], harness := (true, "94de91a55164e05686995f2152430eb4cf1d8c403be6c26e4e7cfd69925a7f7b"), looks := false }, kinds := [], alts := [], laidByText := true, laidKinds := [.data, .data, .data], laidTests := true, laidLooks := .later }
def AttachShortCardSaid : Prop := Claim7.holds Tryd.pinned (.plain (OpenSpec.ofChange attachShortSpec)) attachShortCard

/-- THE TIED CARD OF 'stipendlaw18.AttachRight'. -/
def attachRightCard : Claim7 := { stood := { row := attachRightRow, standIns := [], harness := (true, "94de91a55164e05686995f2152430eb4cf1d8c403be6c26e4e7cfd69925a7f7b"), looks := false }, kinds := [], alts := [], laidByText := true, laidKinds := [.data, .data, .data], laidTests := true, laidLooks := .later }
def AttachRightCardSaid : Prop := Claim7.holds Tryd.pinned (.plain (OpenSpec.ofChange attachRightSpec)) attachRightCard

/-- THE TIED CARD OF 'stipendlaw18.AttachBooks'. -/
def attachBooksCard : Claim7 := { stood := { row := attachBooksRow, standIns := [], harness := (true, "94de91a55164e05686995f2152430eb4cf1d8c403be6c26e4e7cfd69925a7f7b"), looks := false }, kinds := [], alts := [], laidByText := true, laidKinds := [.data, .data, .data], laidTests := true, laidLooks := .later }
def AttachBooksCardSaid : Prop := Claim7.holds Tryd.pinned (.plain (OpenSpec.ofChange attachBooksSpec)) attachBooksCard

/-- THE SECOND FORM's CARD OF 'stipendlaw18.AttachServes'. -/
def attachServesUptoCard : Claim7 := { stood := { row := attachServesUptoRow, standIns := [], harness := (true, "94de91a55164e05686995f2152430eb4cf1d8c403be6c26e4e7cfd69925a7f7b"), looks := false }, kinds := [], alts := [], laidByText := true, laidKinds := [.data, .data, .data], laidTests := true, laidLooks := .later }
def AttachServesUptoCardSaid : Prop := Claim7.holds Tryd.pinned (.plain (OpenSpec.upto attachServesSpec)) attachServesUptoCard

/-- THE SECOND FORM's CARD OF 'stipendlaw18.AttachProtects'. -/
def attachProtectsUptoCard : Claim7 := { stood := { row := attachProtectsUptoRow, standIns := [], harness := (true, "94de91a55164e05686995f2152430eb4cf1d8c403be6c26e4e7cfd69925a7f7b"), looks := false }, kinds := [], alts := [], laidByText := true, laidKinds := [.data, .data, .data], laidTests := true, laidLooks := .later }
def AttachProtectsUptoCardSaid : Prop := Claim7.holds Tryd.pinned (.plain (OpenSpec.upto attachProtectsSpec)) attachProtectsUptoCard

/-- THE SECOND FORM's CARD OF 'stipendlaw18.AttachShort'. -/
def attachShortUptoCard : Claim7 := { stood := { row := attachShortUptoRow, standIns := [], harness := (true, "94de91a55164e05686995f2152430eb4cf1d8c403be6c26e4e7cfd69925a7f7b"), looks := false }, kinds := [], alts := [], laidByText := true, laidKinds := [.data, .data, .data], laidTests := true, laidLooks := .later }
def AttachShortUptoCardSaid : Prop := Claim7.holds Tryd.pinned (.plain (OpenSpec.upto attachShortSpec)) attachShortUptoCard

/-- THE SECOND FORM's CARD OF 'stipendlaw18.AttachRight'. -/
def attachRightUptoCard : Claim7 := { stood := { row := attachRightUptoRow, standIns := [], harness := (true, "94de91a55164e05686995f2152430eb4cf1d8c403be6c26e4e7cfd69925a7f7b"), looks := false }, kinds := [], alts := [], laidByText := true, laidKinds := [.data, .data, .data], laidTests := true, laidLooks := .later }
def AttachRightUptoCardSaid : Prop := Claim7.holds Tryd.pinned (.plain (OpenSpec.upto attachRightSpec)) attachRightUptoCard

/-- THE SECOND FORM's CARD OF 'stipendlaw18.AttachBooks'. -/
def attachBooksUptoCard : Claim7 := { stood := { row := attachBooksUptoRow, standIns := [], harness := (true, "94de91a55164e05686995f2152430eb4cf1d8c403be6c26e4e7cfd69925a7f7b"), looks := false }, kinds := [], alts := [], laidByText := true, laidKinds := [.data, .data, .data], laidTests := true, laidLooks := .later }
def AttachBooksUptoCardSaid : Prop := Claim7.holds Tryd.pinned (.plain (OpenSpec.upto attachBooksSpec)) attachBooksUptoCard
end Rows
end Go.Proofs.YtkeokccafbjmoaaDoor
