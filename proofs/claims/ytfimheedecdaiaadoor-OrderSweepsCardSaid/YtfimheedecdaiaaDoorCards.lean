/-
  DERIVED. GIVEN WITH THE SEED: THE CARDS: each row of YtfimheedecdaiaaDoorRows.lean that lists a variable, with what it lists TIED to the program's text (the seventh form; the later family's looks); each row that meets fmt, with fmt's text TOLD by the authors' own Lean function (tested against real Go, not proved from fmt's source: count such statements apart). THE CARD IS WHAT COUNTS. Prove the row's statement (the work); the ties are given (YtfimheedecdaiaaDoorTie.lean); close each card by the builder's one call (the guide's Derived/Test/ToyasCard.lean, 'card_holds'). Laid BY PROGRAM, IN A SANDBOX (cutbox-door.mjs). By AI agents, Wed Nov 11 2026. No macro, syntax, notation, axiom, sorry.
-/
import Derived.Test.YtfimheedecdaiaaDoorRows
import GoSem.ClaimSeven
namespace Go.Proofs.YtfimheedecdaiaaDoor
namespace Rows

/-- THE TIED CARD OF 'stipendlaw17.OrderBooks'. -/
def orderBooksCard : Claim7 := { stood := { row := orderBooksRow, standIns := [], harness := (true, "54a609146b6720935222ea592ed720bc06c0bf328379c0793394d168faf6456f"), looks := true }, kinds := [], alts := [], laidByText := true, laidKinds := [.data, .data, .data, .sentinel, .sentinel], laidTests := true, laidLooks := .later }
def OrderBooksCardSaid : Prop := Claim7.holds Tryd.pinned (.plain (OpenSpec.ofChange orderBooksSpec)) orderBooksCard

/-- THE TIED CARD OF 'stipendlaw17.OrderTook'. -/
def orderTookCard : Claim7 := { stood := { row := orderTookRow, standIns := [], harness := (true, "54a609146b6720935222ea592ed720bc06c0bf328379c0793394d168faf6456f"), looks := true }, kinds := [], alts := [], laidByText := true, laidKinds := [.data, .data, .data, .sentinel, .sentinel], laidTests := true, laidLooks := .later }
def OrderTookCardSaid : Prop := Claim7.holds Tryd.pinned (.plain (OpenSpec.ofChange orderTookSpec)) orderTookCard

/-- THE TIED CARD OF 'stipendlaw17.OrderChecks'. -/
def orderChecksCard : Claim7 := { stood := { row := orderChecksRow, standIns := [], harness := (true, "54a609146b6720935222ea592ed720bc06c0bf328379c0793394d168faf6456f"), looks := true }, kinds := [], alts := [], laidByText := true, laidKinds := [.data, .data, .data, .sentinel, .sentinel], laidTests := true, laidLooks := .later }
def OrderChecksCardSaid : Prop := Claim7.holds Tryd.pinned (.plain (OpenSpec.ofChange orderChecksSpec)) orderChecksCard

/-- THE TIED CARD OF 'stipendlaw17.OrderSweeps'. -/
def orderSweepsCard : Claim7 := { stood := { row := orderSweepsRow, standIns := [], harness := (true, "54a609146b6720935222ea592ed720bc06c0bf328379c0793394d168faf6456f"), looks := true }, kinds := [], alts := [], laidByText := true, laidKinds := [.data, .data, .data, .sentinel, .sentinel], laidTests := true, laidLooks := .later }
def OrderSweepsCardSaid : Prop := Claim7.holds Tryd.pinned (.plain (OpenSpec.ofChange orderSweepsSpec)) orderSweepsCard

/-- THE SECOND FORM's CARD OF 'stipendlaw17.OrderBooks'. -/
def orderBooksUptoCard : Claim7 := { stood := { row := orderBooksUptoRow, standIns := [], harness := (true, "54a609146b6720935222ea592ed720bc06c0bf328379c0793394d168faf6456f"), looks := true }, kinds := [], alts := [], laidByText := true, laidKinds := [.data, .data, .data, .sentinel, .sentinel], laidTests := true, laidLooks := .later }
def OrderBooksUptoCardSaid : Prop := Claim7.holds Tryd.pinned (.plain (OpenSpec.upto orderBooksSpec)) orderBooksUptoCard

/-- THE SECOND FORM's CARD OF 'stipendlaw17.OrderTook'. -/
def orderTookUptoCard : Claim7 := { stood := { row := orderTookUptoRow, standIns := [], harness := (true, "54a609146b6720935222ea592ed720bc06c0bf328379c0793394d168faf6456f"), looks := true }, kinds := [], alts := [], laidByText := true, laidKinds := [.data, .data, .data, .sentinel, .sentinel], laidTests := true, laidLooks := .later }
def OrderTookUptoCardSaid : Prop := Claim7.holds Tryd.pinned (.plain (OpenSpec.upto orderTookSpec)) orderTookUptoCard

/-- THE SECOND FORM's CARD OF 'stipendlaw17.OrderChecks'. -/
def orderChecksUptoCard : Claim7 := { stood := { row := orderChecksUptoRow, standIns := [], harness := (true, "54a609146b6720935222ea592ed720bc06c0bf328379c0793394d168faf6456f"), looks := true }, kinds := [], alts := [], laidByText := true, laidKinds := [.data, .data, .data, .sentinel, .sentinel], laidTests := true, laidLooks := .later }
def OrderChecksUptoCardSaid : Prop := Claim7.holds Tryd.pinned (.plain (OpenSpec.upto orderChecksSpec)) orderChecksUptoCard

/-- THE SECOND FORM's CARD OF 'stipendlaw17.OrderSweeps'. -/
def orderSweepsUptoCard : Claim7 := { stood := { row := orderSweepsUptoRow, standIns := [], harness := (true, "54a609146b6720935222ea592ed720bc06c0bf328379c0793394d168faf6456f"), looks := true }, kinds := [], alts := [], laidByText := true, laidKinds := [.data, .data, .data, .sentinel, .sentinel], laidTests := true, laidLooks := .later }
def OrderSweepsUptoCardSaid : Prop := Claim7.holds Tryd.pinned (.plain (OpenSpec.upto orderSweepsSpec)) orderSweepsUptoCard
end Rows
end Go.Proofs.YtfimheedecdaiaaDoor
