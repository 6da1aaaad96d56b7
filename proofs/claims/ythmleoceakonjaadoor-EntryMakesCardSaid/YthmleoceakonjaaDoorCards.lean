/-
  DERIVED. GIVEN WITH THE SEED: THE CARDS: each row of YthmleoceakonjaaDoorRows.lean that lists a variable, with what it lists TIED to the program's text (the seventh form; the later family's looks); each row that meets fmt, with fmt's text TOLD by the authors' own Lean function (tested against real Go, not proved from fmt's source: count such statements apart). THE CARD IS WHAT COUNTS. Prove the row's statement (the work); the ties are given (YthmleoceakonjaaDoorTie.lean); close each card by the builder's one call (the guide's Derived/Test/ToyasCard.lean, 'card_holds'). Laid BY PROGRAM, IN A SANDBOX (cutbox-door.mjs). By AI agents, Wed Nov 11 2026. No macro, syntax, notation, axiom, sorry.
-/
import Derived.Test.YthmleoceakonjaaDoorRows
import GoSem.ClaimSeven
namespace Go.Proofs.YthmleoceakonjaaDoor
namespace Rows

/-- THE TIED CARD OF 'pannierlaw09.EntryMakes'. -/
def entryMakesCard : Claim7 := { stood := { row := entryMakesRow, standIns := [], harness := (true, "04e29048fcd8c2746ccdca3d7b5ed17a0400f66b795ea3c0267af69b6feb7f49"), looks := true }, kinds := [], alts := [], laidByText := true, laidKinds := [.data, .data, .data, .sentinel, .sentinel], laidTests := true, laidLooks := .later }
def EntryMakesCardSaid : Prop := Claim7.holds Tryd.pinned (.plain (OpenSpec.ofChange entryMakesSpec)) entryMakesCard

/-- THE TIED CARD OF 'pannierlaw09.EntryOrder'. -/
def entryOrderCard : Claim7 := { stood := { row := entryOrderRow, standIns := [], harness := (true, "04e29048fcd8c2746ccdca3d7b5ed17a0400f66b795ea3c0267af69b6feb7f49"), looks := true }, kinds := [], alts := [], laidByText := true, laidKinds := [.data, .data, .data, .sentinel, .sentinel], laidTests := true, laidLooks := .later }
def EntryOrderCardSaid : Prop := Claim7.holds Tryd.pinned (.plain (OpenSpec.ofChange entryOrderSpec)) entryOrderCard

/-- THE SECOND FORM's CARD OF 'pannierlaw09.EntryMakes'. -/
def entryMakesUptoCard : Claim7 := { stood := { row := entryMakesUptoRow, standIns := [], harness := (true, "04e29048fcd8c2746ccdca3d7b5ed17a0400f66b795ea3c0267af69b6feb7f49"), looks := true }, kinds := [], alts := [], laidByText := true, laidKinds := [.data, .data, .data, .sentinel, .sentinel], laidTests := true, laidLooks := .later }
def EntryMakesUptoCardSaid : Prop := Claim7.holds Tryd.pinned (.plain (OpenSpec.upto entryMakesSpec)) entryMakesUptoCard

/-- THE SECOND FORM's CARD OF 'pannierlaw09.EntryOrder'. -/
def entryOrderUptoCard : Claim7 := { stood := { row := entryOrderUptoRow, standIns := [], harness := (true, "04e29048fcd8c2746ccdca3d7b5ed17a0400f66b795ea3c0267af69b6feb7f49"), looks := true }, kinds := [], alts := [], laidByText := true, laidKinds := [.data, .data, .data, .sentinel, .sentinel], laidTests := true, laidLooks := .later }
def EntryOrderUptoCardSaid : Prop := Claim7.holds Tryd.pinned (.plain (OpenSpec.upto entryOrderSpec)) entryOrderUptoCard
end Rows
end Go.Proofs.YthmleoceakonjaaDoor
