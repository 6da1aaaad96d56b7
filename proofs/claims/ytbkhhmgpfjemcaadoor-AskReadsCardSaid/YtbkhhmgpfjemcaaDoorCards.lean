/-
  DERIVED. GIVEN WITH THE SEED: THE CARDS: each row of YtbkhhmgpfjemcaaDoorRows.lean that lists a variable, with what it lists TIED to the program's text (the seventh form; the later family's looks); each row that meets fmt, with fmt's text TOLD by the authors' own Lean function (tested against real Go, not proved from fmt's source: count such statements apart). THE CARD IS WHAT COUNTS. Prove the row's statement (the work); the ties are given (YtbkhhmgpfjemcaaDoorTie.lean); close each card by the builder's one call (the guide's Derived/Test/ToyasCard.lean, 'card_holds'). Laid BY PROGRAM, IN A SANDBOX (cutbox-door.mjs). By AI agents, Wed Nov 11 2026. No macro, syntax, notation, axiom, sorry.
-/
import Derived.Test.YtbkhhmgpfjemcaaDoorRows
import GoSem.ClaimSeven
namespace Go.Proofs.YtbkhhmgpfjemcaaDoor
namespace Rows

/-- THE TIED CARD OF 'pannierlaw20.AskReads'. -/
def askReadsCard : Claim7 := { stood := { row := askReadsRow, standIns := [], harness := (true, "6cebe67d5e8480c3c71dc0f66d645ee2a306a0c609242833b1a86fbb438720cf"), looks := true }, kinds := [], alts := [], laidByText := true, laidKinds := [.data, .data, .data, .sentinel, .sentinel], laidTests := true, laidLooks := .later }
def AskReadsCardSaid : Prop := Claim7.holds Tryd.pinned (.plain (OpenSpec.ofChange askReadsSpec)) askReadsCard

/-- THE TIED CARD OF 'pannierlaw20.AskOne'. -/
def askOneCard : Claim7 := { stood := { row := askOneRow, standIns := [], harness := (true, "6cebe67d5e8480c3c71dc0f66d645ee2a306a0c609242833b1a86fbb438720cf"), looks := true }, kinds := [], alts := [], laidByText := true, laidKinds := [.data, .data, .data, .sentinel, .sentinel], laidTests := true, laidLooks := .later }
def AskOneCardSaid : Prop := Claim7.holds Tryd.pinned (.plain (OpenSpec.ofChange askOneSpec)) askOneCard

/-- THE TIED CARD OF 'pannierlaw20.AskNumbers'. -/
def askNumbersCard : Claim7 := { stood := { row := askNumbersRow, standIns := [], harness := (true, "6cebe67d5e8480c3c71dc0f66d645ee2a306a0c609242833b1a86fbb438720cf"), looks := true }, kinds := [], alts := [], laidByText := true, laidKinds := [.data, .data, .data, .sentinel, .sentinel], laidTests := true, laidLooks := .later }
def AskNumbersCardSaid : Prop := Claim7.holds Tryd.pinned (.plain (OpenSpec.ofChange askNumbersSpec)) askNumbersCard

/-- THE TIED CARD OF 'pannierlaw20.AskPaths'. -/
def askPathsCard : Claim7 := { stood := { row := askPathsRow, standIns := [], harness := (true, "6cebe67d5e8480c3c71dc0f66d645ee2a306a0c609242833b1a86fbb438720cf"), looks := true }, kinds := [], alts := [], laidByText := true, laidKinds := [.data, .data, .data, .sentinel, .sentinel], laidTests := true, laidLooks := .later }
def AskPathsCardSaid : Prop := Claim7.holds Tryd.pinned (.plain (OpenSpec.ofChange askPathsSpec)) askPathsCard

/-- THE TIED CARD OF 'pannierlaw20.AskData'. -/
def askDataCard : Claim7 := { stood := { row := askDataRow, standIns := [], harness := (true, "6cebe67d5e8480c3c71dc0f66d645ee2a306a0c609242833b1a86fbb438720cf"), looks := true }, kinds := [], alts := [], laidByText := true, laidKinds := [.data, .data, .data, .sentinel, .sentinel], laidTests := true, laidLooks := .later }
def AskDataCardSaid : Prop := Claim7.holds Tryd.pinned (.plain (OpenSpec.ofChange askDataSpec)) askDataCard

/-- THE TIED CARD OF 'pannierlaw20.AskLong'. -/
def askLongCard : Claim7 := { stood := { row := askLongRow, standIns := [], harness := (true, "6cebe67d5e8480c3c71dc0f66d645ee2a306a0c609242833b1a86fbb438720cf"), looks := true }, kinds := [], alts := [], laidByText := true, laidKinds := [.data, .data, .data, .sentinel, .sentinel], laidTests := true, laidLooks := .later }
def AskLongCardSaid : Prop := Claim7.holds Tryd.pinned (.plain (OpenSpec.ofChange askLongSpec)) askLongCard

/-- THE SECOND FORM's CARD OF 'pannierlaw20.AskReads'. -/
def askReadsUptoCard : Claim7 := { stood := { row := askReadsUptoRow, standIns := [], harness := (true, "6cebe67d5e8480c3c71dc0f66d645ee2a306a0c609242833b1a86fbb438720cf"), looks := true }, kinds := [], alts := [], laidByText := true, laidKinds := [.data, .data, .data, .sentinel, .sentinel], laidTests := true, laidLooks := .later }
def AskReadsUptoCardSaid : Prop := Claim7.holds Tryd.pinned (.plain (OpenSpec.upto askReadsSpec)) askReadsUptoCard

/-- THE SECOND FORM's CARD OF 'pannierlaw20.AskOne'. -/
def askOneUptoCard : Claim7 := { stood := { row := askOneUptoRow, standIns := [], harness := (true, "6cebe67d5e8480c3c71dc0f66d645ee2a306a0c609242833b1a86fbb438720cf"), looks := true }, kinds := [], alts := [], laidByText := true, laidKinds := [.data, .data, .data, .sentinel, .sentinel], laidTests := true, laidLooks := .later }
def AskOneUptoCardSaid : Prop := Claim7.holds Tryd.pinned (.plain (OpenSpec.upto askOneSpec)) askOneUptoCard

/-- THE SECOND FORM's CARD OF 'pannierlaw20.AskNumbers'. -/
def askNumbersUptoCard : Claim7 := { stood := { row := askNumbersUptoRow, standIns := [], harness := (true, "6cebe67d5e8480c3c71dc0f66d645ee2a306a0c609242833b1a86fbb438720cf"), looks := true }, kinds := [], alts := [], laidByText := true, laidKinds := [.data, .data, .data, .sentinel, .sentinel], laidTests := true, laidLooks := .later }
def AskNumbersUptoCardSaid : Prop := Claim7.holds Tryd.pinned (.plain (OpenSpec.upto askNumbersSpec)) askNumbersUptoCard

/-- THE SECOND FORM's CARD OF 'pannierlaw20.AskPaths'. -/
def askPathsUptoCard : Claim7 := { stood := { row := askPathsUptoRow, standIns := [], harness := (true, "6cebe67d5e8480c3c71dc0f66d645ee2a306a0c609242833b1a86fbb438720cf"), looks := true }, kinds := [], alts := [], laidByText := true, laidKinds := [.data, .data, .data, .sentinel, .sentinel], laidTests := true, laidLooks := .later }
def AskPathsUptoCardSaid : Prop := Claim7.holds Tryd.pinned (.plain (OpenSpec.upto askPathsSpec)) askPathsUptoCard

/-- THE SECOND FORM's CARD OF 'pannierlaw20.AskData'. -/
def askDataUptoCard : Claim7 := { stood := { row := askDataUptoRow, standIns := [], harness := (true, "6cebe67d5e8480c3c71dc0f66d645ee2a306a0c609242833b1a86fbb438720cf"), looks := true }, kinds := [], alts := [], laidByText := true, laidKinds := [.data, .data, .data, .sentinel, .sentinel], laidTests := true, laidLooks := .later }
def AskDataUptoCardSaid : Prop := Claim7.holds Tryd.pinned (.plain (OpenSpec.upto askDataSpec)) askDataUptoCard

/-- THE SECOND FORM's CARD OF 'pannierlaw20.AskLong'. -/
def askLongUptoCard : Claim7 := { stood := { row := askLongUptoRow, standIns := [], harness := (true, "6cebe67d5e8480c3c71dc0f66d645ee2a306a0c609242833b1a86fbb438720cf"), looks := true }, kinds := [], alts := [], laidByText := true, laidKinds := [.data, .data, .data, .sentinel, .sentinel], laidTests := true, laidLooks := .later }
def AskLongUptoCardSaid : Prop := Claim7.holds Tryd.pinned (.plain (OpenSpec.upto askLongSpec)) askLongUptoCard
end Rows
end Go.Proofs.YtbkhhmgpfjemcaaDoor
