/-
  DERIVED. GIVEN WITH THE SEED: THE CARDS: each row of YtpbpfngichfgeaaDoorRows.lean that lists a variable, with what it lists TIED to the program's text (the seventh form; the later family's looks); each row that meets fmt, with fmt's text TOLD by the authors' own Lean function (tested against real Go, not proved from fmt's source: count such statements apart). THE CARD IS WHAT COUNTS. Prove the row's statement (the work); the ties are given (YtpbpfngichfgeaaDoorTie.lean); close each card by the builder's one call (the guide's Derived/Test/ToyasCard.lean, 'card_holds'). Laid BY PROGRAM, IN A SANDBOX (cutbox-door.mjs). By AI agents, Wed Nov 11 2026. No macro, syntax, notation, axiom, sorry.
-/
import Derived.Test.YtpbpfngichfgeaaDoorRows
import GoSem.ClaimSeven
namespace Go.Proofs.YtpbpfngichfgeaaDoor
namespace Rows

/-- THE TIED CARD OF 'pannierlaw18.EmitPlain'. -/
def emitPlainCard : Claim7 := { stood := { row := emitPlainRow, standIns := [], harness := (true, "743b80bd4e1161b6090b715e87dbfcc250c477ebb92b88b4f111462fc72ced07"), looks := false }, kinds := [], alts := [], laidByText := true, laidKinds := [.data, .data, .data], laidTests := true, laidLooks := .later }
def EmitPlainCardSaid : Prop := Claim7.holds Tryd.pinned (.plain (OpenSpec.ofChange emitPlainSpec)) emitPlainCard

/-- THE TIED CARD OF 'pannierlaw18.EmitOne'. -/
def emitOneCard : Claim7 := { stood := { row := emitOneRow, standIns := [], harness := (true, "743b80bd4e1161b6090b715e87dbfcc250c477ebb92b88b4f111462fc72ced07"), looks := false }, kinds := [], alts := [], laidByText := true, laidKinds := [.data, .data, .data], laidTests := true, laidLooks := .later }
def EmitOneCardSaid : Prop := Claim7.holds Tryd.pinned (.plain (OpenSpec.ofChange emitOneSpec)) emitOneCard

/-- THE TIED CARD OF 'pannierlaw18.EmitChecks'. -/
def emitChecksCard : Claim7 := { stood := { row := emitChecksRow, standIns := [], harness := (true, "743b80bd4e1161b6090b715e87dbfcc250c477ebb92b88b4f111462fc72ced07"), looks := false }, kinds := [], alts := [], laidByText := true, laidKinds := [.data, .data, .data], laidTests := true, laidLooks := .later }
def EmitChecksCardSaid : Prop := Claim7.holds Tryd.pinned (.plain (OpenSpec.ofChange emitChecksSpec)) emitChecksCard

/-- THE SECOND FORM's CARD OF 'pannierlaw18.EmitPlain'. -/
def emitPlainUptoCard : Claim7 := { stood := { row := emitPlainUptoRow, standIns := [], harness := (true, "743b80bd4e1161b6090b715e87dbfcc250c477ebb92b88b4f111462fc72ced07"), looks := false }, kinds := [], alts := [], laidByText := true, laidKinds := [.data, .data, .data], laidTests := true, laidLooks := .later }
def EmitPlainUptoCardSaid : Prop := Claim7.holds Tryd.pinned (.plain (OpenSpec.upto emitPlainSpec)) emitPlainUptoCard

/-- THE SECOND FORM's CARD OF 'pannierlaw18.EmitOne'. -/
def emitOneUptoCard : Claim7 := { stood := { row := emitOneUptoRow, standIns := [], harness := (true, "743b80bd4e1161b6090b715e87dbfcc250c477ebb92b88b4f111462fc72ced07"), looks := false }, kinds := [], alts := [], laidByText := true, laidKinds := [.data, .data, .data], laidTests := true, laidLooks := .later }
def EmitOneUptoCardSaid : Prop := Claim7.holds Tryd.pinned (.plain (OpenSpec.upto emitOneSpec)) emitOneUptoCard

/-- THE SECOND FORM's CARD OF 'pannierlaw18.EmitChecks'. -/
def emitChecksUptoCard : Claim7 := { stood := { row := emitChecksUptoRow, standIns := [], harness := (true, "743b80bd4e1161b6090b715e87dbfcc250c477ebb92b88b4f111462fc72ced07"), looks := false }, kinds := [], alts := [], laidByText := true, laidKinds := [.data, .data, .data], laidTests := true, laidLooks := .later }
def EmitChecksUptoCardSaid : Prop := Claim7.holds Tryd.pinned (.plain (OpenSpec.upto emitChecksSpec)) emitChecksUptoCard
end Rows
end Go.Proofs.YtpbpfngichfgeaaDoor
