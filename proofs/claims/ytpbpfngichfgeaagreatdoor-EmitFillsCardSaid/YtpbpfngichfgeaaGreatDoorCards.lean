/-
  DERIVED. GIVEN WITH THE SEED: THE CARDS: each row of YtpbpfngichfgeaaGreatDoorRows.lean that lists a variable, with what it lists TIED to the program's text (the seventh form; the later family's looks); each row that meets fmt, with fmt's text TOLD by the authors' own Lean function (tested against real Go, not proved from fmt's source: count such statements apart). THE CARD IS WHAT COUNTS. Prove the row's statement (the work); the ties are given (YtpbpfngichfgeaaGreatDoorTie.lean); close each card by the builder's one call (the guide's Derived/Test/ToyasCard.lean, 'card_holds'). Laid BY PROGRAM, IN A SANDBOX (cutbox-door.mjs). By AI agents, Wed Nov 11 2026. No macro, syntax, notation, axiom, sorry.
-/
import Derived.Test.YtpbpfngichfgeaaGreatDoorRows
import GoSem.ClaimSeven
namespace Go.Proofs.YtpbpfngichfgeaaGreatDoor
namespace Rows

/-- THE TIED CARD OF 'panniertop.WholeStream'. -/
def wholeStreamCard : Claim7 := { stood := { row := wholeStreamRow, standIns := [], harness := (true, "46c9109eeb91d63fe6636a31d3b409b185815ffabc9876e92d510a2ccc013f3f"), looks := true }, kinds := [], alts := [], laidByText := true, laidKinds := [.data, .data, .data, .handle, .sentinel, .sentinel], laidTests := true, laidLooks := .later }
def WholeStreamCardSaid : Prop := Claim7.holds Tryz.pinned (.plain (OpenSpec.ofChange wholeStreamSpec)) wholeStreamCard

/-- THE TIED CARD OF 'pannierlaw12.PushReads'. -/
def pushReadsCard : Claim7 := { stood := { row := pushReadsRow, standIns := [], harness := (true, "46c9109eeb91d63fe6636a31d3b409b185815ffabc9876e92d510a2ccc013f3f"), looks := true }, kinds := [], alts := [], laidByText := true, laidKinds := [.data, .data, .data, .handle, .sentinel, .sentinel], laidTests := true, laidLooks := .later }
def PushReadsCardSaid : Prop := Claim7.holds Tryz.pinned (.plain (OpenSpec.ofChange pushReadsSpec)) pushReadsCard

/-- THE TIED CARD OF 'pannierlaw12.PushPieces'. -/
def pushPiecesCard : Claim7 := { stood := { row := pushPiecesRow, standIns := [], harness := (true, "46c9109eeb91d63fe6636a31d3b409b185815ffabc9876e92d510a2ccc013f3f"), looks := true }, kinds := [], alts := [], laidByText := true, laidKinds := [.data, .data, .data, .handle, .sentinel, .sentinel], laidTests := true, laidLooks := .later }
def PushPiecesCardSaid : Prop := Claim7.holds Tryz.pinned (.plain (OpenSpec.ofChange pushPiecesSpec)) pushPiecesCard

/-- THE TIED CARD OF 'pannierlaw12.PushEnds'. -/
def pushEndsCard : Claim7 := { stood := { row := pushEndsRow, standIns := [], harness := (true, "46c9109eeb91d63fe6636a31d3b409b185815ffabc9876e92d510a2ccc013f3f"), looks := true }, kinds := [], alts := [], laidByText := true, laidKinds := [.data, .data, .data, .handle, .sentinel, .sentinel], laidTests := true, laidLooks := .later }
def PushEndsCardSaid : Prop := Claim7.holds Tryz.pinned (.plain (OpenSpec.ofChange pushEndsSpec)) pushEndsCard

/-- THE TIED CARD OF 'pannierlaw12.PushBytes'. -/
def pushBytesCard : Claim7 := { stood := { row := pushBytesRow, standIns := [], harness := (true, "46c9109eeb91d63fe6636a31d3b409b185815ffabc9876e92d510a2ccc013f3f"), looks := true }, kinds := [], alts := [], laidByText := true, laidKinds := [.data, .data, .data, .handle, .sentinel, .sentinel], laidTests := true, laidLooks := .later }
def PushBytesCardSaid : Prop := Claim7.holds Tryz.pinned (.plain (OpenSpec.ofChange pushBytesSpec)) pushBytesCard

/-- THE TIED CARD OF 'pannierlaw12.PushStays'. -/
def pushStaysCard : Claim7 := { stood := { row := pushStaysRow, standIns := [], harness := (true, "46c9109eeb91d63fe6636a31d3b409b185815ffabc9876e92d510a2ccc013f3f"), looks := true }, kinds := [], alts := [], laidByText := true, laidKinds := [.data, .data, .data, .handle, .sentinel, .sentinel], laidTests := true, laidLooks := .later }
def PushStaysCardSaid : Prop := Claim7.holds Tryz.pinned (.plain (OpenSpec.ofChange pushStaysSpec)) pushStaysCard

/-- THE TIED CARD OF 'pannierlaw12.PushMeta'. -/
def pushMetaCard : Claim7 := { stood := { row := pushMetaRow, standIns := [], harness := (true, "46c9109eeb91d63fe6636a31d3b409b185815ffabc9876e92d510a2ccc013f3f"), looks := true }, kinds := [], alts := [], laidByText := true, laidKinds := [.data, .data, .data, .handle, .sentinel, .sentinel], laidTests := true, laidLooks := .later }
def PushMetaCardSaid : Prop := Claim7.holds Tryz.pinned (.plain (OpenSpec.ofChange pushMetaSpec)) pushMetaCard

/-- THE TIED CARD OF 'pannierlaw12.PushGlobal'. -/
def pushGlobalCard : Claim7 := { stood := { row := pushGlobalRow, standIns := [], harness := (true, "46c9109eeb91d63fe6636a31d3b409b185815ffabc9876e92d510a2ccc013f3f"), looks := true }, kinds := [], alts := [], laidByText := true, laidKinds := [.data, .data, .data, .handle, .sentinel, .sentinel], laidTests := true, laidLooks := .later }
def PushGlobalCardSaid : Prop := Claim7.holds Tryz.pinned (.plain (OpenSpec.ofChange pushGlobalSpec)) pushGlobalCard

/-- THE TIED CARD OF 'pannierlaw18.EmitFills'. -/
def emitFillsCard : Claim7 := { stood := { row := emitFillsRow, standIns := [], harness := (true, "46c9109eeb91d63fe6636a31d3b409b185815ffabc9876e92d510a2ccc013f3f"), looks := true }, kinds := [], alts := [], laidByText := true, laidKinds := [.data, .data, .data, .handle, .sentinel, .sentinel], laidTests := true, laidLooks := .later }
def EmitFillsCardSaid : Prop := Claim7.holds Tryz.pinned (.plain (OpenSpec.ofChange emitFillsSpec)) emitFillsCard

/-- THE SECOND FORM's CARD OF 'panniertop.WholeStream'. -/
def wholeStreamUptoCard : Claim7 := { stood := { row := wholeStreamUptoRow, standIns := [], harness := (true, "46c9109eeb91d63fe6636a31d3b409b185815ffabc9876e92d510a2ccc013f3f"), looks := true }, kinds := [], alts := [], laidByText := true, laidKinds := [.data, .data, .data, .handle, .sentinel, .sentinel], laidTests := true, laidLooks := .later }
def WholeStreamUptoCardSaid : Prop := Claim7.holds Tryz.pinned (.plain (OpenSpec.upto wholeStreamSpec)) wholeStreamUptoCard

/-- THE SECOND FORM's CARD OF 'pannierlaw12.PushReads'. -/
def pushReadsUptoCard : Claim7 := { stood := { row := pushReadsUptoRow, standIns := [], harness := (true, "46c9109eeb91d63fe6636a31d3b409b185815ffabc9876e92d510a2ccc013f3f"), looks := true }, kinds := [], alts := [], laidByText := true, laidKinds := [.data, .data, .data, .handle, .sentinel, .sentinel], laidTests := true, laidLooks := .later }
def PushReadsUptoCardSaid : Prop := Claim7.holds Tryz.pinned (.plain (OpenSpec.upto pushReadsSpec)) pushReadsUptoCard

/-- THE SECOND FORM's CARD OF 'pannierlaw12.PushPieces'. -/
def pushPiecesUptoCard : Claim7 := { stood := { row := pushPiecesUptoRow, standIns := [], harness := (true, "46c9109eeb91d63fe6636a31d3b409b185815ffabc9876e92d510a2ccc013f3f"), looks := true }, kinds := [], alts := [], laidByText := true, laidKinds := [.data, .data, .data, .handle, .sentinel, .sentinel], laidTests := true, laidLooks := .later }
def PushPiecesUptoCardSaid : Prop := Claim7.holds Tryz.pinned (.plain (OpenSpec.upto pushPiecesSpec)) pushPiecesUptoCard

/-- THE SECOND FORM's CARD OF 'pannierlaw12.PushEnds'. -/
def pushEndsUptoCard : Claim7 := { stood := { row := pushEndsUptoRow, standIns := [], harness := (true, "46c9109eeb91d63fe6636a31d3b409b185815ffabc9876e92d510a2ccc013f3f"), looks := true }, kinds := [], alts := [], laidByText := true, laidKinds := [.data, .data, .data, .handle, .sentinel, .sentinel], laidTests := true, laidLooks := .later }
def PushEndsUptoCardSaid : Prop := Claim7.holds Tryz.pinned (.plain (OpenSpec.upto pushEndsSpec)) pushEndsUptoCard

/-- THE SECOND FORM's CARD OF 'pannierlaw12.PushBytes'. -/
def pushBytesUptoCard : Claim7 := { stood := { row := pushBytesUptoRow, standIns := [], harness := (true, "46c9109eeb91d63fe6636a31d3b409b185815ffabc9876e92d510a2ccc013f3f"), looks := true }, kinds := [], alts := [], laidByText := true, laidKinds := [.data, .data, .data, .handle, .sentinel, .sentinel], laidTests := true, laidLooks := .later }
def PushBytesUptoCardSaid : Prop := Claim7.holds Tryz.pinned (.plain (OpenSpec.upto pushBytesSpec)) pushBytesUptoCard

/-- THE SECOND FORM's CARD OF 'pannierlaw12.PushStays'. -/
def pushStaysUptoCard : Claim7 := { stood := { row := pushStaysUptoRow, standIns := [], harness := (true, "46c9109eeb91d63fe6636a31d3b409b185815ffabc9876e92d510a2ccc013f3f"), looks := true }, kinds := [], alts := [], laidByText := true, laidKinds := [.data, .data, .data, .handle, .sentinel, .sentinel], laidTests := true, laidLooks := .later }
def PushStaysUptoCardSaid : Prop := Claim7.holds Tryz.pinned (.plain (OpenSpec.upto pushStaysSpec)) pushStaysUptoCard

/-- THE SECOND FORM's CARD OF 'pannierlaw12.PushMeta'. -/
def pushMetaUptoCard : Claim7 := { stood := { row := pushMetaUptoRow, standIns := [], harness := (true, "46c9109eeb91d63fe6636a31d3b409b185815ffabc9876e92d510a2ccc013f3f"), looks := true }, kinds := [], alts := [], laidByText := true, laidKinds := [.data, .data, .data, .handle, .sentinel, .sentinel], laidTests := true, laidLooks := .later }
def PushMetaUptoCardSaid : Prop := Claim7.holds Tryz.pinned (.plain (OpenSpec.upto pushMetaSpec)) pushMetaUptoCard

/-- THE SECOND FORM's CARD OF 'pannierlaw12.PushGlobal'. -/
def pushGlobalUptoCard : Claim7 := { stood := { row := pushGlobalUptoRow, standIns := [], harness := (true, "46c9109eeb91d63fe6636a31d3b409b185815ffabc9876e92d510a2ccc013f3f"), looks := true }, kinds := [], alts := [], laidByText := true, laidKinds := [.data, .data, .data, .handle, .sentinel, .sentinel], laidTests := true, laidLooks := .later }
def PushGlobalUptoCardSaid : Prop := Claim7.holds Tryz.pinned (.plain (OpenSpec.upto pushGlobalSpec)) pushGlobalUptoCard

/-- THE SECOND FORM's CARD OF 'pannierlaw18.EmitFills'. -/
def emitFillsUptoCard : Claim7 := { stood := { row := emitFillsUptoRow, standIns := [], harness := (true, "46c9109eeb91d63fe6636a31d3b409b185815ffabc9876e92d510a2ccc013f3f"), looks := true }, kinds := [], alts := [], laidByText := true, laidKinds := [.data, .data, .data, .handle, .sentinel, .sentinel], laidTests := true, laidLooks := .later }
def EmitFillsUptoCardSaid : Prop := Claim7.holds Tryz.pinned (.plain (OpenSpec.upto emitFillsSpec)) emitFillsUptoCard
end Rows
end Go.Proofs.YtpbpfngichfgeaaGreatDoor
