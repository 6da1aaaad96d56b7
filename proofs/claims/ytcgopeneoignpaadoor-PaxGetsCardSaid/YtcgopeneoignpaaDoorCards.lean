/-
  DERIVED. GIVEN WITH THE SEED: THE CARDS: each row of YtcgopeneoignpaaDoorRows.lean that lists a variable, with what it lists TIED to the program's text (the seventh form; the later family's looks); each row that meets fmt, with fmt's text TOLD by the authors' own Lean function (tested against real Go, not proved from fmt's source: count such statements apart). THE CARD IS WHAT COUNTS. Prove the row's statement (the work); the ties are given (YtcgopeneoignpaaDoorTie.lean); close each card by the builder's one call (the guide's Derived/Test/ToyasCard.lean, 'card_holds'). Laid BY PROGRAM, IN A SANDBOX (cutbox-door.mjs). By AI agents, Wed Nov 11 2026. No macro, syntax, notation, axiom, sorry.
-/
import Derived.Test.YtcgopeneoignpaaDoorRows
import GoSem.ClaimSeven
namespace Go.Proofs.YtcgopeneoignpaaDoor
namespace Rows

/-- THE TIED CARD OF 'pannierlaw09.EntryMakes'. -/
def entryMakesCard : Claim7 := { stood := { row := entryMakesRow, standIns := [], harness := (true, "b6da949031b144462ea131fa95ca96ff1219a4787f01ced65e5be67e45bde7cc"), looks := true }, kinds := [], alts := [], laidByText := true, laidKinds := [.data, .data, .data, .sentinel, .sentinel], laidTests := true, laidLooks := .later }
def EntryMakesCardSaid : Prop := Claim7.holds Tryd.pinned (.plain (OpenSpec.ofChange entryMakesSpec)) entryMakesCard

/-- THE TIED CARD OF 'pannierlaw09.EntryOrder'. -/
def entryOrderCard : Claim7 := { stood := { row := entryOrderRow, standIns := [], harness := (true, "b6da949031b144462ea131fa95ca96ff1219a4787f01ced65e5be67e45bde7cc"), looks := true }, kinds := [], alts := [], laidByText := true, laidKinds := [.data, .data, .data, .sentinel, .sentinel], laidTests := true, laidLooks := .later }
def EntryOrderCardSaid : Prop := Claim7.holds Tryd.pinned (.plain (OpenSpec.ofChange entryOrderSpec)) entryOrderCard

/-- THE TIED CARD OF 'pannierlaw09.EntryPads'. -/
def entryPadsCard : Claim7 := { stood := { row := entryPadsRow, standIns := [], harness := (true, "b6da949031b144462ea131fa95ca96ff1219a4787f01ced65e5be67e45bde7cc"), looks := true }, kinds := [], alts := [], laidByText := true, laidKinds := [.data, .data, .data, .sentinel, .sentinel], laidTests := true, laidLooks := .later }
def EntryPadsCardSaid : Prop := Claim7.holds Tryd.pinned (.plain (OpenSpec.ofChange entryPadsSpec)) entryPadsCard

/-- THE TIED CARD OF 'pannierlaw09.EntryNumbers'. -/
def entryNumbersCard : Claim7 := { stood := { row := entryNumbersRow, standIns := [], harness := (true, "b6da949031b144462ea131fa95ca96ff1219a4787f01ced65e5be67e45bde7cc"), looks := true }, kinds := [], alts := [], laidByText := true, laidKinds := [.data, .data, .data, .sentinel, .sentinel], laidTests := true, laidLooks := .later }
def EntryNumbersCardSaid : Prop := Claim7.holds Tryd.pinned (.plain (OpenSpec.ofChange entryNumbersSpec)) entryNumbersCard

/-- THE TIED CARD OF 'pannierlaw09.EntryKinds'. -/
def entryKindsCard : Claim7 := { stood := { row := entryKindsRow, standIns := [], harness := (true, "b6da949031b144462ea131fa95ca96ff1219a4787f01ced65e5be67e45bde7cc"), looks := true }, kinds := [], alts := [], laidByText := true, laidKinds := [.data, .data, .data, .sentinel, .sentinel], laidTests := true, laidLooks := .later }
def EntryKindsCardSaid : Prop := Claim7.holds Tryd.pinned (.plain (OpenSpec.ofChange entryKindsSpec)) entryKindsCard

/-- THE TIED CARD OF 'pannierlaw09.EntryOld'. -/
def entryOldCard : Claim7 := { stood := { row := entryOldRow, standIns := [], harness := (true, "b6da949031b144462ea131fa95ca96ff1219a4787f01ced65e5be67e45bde7cc"), looks := true }, kinds := [], alts := [], laidByText := true, laidKinds := [.data, .data, .data, .sentinel, .sentinel], laidTests := true, laidLooks := .later }
def EntryOldCardSaid : Prop := Claim7.holds Tryd.pinned (.plain (OpenSpec.ofChange entryOldSpec)) entryOldCard

/-- THE TIED CARD OF 'pannierlaw07.PaxGets'. -/
def paxGetsCard : Claim7 := { stood := { row := paxGetsRow, standIns := [], harness := (true, "b6da949031b144462ea131fa95ca96ff1219a4787f01ced65e5be67e45bde7cc"), looks := true }, kinds := [], alts := [], laidByText := true, laidKinds := [.data, .data, .data, .sentinel, .sentinel], laidTests := true, laidLooks := .later }
def PaxGetsCardSaid : Prop := Claim7.holds Tryd.pinned (.plain (OpenSpec.ofChange paxGetsSpec)) paxGetsCard

/-- THE TIED CARD OF 'pannierlaw07.PaxLengths'. -/
def paxLengthsCard : Claim7 := { stood := { row := paxLengthsRow, standIns := [], harness := (true, "b6da949031b144462ea131fa95ca96ff1219a4787f01ced65e5be67e45bde7cc"), looks := true }, kinds := [], alts := [], laidByText := true, laidKinds := [.data, .data, .data, .sentinel, .sentinel], laidTests := true, laidLooks := .later }
def PaxLengthsCardSaid : Prop := Claim7.holds Tryd.pinned (.plain (OpenSpec.ofChange paxLengthsSpec)) paxLengthsCard

/-- THE TIED CARD OF 'pannierlaw07.PaxRows'. -/
def paxRowsCard : Claim7 := { stood := { row := paxRowsRow, standIns := [], harness := (true, "b6da949031b144462ea131fa95ca96ff1219a4787f01ced65e5be67e45bde7cc"), looks := true }, kinds := [], alts := [], laidByText := true, laidKinds := [.data, .data, .data, .sentinel, .sentinel], laidTests := true, laidLooks := .later }
def PaxRowsCardSaid : Prop := Claim7.holds Tryd.pinned (.plain (OpenSpec.ofChange paxRowsSpec)) paxRowsCard

/-- THE TIED CARD OF 'pannierlaw07.PaxChecks'. -/
def paxChecksCard : Claim7 := { stood := { row := paxChecksRow, standIns := [], harness := (true, "b6da949031b144462ea131fa95ca96ff1219a4787f01ced65e5be67e45bde7cc"), looks := true }, kinds := [], alts := [], laidByText := true, laidKinds := [.data, .data, .data, .sentinel, .sentinel], laidTests := true, laidLooks := .later }
def PaxChecksCardSaid : Prop := Claim7.holds Tryd.pinned (.plain (OpenSpec.ofChange paxChecksSpec)) paxChecksCard

/-- THE TIED CARD OF 'pannierlaw07.PaxMany'. -/
def paxManyCard : Claim7 := { stood := { row := paxManyRow, standIns := [], harness := (true, "b6da949031b144462ea131fa95ca96ff1219a4787f01ced65e5be67e45bde7cc"), looks := true }, kinds := [], alts := [], laidByText := true, laidKinds := [.data, .data, .data, .sentinel, .sentinel], laidTests := true, laidLooks := .later }
def PaxManyCardSaid : Prop := Claim7.holds Tryd.pinned (.plain (OpenSpec.ofChange paxManySpec)) paxManyCard

/-- THE TIED CARD OF 'pannierlaw07.PaxNumbers'. -/
def paxNumbersCard : Claim7 := { stood := { row := paxNumbersRow, standIns := [], harness := (true, "b6da949031b144462ea131fa95ca96ff1219a4787f01ced65e5be67e45bde7cc"), looks := true }, kinds := [], alts := [], laidByText := true, laidKinds := [.data, .data, .data, .sentinel, .sentinel], laidTests := true, laidLooks := .later }
def PaxNumbersCardSaid : Prop := Claim7.holds Tryd.pinned (.plain (OpenSpec.ofChange paxNumbersSpec)) paxNumbersCard

/-- THE TIED CARD OF 'pannierlaw18.EmitPlain'. -/
def emitPlainCard : Claim7 := { stood := { row := emitPlainRow, standIns := [], harness := (true, "b6da949031b144462ea131fa95ca96ff1219a4787f01ced65e5be67e45bde7cc"), looks := true }, kinds := [], alts := [], laidByText := true, laidKinds := [.data, .data, .data], laidTests := true, laidLooks := .later }
def EmitPlainCardSaid : Prop := Claim7.holds Tryd.pinned (.plain (OpenSpec.ofChange emitPlainSpec)) emitPlainCard

/-- THE TIED CARD OF 'pannierlaw18.EmitOne'. -/
def emitOneCard : Claim7 := { stood := { row := emitOneRow, standIns := [], harness := (true, "b6da949031b144462ea131fa95ca96ff1219a4787f01ced65e5be67e45bde7cc"), looks := true }, kinds := [], alts := [], laidByText := true, laidKinds := [.data, .data, .data], laidTests := true, laidLooks := .later }
def EmitOneCardSaid : Prop := Claim7.holds Tryd.pinned (.plain (OpenSpec.ofChange emitOneSpec)) emitOneCard

/-- THE TIED CARD OF 'pannierlaw18.EmitChecks'. -/
def emitChecksCard : Claim7 := { stood := { row := emitChecksRow, standIns := [], harness := (true, "b6da949031b144462ea131fa95ca96ff1219a4787f01ced65e5be67e45bde7cc"), looks := true }, kinds := [], alts := [], laidByText := true, laidKinds := [.data, .data, .data], laidTests := true, laidLooks := .later }
def EmitChecksCardSaid : Prop := Claim7.holds Tryd.pinned (.plain (OpenSpec.ofChange emitChecksSpec)) emitChecksCard

/-- THE SECOND FORM's CARD OF 'pannierlaw09.EntryMakes'. -/
def entryMakesUptoCard : Claim7 := { stood := { row := entryMakesUptoRow, standIns := [], harness := (true, "b6da949031b144462ea131fa95ca96ff1219a4787f01ced65e5be67e45bde7cc"), looks := true }, kinds := [], alts := [], laidByText := true, laidKinds := [.data, .data, .data, .sentinel, .sentinel], laidTests := true, laidLooks := .later }
def EntryMakesUptoCardSaid : Prop := Claim7.holds Tryd.pinned (.plain (OpenSpec.upto entryMakesSpec)) entryMakesUptoCard

/-- THE SECOND FORM's CARD OF 'pannierlaw09.EntryOrder'. -/
def entryOrderUptoCard : Claim7 := { stood := { row := entryOrderUptoRow, standIns := [], harness := (true, "b6da949031b144462ea131fa95ca96ff1219a4787f01ced65e5be67e45bde7cc"), looks := true }, kinds := [], alts := [], laidByText := true, laidKinds := [.data, .data, .data, .sentinel, .sentinel], laidTests := true, laidLooks := .later }
def EntryOrderUptoCardSaid : Prop := Claim7.holds Tryd.pinned (.plain (OpenSpec.upto entryOrderSpec)) entryOrderUptoCard

/-- THE SECOND FORM's CARD OF 'pannierlaw09.EntryPads'. -/
def entryPadsUptoCard : Claim7 := { stood := { row := entryPadsUptoRow, standIns := [], harness := (true, "b6da949031b144462ea131fa95ca96ff1219a4787f01ced65e5be67e45bde7cc"), looks := true }, kinds := [], alts := [], laidByText := true, laidKinds := [.data, .data, .data, .sentinel, .sentinel], laidTests := true, laidLooks := .later }
def EntryPadsUptoCardSaid : Prop := Claim7.holds Tryd.pinned (.plain (OpenSpec.upto entryPadsSpec)) entryPadsUptoCard

/-- THE SECOND FORM's CARD OF 'pannierlaw09.EntryNumbers'. -/
def entryNumbersUptoCard : Claim7 := { stood := { row := entryNumbersUptoRow, standIns := [], harness := (true, "b6da949031b144462ea131fa95ca96ff1219a4787f01ced65e5be67e45bde7cc"), looks := true }, kinds := [], alts := [], laidByText := true, laidKinds := [.data, .data, .data, .sentinel, .sentinel], laidTests := true, laidLooks := .later }
def EntryNumbersUptoCardSaid : Prop := Claim7.holds Tryd.pinned (.plain (OpenSpec.upto entryNumbersSpec)) entryNumbersUptoCard

/-- THE SECOND FORM's CARD OF 'pannierlaw09.EntryKinds'. -/
def entryKindsUptoCard : Claim7 := { stood := { row := entryKindsUptoRow, standIns := [], harness := (true, "b6da949031b144462ea131fa95ca96ff1219a4787f01ced65e5be67e45bde7cc"), looks := true }, kinds := [], alts := [], laidByText := true, laidKinds := [.data, .data, .data, .sentinel, .sentinel], laidTests := true, laidLooks := .later }
def EntryKindsUptoCardSaid : Prop := Claim7.holds Tryd.pinned (.plain (OpenSpec.upto entryKindsSpec)) entryKindsUptoCard

/-- THE SECOND FORM's CARD OF 'pannierlaw09.EntryOld'. -/
def entryOldUptoCard : Claim7 := { stood := { row := entryOldUptoRow, standIns := [], harness := (true, "b6da949031b144462ea131fa95ca96ff1219a4787f01ced65e5be67e45bde7cc"), looks := true }, kinds := [], alts := [], laidByText := true, laidKinds := [.data, .data, .data, .sentinel, .sentinel], laidTests := true, laidLooks := .later }
def EntryOldUptoCardSaid : Prop := Claim7.holds Tryd.pinned (.plain (OpenSpec.upto entryOldSpec)) entryOldUptoCard

/-- THE SECOND FORM's CARD OF 'pannierlaw07.PaxGets'. -/
def paxGetsUptoCard : Claim7 := { stood := { row := paxGetsUptoRow, standIns := [], harness := (true, "b6da949031b144462ea131fa95ca96ff1219a4787f01ced65e5be67e45bde7cc"), looks := true }, kinds := [], alts := [], laidByText := true, laidKinds := [.data, .data, .data, .sentinel, .sentinel], laidTests := true, laidLooks := .later }
def PaxGetsUptoCardSaid : Prop := Claim7.holds Tryd.pinned (.plain (OpenSpec.upto paxGetsSpec)) paxGetsUptoCard

/-- THE SECOND FORM's CARD OF 'pannierlaw07.PaxLengths'. -/
def paxLengthsUptoCard : Claim7 := { stood := { row := paxLengthsUptoRow, standIns := [], harness := (true, "b6da949031b144462ea131fa95ca96ff1219a4787f01ced65e5be67e45bde7cc"), looks := true }, kinds := [], alts := [], laidByText := true, laidKinds := [.data, .data, .data, .sentinel, .sentinel], laidTests := true, laidLooks := .later }
def PaxLengthsUptoCardSaid : Prop := Claim7.holds Tryd.pinned (.plain (OpenSpec.upto paxLengthsSpec)) paxLengthsUptoCard

/-- THE SECOND FORM's CARD OF 'pannierlaw07.PaxRows'. -/
def paxRowsUptoCard : Claim7 := { stood := { row := paxRowsUptoRow, standIns := [], harness := (true, "b6da949031b144462ea131fa95ca96ff1219a4787f01ced65e5be67e45bde7cc"), looks := true }, kinds := [], alts := [], laidByText := true, laidKinds := [.data, .data, .data, .sentinel, .sentinel], laidTests := true, laidLooks := .later }
def PaxRowsUptoCardSaid : Prop := Claim7.holds Tryd.pinned (.plain (OpenSpec.upto paxRowsSpec)) paxRowsUptoCard

/-- THE SECOND FORM's CARD OF 'pannierlaw07.PaxChecks'. -/
def paxChecksUptoCard : Claim7 := { stood := { row := paxChecksUptoRow, standIns := [], harness := (true, "b6da949031b144462ea131fa95ca96ff1219a4787f01ced65e5be67e45bde7cc"), looks := true }, kinds := [], alts := [], laidByText := true, laidKinds := [.data, .data, .data, .sentinel, .sentinel], laidTests := true, laidLooks := .later }
def PaxChecksUptoCardSaid : Prop := Claim7.holds Tryd.pinned (.plain (OpenSpec.upto paxChecksSpec)) paxChecksUptoCard

/-- THE SECOND FORM's CARD OF 'pannierlaw07.PaxMany'. -/
def paxManyUptoCard : Claim7 := { stood := { row := paxManyUptoRow, standIns := [], harness := (true, "b6da949031b144462ea131fa95ca96ff1219a4787f01ced65e5be67e45bde7cc"), looks := true }, kinds := [], alts := [], laidByText := true, laidKinds := [.data, .data, .data, .sentinel, .sentinel], laidTests := true, laidLooks := .later }
def PaxManyUptoCardSaid : Prop := Claim7.holds Tryd.pinned (.plain (OpenSpec.upto paxManySpec)) paxManyUptoCard

/-- THE SECOND FORM's CARD OF 'pannierlaw07.PaxNumbers'. -/
def paxNumbersUptoCard : Claim7 := { stood := { row := paxNumbersUptoRow, standIns := [], harness := (true, "b6da949031b144462ea131fa95ca96ff1219a4787f01ced65e5be67e45bde7cc"), looks := true }, kinds := [], alts := [], laidByText := true, laidKinds := [.data, .data, .data, .sentinel, .sentinel], laidTests := true, laidLooks := .later }
def PaxNumbersUptoCardSaid : Prop := Claim7.holds Tryd.pinned (.plain (OpenSpec.upto paxNumbersSpec)) paxNumbersUptoCard

/-- THE SECOND FORM's CARD OF 'pannierlaw18.EmitPlain'. -/
def emitPlainUptoCard : Claim7 := { stood := { row := emitPlainUptoRow, standIns := [], harness := (true, "b6da949031b144462ea131fa95ca96ff1219a4787f01ced65e5be67e45bde7cc"), looks := true }, kinds := [], alts := [], laidByText := true, laidKinds := [.data, .data, .data], laidTests := true, laidLooks := .later }
def EmitPlainUptoCardSaid : Prop := Claim7.holds Tryd.pinned (.plain (OpenSpec.upto emitPlainSpec)) emitPlainUptoCard

/-- THE SECOND FORM's CARD OF 'pannierlaw18.EmitOne'. -/
def emitOneUptoCard : Claim7 := { stood := { row := emitOneUptoRow, standIns := [], harness := (true, "b6da949031b144462ea131fa95ca96ff1219a4787f01ced65e5be67e45bde7cc"), looks := true }, kinds := [], alts := [], laidByText := true, laidKinds := [.data, .data, .data], laidTests := true, laidLooks := .later }
def EmitOneUptoCardSaid : Prop := Claim7.holds Tryd.pinned (.plain (OpenSpec.upto emitOneSpec)) emitOneUptoCard

/-- THE SECOND FORM's CARD OF 'pannierlaw18.EmitChecks'. -/
def emitChecksUptoCard : Claim7 := { stood := { row := emitChecksUptoRow, standIns := [], harness := (true, "b6da949031b144462ea131fa95ca96ff1219a4787f01ced65e5be67e45bde7cc"), looks := true }, kinds := [], alts := [], laidByText := true, laidKinds := [.data, .data, .data], laidTests := true, laidLooks := .later }
def EmitChecksUptoCardSaid : Prop := Claim7.holds Tryd.pinned (.plain (OpenSpec.upto emitChecksSpec)) emitChecksUptoCard
end Rows
end Go.Proofs.YtcgopeneoignpaaDoor
