/-
  DERIVED. GIVEN WITH THE SEED: THE CARDS: each row of YtnhffkdabdilpaaDoorRows.lean that lists a variable, with what it lists TIED to the program's text (the seventh form; the later family's looks); each row that meets fmt, with fmt's text TOLD by the authors' own Lean function (tested against real Go, not proved from fmt's source: count such statements apart). THE CARD IS WHAT COUNTS. Prove the row's statement (the work); the ties are given (YtnhffkdabdilpaaDoorTie.lean); close each card by the builder's one call (the guide's Derived/Test/ToyasCard.lean, 'card_holds'). Laid BY PROGRAM, IN A SANDBOX (cutbox-door.mjs). By AI agents, Wed Nov 11 2026. No macro, syntax, notation, axiom, sorry.
-/
import Derived.Test.YtnhffkdabdilpaaDoorRows
import GoSem.ClaimSeven
namespace Go.Proofs.YtnhffkdabdilpaaDoor
namespace Rows

/-- THE TIED CARD OF 'pannierlaw01.FaultWraps'. -/
def faultWrapsCard : Claim7 := { stood := { row := faultWrapsRow, standIns := [], harness := (true, "b37f6c6a62dac51f6a54092c1bf3a139dcf8d68e71df67d326d94d52bd11b587"), looks := true }, kinds := [], alts := [], laidByText := true, laidKinds := [.handle], laidTests := true, laidLooks := .later }
def FaultWrapsCardSaid : Prop := Claim7.holds Tryd.pinned (.plain (OpenSpec.ofChange faultWrapsSpec)) faultWrapsCard

/-- THE TIED CARD OF 'pannierlaw01.FaultPlain'. -/
def faultPlainCard : Claim7 := { stood := { row := faultPlainRow, standIns := [], harness := (true, "b37f6c6a62dac51f6a54092c1bf3a139dcf8d68e71df67d326d94d52bd11b587"), looks := true }, kinds := [], alts := [], laidByText := true, laidKinds := [.handle], laidTests := true, laidLooks := .later }
def FaultPlainCardSaid : Prop := Claim7.holds Tryd.pinned (.plain (OpenSpec.ofChange faultPlainSpec)) faultPlainCard

/-- THE TIED CARD OF 'pannierlaw01.FaultDeep'. -/
def faultDeepCard : Claim7 := { stood := { row := faultDeepRow, standIns := [], harness := (true, "b37f6c6a62dac51f6a54092c1bf3a139dcf8d68e71df67d326d94d52bd11b587"), looks := true }, kinds := [], alts := [], laidByText := true, laidKinds := [.handle], laidTests := true, laidLooks := .later }
def FaultDeepCardSaid : Prop := Claim7.holds Tryd.pinned (.plain (OpenSpec.ofChange faultDeepSpec)) faultDeepCard

/-- THE TIED CARD OF 'pannierlaw01.FaultApart'. -/
def faultApartCard : Claim7 := { stood := { row := faultApartRow, standIns := [], harness := (true, "b37f6c6a62dac51f6a54092c1bf3a139dcf8d68e71df67d326d94d52bd11b587"), looks := true }, kinds := [], alts := [], laidByText := true, laidKinds := [.handle], laidTests := true, laidLooks := .later }
def FaultApartCardSaid : Prop := Claim7.holds Tryd.pinned (.plain (OpenSpec.ofChange faultApartSpec)) faultApartCard

/-- THE TIED CARD OF 'pannierlaw01.FaultFirst'. -/
def faultFirstCard : Claim7 := { stood := { row := faultFirstRow, standIns := [], harness := (true, "b37f6c6a62dac51f6a54092c1bf3a139dcf8d68e71df67d326d94d52bd11b587"), looks := true }, kinds := [], alts := [], laidByText := true, laidKinds := [.handle], laidTests := true, laidLooks := .later }
def FaultFirstCardSaid : Prop := Claim7.holds Tryd.pinned (.plain (OpenSpec.ofChange faultFirstSpec)) faultFirstCard

/-- THE TIED CARD OF 'pannierlaw01.FaultWords'. -/
def faultWordsCard : Claim7 := { stood := { row := faultWordsRow, standIns := [], harness := (true, "b37f6c6a62dac51f6a54092c1bf3a139dcf8d68e71df67d326d94d52bd11b587"), looks := true }, kinds := [], alts := [], laidByText := true, laidKinds := [.data, .data, .data, .handle], laidTests := true, laidLooks := .later }
def FaultWordsCardSaid : Prop := Claim7.holds Tryd.pinned (.plain (OpenSpec.ofChange faultWordsSpec)) faultWordsCard

/-- THE SECOND FORM's CARD OF 'pannierlaw01.FaultWraps'. -/
def faultWrapsUptoCard : Claim7 := { stood := { row := faultWrapsUptoRow, standIns := [], harness := (true, "b37f6c6a62dac51f6a54092c1bf3a139dcf8d68e71df67d326d94d52bd11b587"), looks := true }, kinds := [], alts := [], laidByText := true, laidKinds := [.handle], laidTests := true, laidLooks := .later }
def FaultWrapsUptoCardSaid : Prop := Claim7.holds Tryd.pinned (.plain (OpenSpec.upto faultWrapsSpec)) faultWrapsUptoCard

/-- THE SECOND FORM's CARD OF 'pannierlaw01.FaultPlain'. -/
def faultPlainUptoCard : Claim7 := { stood := { row := faultPlainUptoRow, standIns := [], harness := (true, "b37f6c6a62dac51f6a54092c1bf3a139dcf8d68e71df67d326d94d52bd11b587"), looks := true }, kinds := [], alts := [], laidByText := true, laidKinds := [.handle], laidTests := true, laidLooks := .later }
def FaultPlainUptoCardSaid : Prop := Claim7.holds Tryd.pinned (.plain (OpenSpec.upto faultPlainSpec)) faultPlainUptoCard

/-- THE SECOND FORM's CARD OF 'pannierlaw01.FaultDeep'. -/
def faultDeepUptoCard : Claim7 := { stood := { row := faultDeepUptoRow, standIns := [], harness := (true, "b37f6c6a62dac51f6a54092c1bf3a139dcf8d68e71df67d326d94d52bd11b587"), looks := true }, kinds := [], alts := [], laidByText := true, laidKinds := [.handle], laidTests := true, laidLooks := .later }
def FaultDeepUptoCardSaid : Prop := Claim7.holds Tryd.pinned (.plain (OpenSpec.upto faultDeepSpec)) faultDeepUptoCard

/-- THE SECOND FORM's CARD OF 'pannierlaw01.FaultApart'. -/
def faultApartUptoCard : Claim7 := { stood := { row := faultApartUptoRow, standIns := [], harness := (true, "b37f6c6a62dac51f6a54092c1bf3a139dcf8d68e71df67d326d94d52bd11b587"), looks := true }, kinds := [], alts := [], laidByText := true, laidKinds := [.handle], laidTests := true, laidLooks := .later }
def FaultApartUptoCardSaid : Prop := Claim7.holds Tryd.pinned (.plain (OpenSpec.upto faultApartSpec)) faultApartUptoCard

/-- THE SECOND FORM's CARD OF 'pannierlaw01.FaultFirst'. -/
def faultFirstUptoCard : Claim7 := { stood := { row := faultFirstUptoRow, standIns := [], harness := (true, "b37f6c6a62dac51f6a54092c1bf3a139dcf8d68e71df67d326d94d52bd11b587"), looks := true }, kinds := [], alts := [], laidByText := true, laidKinds := [.handle], laidTests := true, laidLooks := .later }
def FaultFirstUptoCardSaid : Prop := Claim7.holds Tryd.pinned (.plain (OpenSpec.upto faultFirstSpec)) faultFirstUptoCard

/-- THE SECOND FORM's CARD OF 'pannierlaw01.FaultWords'. -/
def faultWordsUptoCard : Claim7 := { stood := { row := faultWordsUptoRow, standIns := [], harness := (true, "b37f6c6a62dac51f6a54092c1bf3a139dcf8d68e71df67d326d94d52bd11b587"), looks := true }, kinds := [], alts := [], laidByText := true, laidKinds := [.data, .data, .data, .handle], laidTests := true, laidLooks := .later }
def FaultWordsUptoCardSaid : Prop := Claim7.holds Tryd.pinned (.plain (OpenSpec.upto faultWordsSpec)) faultWordsUptoCard
end Rows
end Go.Proofs.YtnhffkdabdilpaaDoor
