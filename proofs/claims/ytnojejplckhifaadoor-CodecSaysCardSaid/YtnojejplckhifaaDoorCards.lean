/-
  DERIVED. GIVEN WITH THE SEED: THE CARDS: each row of YtnojejplckhifaaDoorRows.lean that lists a variable, with what it lists TIED to the program's text (the seventh form; the later family's looks); each row that meets fmt, with fmt's text TOLD by the authors' own Lean function (tested against real Go, not proved from fmt's source: count such statements apart). THE CARD IS WHAT COUNTS. Prove the row's statement (the work); the ties are given (YtnojejplckhifaaDoorTie.lean); close each card by the builder's one call (the guide's Derived/Test/ToyasCard.lean, 'card_holds'). Laid BY PROGRAM, IN A SANDBOX (cutbox-door.mjs). By AI agents, Wed Nov 11 2026. No macro, syntax, notation, axiom, sorry.
-/
import Derived.Test.YtnojejplckhifaaDoorRows
import GoSem.ClaimSeven
namespace Go.Proofs.YtnojejplckhifaaDoor
namespace Rows

/-- THE TIED CARD OF 'overdrivelaw4.CodecSays'. -/
def codecSaysCard : Claim7 := { stood := { row := codecSaysRow, standIns := [], harness := (true, "7836a2260ed9322e01ad06fdcb159a623eb2602dbf142d48117144d15c95f3da"), looks := true }, kinds := [], alts := [], laidByText := true, laidKinds := [.data, .sentinel, .sentinel, .sentinel, .sentinel, .sentinel, .sentinel, .sentinel, .sentinel, .sentinel, .sentinel, .sentinel, .sentinel, .sentinel, .sentinel, .pinned], laidTests := true, laidLooks := .later }
def CodecSaysCardSaid : Prop := Claim7.holds Tryd.pinned (.plain (OpenSpec.ofChange codecSaysSpec)) codecSaysCard

/-- THE TIED CARD OF 'overdrivelaw4.CodecBack'. -/
def codecBackCard : Claim7 := { stood := { row := codecBackRow, standIns := [], harness := (true, "7836a2260ed9322e01ad06fdcb159a623eb2602dbf142d48117144d15c95f3da"), looks := true }, kinds := [], alts := [], laidByText := true, laidKinds := [.data, .sentinel, .sentinel, .sentinel, .sentinel, .sentinel, .sentinel, .sentinel, .sentinel, .sentinel, .sentinel, .sentinel, .sentinel, .sentinel, .sentinel, .pinned], laidTests := true, laidLooks := .later }
def CodecBackCardSaid : Prop := Claim7.holds Tryd.pinned (.plain (OpenSpec.ofChange codecBackSpec)) codecBackCard

/-- THE TIED CARD OF 'overdrivelaw4.CodecCut'. -/
def codecCutCard : Claim7 := { stood := { row := codecCutRow, standIns := [], harness := (true, "7836a2260ed9322e01ad06fdcb159a623eb2602dbf142d48117144d15c95f3da"), looks := true }, kinds := [], alts := [], laidByText := true, laidKinds := [.data, .sentinel, .sentinel, .sentinel, .sentinel, .sentinel, .sentinel, .sentinel, .sentinel, .sentinel, .sentinel, .sentinel, .sentinel, .sentinel, .sentinel, .pinned], laidTests := true, laidLooks := .later }
def CodecCutCardSaid : Prop := Claim7.holds Tryd.pinned (.plain (OpenSpec.ofChange codecCutSpec)) codecCutCard

/-- THE TIED CARD OF 'overdrivelaw4.CodecConsts'. -/
def codecConstsCard : Claim7 := { stood := { row := codecConstsRow, standIns := [], harness := (true, "7836a2260ed9322e01ad06fdcb159a623eb2602dbf142d48117144d15c95f3da"), looks := true }, kinds := [], alts := [], laidByText := true, laidKinds := [.data, .sentinel, .sentinel, .sentinel, .sentinel, .sentinel, .sentinel, .sentinel, .sentinel, .sentinel, .sentinel, .sentinel, .sentinel, .sentinel, .sentinel, .pinned], laidTests := true, laidLooks := .later }
def CodecConstsCardSaid : Prop := Claim7.holds Tryd.pinned (.plain (OpenSpec.ofChange codecConstsSpec)) codecConstsCard

/-- THE TIED CARD OF 'overdrivelaw4.CodecHeads'. -/
def codecHeadsCard : Claim7 := { stood := { row := codecHeadsRow, standIns := [], harness := (true, "7836a2260ed9322e01ad06fdcb159a623eb2602dbf142d48117144d15c95f3da"), looks := true }, kinds := [], alts := [], laidByText := true, laidKinds := [.data, .sentinel, .sentinel, .sentinel, .sentinel, .sentinel, .sentinel, .sentinel, .sentinel, .sentinel, .sentinel, .sentinel, .sentinel, .sentinel, .sentinel, .pinned], laidTests := true, laidLooks := .later }
def CodecHeadsCardSaid : Prop := Claim7.holds Tryd.pinned (.plain (OpenSpec.ofChange codecHeadsSpec)) codecHeadsCard

/-- THE TIED CARD OF 'overdrivelaw4.CodecApart'. -/
def codecApartCard : Claim7 := { stood := { row := codecApartRow, standIns := [], harness := (true, "7836a2260ed9322e01ad06fdcb159a623eb2602dbf142d48117144d15c95f3da"), looks := true }, kinds := [], alts := [], laidByText := true, laidKinds := [.data, .sentinel, .sentinel, .sentinel, .sentinel, .sentinel, .sentinel, .sentinel, .sentinel, .sentinel, .sentinel, .sentinel, .sentinel, .sentinel, .sentinel, .pinned], laidTests := true, laidLooks := .later }
def CodecApartCardSaid : Prop := Claim7.holds Tryd.pinned (.plain (OpenSpec.ofChange codecApartSpec)) codecApartCard

/-- THE SECOND FORM's CARD OF 'overdrivelaw4.CodecSays'. -/
def codecSaysUptoCard : Claim7 := { stood := { row := codecSaysUptoRow, standIns := [], harness := (true, "7836a2260ed9322e01ad06fdcb159a623eb2602dbf142d48117144d15c95f3da"), looks := true }, kinds := [], alts := [], laidByText := true, laidKinds := [.data, .sentinel, .sentinel, .sentinel, .sentinel, .sentinel, .sentinel, .sentinel, .sentinel, .sentinel, .sentinel, .sentinel, .sentinel, .sentinel, .sentinel, .pinned], laidTests := true, laidLooks := .later }
def CodecSaysUptoCardSaid : Prop := Claim7.holds Tryd.pinned (.plain (OpenSpec.upto codecSaysSpec)) codecSaysUptoCard

/-- THE SECOND FORM's CARD OF 'overdrivelaw4.CodecBack'. -/
def codecBackUptoCard : Claim7 := { stood := { row := codecBackUptoRow, standIns := [], harness := (true, "7836a2260ed9322e01ad06fdcb159a623eb2602dbf142d48117144d15c95f3da"), looks := true }, kinds := [], alts := [], laidByText := true, laidKinds := [.data, .sentinel, .sentinel, .sentinel, .sentinel, .sentinel, .sentinel, .sentinel, .sentinel, .sentinel, .sentinel, .sentinel, .sentinel, .sentinel, .sentinel, .pinned], laidTests := true, laidLooks := .later }
def CodecBackUptoCardSaid : Prop := Claim7.holds Tryd.pinned (.plain (OpenSpec.upto codecBackSpec)) codecBackUptoCard

/-- THE SECOND FORM's CARD OF 'overdrivelaw4.CodecCut'. -/
def codecCutUptoCard : Claim7 := { stood := { row := codecCutUptoRow, standIns := [], harness := (true, "7836a2260ed9322e01ad06fdcb159a623eb2602dbf142d48117144d15c95f3da"), looks := true }, kinds := [], alts := [], laidByText := true, laidKinds := [.data, .sentinel, .sentinel, .sentinel, .sentinel, .sentinel, .sentinel, .sentinel, .sentinel, .sentinel, .sentinel, .sentinel, .sentinel, .sentinel, .sentinel, .pinned], laidTests := true, laidLooks := .later }
def CodecCutUptoCardSaid : Prop := Claim7.holds Tryd.pinned (.plain (OpenSpec.upto codecCutSpec)) codecCutUptoCard

/-- THE SECOND FORM's CARD OF 'overdrivelaw4.CodecConsts'. -/
def codecConstsUptoCard : Claim7 := { stood := { row := codecConstsUptoRow, standIns := [], harness := (true, "7836a2260ed9322e01ad06fdcb159a623eb2602dbf142d48117144d15c95f3da"), looks := true }, kinds := [], alts := [], laidByText := true, laidKinds := [.data, .sentinel, .sentinel, .sentinel, .sentinel, .sentinel, .sentinel, .sentinel, .sentinel, .sentinel, .sentinel, .sentinel, .sentinel, .sentinel, .sentinel, .pinned], laidTests := true, laidLooks := .later }
def CodecConstsUptoCardSaid : Prop := Claim7.holds Tryd.pinned (.plain (OpenSpec.upto codecConstsSpec)) codecConstsUptoCard

/-- THE SECOND FORM's CARD OF 'overdrivelaw4.CodecHeads'. -/
def codecHeadsUptoCard : Claim7 := { stood := { row := codecHeadsUptoRow, standIns := [], harness := (true, "7836a2260ed9322e01ad06fdcb159a623eb2602dbf142d48117144d15c95f3da"), looks := true }, kinds := [], alts := [], laidByText := true, laidKinds := [.data, .sentinel, .sentinel, .sentinel, .sentinel, .sentinel, .sentinel, .sentinel, .sentinel, .sentinel, .sentinel, .sentinel, .sentinel, .sentinel, .sentinel, .pinned], laidTests := true, laidLooks := .later }
def CodecHeadsUptoCardSaid : Prop := Claim7.holds Tryd.pinned (.plain (OpenSpec.upto codecHeadsSpec)) codecHeadsUptoCard

/-- THE SECOND FORM's CARD OF 'overdrivelaw4.CodecApart'. -/
def codecApartUptoCard : Claim7 := { stood := { row := codecApartUptoRow, standIns := [], harness := (true, "7836a2260ed9322e01ad06fdcb159a623eb2602dbf142d48117144d15c95f3da"), looks := true }, kinds := [], alts := [], laidByText := true, laidKinds := [.data, .sentinel, .sentinel, .sentinel, .sentinel, .sentinel, .sentinel, .sentinel, .sentinel, .sentinel, .sentinel, .sentinel, .sentinel, .sentinel, .sentinel, .pinned], laidTests := true, laidLooks := .later }
def CodecApartUptoCardSaid : Prop := Claim7.holds Tryd.pinned (.plain (OpenSpec.upto codecApartSpec)) codecApartUptoCard
end Rows
end Go.Proofs.YtnojejplckhifaaDoor
