/-
  DERIVED. GIVEN WITH THE SEED: THE CARDS: each row of YtcaoeoggabbekaaDoorRows.lean that lists a variable, with what it lists TIED to the program's text (the seventh form; the later family's looks); each row that meets fmt, with fmt's text TOLD by the authors' own Lean function (tested against real Go, not proved from fmt's source: count such statements apart). THE CARD IS WHAT COUNTS. Prove the row's statement (the work); the ties are given (YtcaoeoggabbekaaDoorTie.lean); close each card by the builder's one call (the guide's Derived/Test/ToyasCard.lean, 'card_holds'). Laid BY PROGRAM, IN A SANDBOX (cutbox-door.mjs). By AI agents, Wed Nov 11 2026. No macro, syntax, notation, axiom, sorry.
-/
import Derived.Test.YtcaoeoggabbekaaDoorRows
import GoSem.ClaimSeven
namespace Go.Proofs.YtcaoeoggabbekaaDoor
namespace Rows

/-- THE TIED CARD OF 'overdrivelaw2.BitsBounds'. -/
def bitsBoundsCard : Claim7 := { stood := { row := bitsBoundsRow, standIns := [], harness := (true, "a4b0b6d20fee019aaf7ff726b72e778e768d1b2997498bdd280f881d34ee5d57"), looks := false }, kinds := [], alts := [], laidByText := true, laidKinds := [.data], laidTests := true, laidLooks := .later }
def BitsBoundsCardSaid : Prop := Claim7.holds Tryd.pinned (.plain (OpenSpec.ofChange bitsBoundsSpec)) bitsBoundsCard

/-- THE TIED CARD OF 'overdrivelaw2.BitsOrder'. -/
def bitsOrderCard : Claim7 := { stood := { row := bitsOrderRow, standIns := [], harness := (true, "a4b0b6d20fee019aaf7ff726b72e778e768d1b2997498bdd280f881d34ee5d57"), looks := false }, kinds := [], alts := [], laidByText := true, laidKinds := [.data], laidTests := true, laidLooks := .later }
def BitsOrderCardSaid : Prop := Claim7.holds Tryd.pinned (.plain (OpenSpec.ofChange bitsOrderSpec)) bitsOrderCard

/-- THE TIED CARD OF 'overdrivelaw2.BitsPlays'. -/
def bitsPlaysCard : Claim7 := { stood := { row := bitsPlaysRow, standIns := [], harness := (true, "a4b0b6d20fee019aaf7ff726b72e778e768d1b2997498bdd280f881d34ee5d57"), looks := false }, kinds := [], alts := [], laidByText := true, laidKinds := [.data], laidTests := true, laidLooks := .later }
def BitsPlaysCardSaid : Prop := Claim7.holds Tryd.pinned (.plain (OpenSpec.ofChange bitsPlaysSpec)) bitsPlaysCard

/-- THE TIED CARD OF 'overdrivelaw2.BitsAlgebra'. -/
def bitsAlgebraCard : Claim7 := { stood := { row := bitsAlgebraRow, standIns := [], harness := (true, "a4b0b6d20fee019aaf7ff726b72e778e768d1b2997498bdd280f881d34ee5d57"), looks := false }, kinds := [], alts := [], laidByText := true, laidKinds := [.data], laidTests := true, laidLooks := .later }
def BitsAlgebraCardSaid : Prop := Claim7.holds Tryd.pinned (.plain (OpenSpec.ofChange bitsAlgebraSpec)) bitsAlgebraCard

/-- THE TIED CARD OF 'overdrivelaw2.BitsApart'. -/
def bitsApartCard : Claim7 := { stood := { row := bitsApartRow, standIns := [], harness := (true, "a4b0b6d20fee019aaf7ff726b72e778e768d1b2997498bdd280f881d34ee5d57"), looks := false }, kinds := [], alts := [], laidByText := true, laidKinds := [.data], laidTests := true, laidLooks := .later }
def BitsApartCardSaid : Prop := Claim7.holds Tryd.pinned (.plain (OpenSpec.ofChange bitsApartSpec)) bitsApartCard

/-- THE SECOND FORM's CARD OF 'overdrivelaw2.BitsBounds'. -/
def bitsBoundsUptoCard : Claim7 := { stood := { row := bitsBoundsUptoRow, standIns := [], harness := (true, "a4b0b6d20fee019aaf7ff726b72e778e768d1b2997498bdd280f881d34ee5d57"), looks := false }, kinds := [], alts := [], laidByText := true, laidKinds := [.data], laidTests := true, laidLooks := .later }
def BitsBoundsUptoCardSaid : Prop := Claim7.holds Tryd.pinned (.plain (OpenSpec.upto bitsBoundsSpec)) bitsBoundsUptoCard

/-- THE SECOND FORM's CARD OF 'overdrivelaw2.BitsOrder'. -/
def bitsOrderUptoCard : Claim7 := { stood := { row := bitsOrderUptoRow, standIns := [], harness := (true, "a4b0b6d20fee019aaf7ff726b72e778e768d1b2997498bdd280f881d34ee5d57"), looks := false }, kinds := [], alts := [], laidByText := true, laidKinds := [.data], laidTests := true, laidLooks := .later }
def BitsOrderUptoCardSaid : Prop := Claim7.holds Tryd.pinned (.plain (OpenSpec.upto bitsOrderSpec)) bitsOrderUptoCard

/-- THE SECOND FORM's CARD OF 'overdrivelaw2.BitsPlays'. -/
def bitsPlaysUptoCard : Claim7 := { stood := { row := bitsPlaysUptoRow, standIns := [], harness := (true, "a4b0b6d20fee019aaf7ff726b72e778e768d1b2997498bdd280f881d34ee5d57"), looks := false }, kinds := [], alts := [], laidByText := true, laidKinds := [.data], laidTests := true, laidLooks := .later }
def BitsPlaysUptoCardSaid : Prop := Claim7.holds Tryd.pinned (.plain (OpenSpec.upto bitsPlaysSpec)) bitsPlaysUptoCard

/-- THE SECOND FORM's CARD OF 'overdrivelaw2.BitsAlgebra'. -/
def bitsAlgebraUptoCard : Claim7 := { stood := { row := bitsAlgebraUptoRow, standIns := [], harness := (true, "a4b0b6d20fee019aaf7ff726b72e778e768d1b2997498bdd280f881d34ee5d57"), looks := false }, kinds := [], alts := [], laidByText := true, laidKinds := [.data], laidTests := true, laidLooks := .later }
def BitsAlgebraUptoCardSaid : Prop := Claim7.holds Tryd.pinned (.plain (OpenSpec.upto bitsAlgebraSpec)) bitsAlgebraUptoCard

/-- THE SECOND FORM's CARD OF 'overdrivelaw2.BitsApart'. -/
def bitsApartUptoCard : Claim7 := { stood := { row := bitsApartUptoRow, standIns := [], harness := (true, "a4b0b6d20fee019aaf7ff726b72e778e768d1b2997498bdd280f881d34ee5d57"), looks := false }, kinds := [], alts := [], laidByText := true, laidKinds := [.data], laidTests := true, laidLooks := .later }
def BitsApartUptoCardSaid : Prop := Claim7.holds Tryd.pinned (.plain (OpenSpec.upto bitsApartSpec)) bitsApartUptoCard
end Rows
end Go.Proofs.YtcaoeoggabbekaaDoor
