/-
  DERIVED. GIVEN WITH THE SEED: THE CARDS: each row of YtomabogjoampnaaDoorRows.lean that lists a variable, with what it lists TIED to the program's text (the seventh form; the later family's looks); each row that meets fmt, with fmt's text TOLD by the authors' own Lean function (tested against real Go, not proved from fmt's source: count such statements apart). THE CARD IS WHAT COUNTS. Prove the row's statement (the work); the ties are given (YtomabogjoampnaaDoorTie.lean); close each card by the builder's one call (the guide's Derived/Test/ToyasCard.lean, 'card_holds'). Laid BY PROGRAM, IN A SANDBOX (cutbox-door.mjs). By AI agents, Wed Nov 11 2026. No macro, syntax, notation, axiom, sorry.
-/
import Derived.Test.YtomabogjoampnaaDoorRows
import GoSem.ClaimSeven
namespace Go.Proofs.YtomabogjoampnaaDoor
namespace Rows

/-- THE TIED CARD OF 'overdrivelaw15.ScriptRises'. -/
def scriptRisesCard : Claim7 := { stood := { row := scriptRisesRow, standIns := [], harness := (true, "fc88531361773698f6702963b8611093557a47cdcfb9bcc68211f7a5aea235e9"), looks := true }, kinds := [], alts := [], laidByText := true, laidKinds := [.sentinel, .sentinel, .sentinel, .sentinel, .sentinel, .sentinel, .sentinel, .sentinel, .sentinel, .sentinel, .sentinel, .sentinel, .sentinel, .sentinel], laidTests := true, laidLooks := .later }
def ScriptRisesCardSaid : Prop := Claim7.holds Tryd.pinned (.plain (OpenSpec.ofChange scriptRisesSpec)) scriptRisesCard

/-- THE TIED CARD OF 'overdrivelaw15.ScriptOne'. -/
def scriptOneCard : Claim7 := { stood := { row := scriptOneRow, standIns := [], harness := (true, "fc88531361773698f6702963b8611093557a47cdcfb9bcc68211f7a5aea235e9"), looks := true }, kinds := [], alts := [], laidByText := true, laidKinds := [.sentinel, .sentinel, .sentinel, .sentinel, .sentinel, .sentinel, .sentinel, .sentinel, .sentinel, .sentinel, .sentinel, .sentinel, .sentinel, .sentinel], laidTests := true, laidLooks := .later }
def ScriptOneCardSaid : Prop := Claim7.holds Tryd.pinned (.plain (OpenSpec.ofChange scriptOneSpec)) scriptOneCard

/-- THE TIED CARD OF 'overdrivelaw15.ScriptPlays'. -/
def scriptPlaysCard : Claim7 := { stood := { row := scriptPlaysRow, standIns := [], harness := (true, "fc88531361773698f6702963b8611093557a47cdcfb9bcc68211f7a5aea235e9"), looks := true }, kinds := [], alts := [], laidByText := true, laidKinds := [.sentinel, .sentinel, .sentinel, .sentinel], laidTests := true, laidLooks := .later }
def ScriptPlaysCardSaid : Prop := Claim7.holds Tryd.pinned (.plain (OpenSpec.ofChange scriptPlaysSpec)) scriptPlaysCard

/-- THE TIED CARD OF 'overdrivelaw15.ScriptBack'. -/
def scriptBackCard : Claim7 := { stood := { row := scriptBackRow, standIns := [], harness := (true, "fc88531361773698f6702963b8611093557a47cdcfb9bcc68211f7a5aea235e9"), looks := true }, kinds := [], alts := [], laidByText := true, laidKinds := [.sentinel, .sentinel, .sentinel, .sentinel, .sentinel, .sentinel], laidTests := true, laidLooks := .later }
def ScriptBackCardSaid : Prop := Claim7.holds Tryd.pinned (.plain (OpenSpec.ofChange scriptBackSpec)) scriptBackCard

/-- THE TIED CARD OF 'overdrivelaw15.ScriptCut'. -/
def scriptCutCard : Claim7 := { stood := { row := scriptCutRow, standIns := [], harness := (true, "fc88531361773698f6702963b8611093557a47cdcfb9bcc68211f7a5aea235e9"), looks := true }, kinds := [], alts := [], laidByText := true, laidKinds := [.sentinel, .sentinel, .sentinel, .sentinel, .sentinel, .sentinel, .sentinel, .sentinel, .sentinel, .sentinel, .sentinel, .sentinel, .sentinel, .sentinel], laidTests := true, laidLooks := .later }
def ScriptCutCardSaid : Prop := Claim7.holds Tryd.pinned (.plain (OpenSpec.ofChange scriptCutSpec)) scriptCutCard

/-- THE SECOND FORM's CARD OF 'overdrivelaw15.ScriptRises'. -/
def scriptRisesUptoCard : Claim7 := { stood := { row := scriptRisesUptoRow, standIns := [], harness := (true, "fc88531361773698f6702963b8611093557a47cdcfb9bcc68211f7a5aea235e9"), looks := true }, kinds := [], alts := [], laidByText := true, laidKinds := [.sentinel, .sentinel, .sentinel, .sentinel, .sentinel, .sentinel, .sentinel, .sentinel, .sentinel, .sentinel, .sentinel, .sentinel, .sentinel, .sentinel], laidTests := true, laidLooks := .later }
def ScriptRisesUptoCardSaid : Prop := Claim7.holds Tryd.pinned (.plain (OpenSpec.upto scriptRisesSpec)) scriptRisesUptoCard

/-- THE SECOND FORM's CARD OF 'overdrivelaw15.ScriptOne'. -/
def scriptOneUptoCard : Claim7 := { stood := { row := scriptOneUptoRow, standIns := [], harness := (true, "fc88531361773698f6702963b8611093557a47cdcfb9bcc68211f7a5aea235e9"), looks := true }, kinds := [], alts := [], laidByText := true, laidKinds := [.sentinel, .sentinel, .sentinel, .sentinel, .sentinel, .sentinel, .sentinel, .sentinel, .sentinel, .sentinel, .sentinel, .sentinel, .sentinel, .sentinel], laidTests := true, laidLooks := .later }
def ScriptOneUptoCardSaid : Prop := Claim7.holds Tryd.pinned (.plain (OpenSpec.upto scriptOneSpec)) scriptOneUptoCard

/-- THE SECOND FORM's CARD OF 'overdrivelaw15.ScriptPlays'. -/
def scriptPlaysUptoCard : Claim7 := { stood := { row := scriptPlaysUptoRow, standIns := [], harness := (true, "fc88531361773698f6702963b8611093557a47cdcfb9bcc68211f7a5aea235e9"), looks := true }, kinds := [], alts := [], laidByText := true, laidKinds := [.sentinel, .sentinel, .sentinel, .sentinel], laidTests := true, laidLooks := .later }
def ScriptPlaysUptoCardSaid : Prop := Claim7.holds Tryd.pinned (.plain (OpenSpec.upto scriptPlaysSpec)) scriptPlaysUptoCard

/-- THE SECOND FORM's CARD OF 'overdrivelaw15.ScriptBack'. -/
def scriptBackUptoCard : Claim7 := { stood := { row := scriptBackUptoRow, standIns := [], harness := (true, "fc88531361773698f6702963b8611093557a47cdcfb9bcc68211f7a5aea235e9"), looks := true }, kinds := [], alts := [], laidByText := true, laidKinds := [.sentinel, .sentinel, .sentinel, .sentinel, .sentinel, .sentinel], laidTests := true, laidLooks := .later }
def ScriptBackUptoCardSaid : Prop := Claim7.holds Tryd.pinned (.plain (OpenSpec.upto scriptBackSpec)) scriptBackUptoCard

/-- THE SECOND FORM's CARD OF 'overdrivelaw15.ScriptCut'. -/
def scriptCutUptoCard : Claim7 := { stood := { row := scriptCutUptoRow, standIns := [], harness := (true, "fc88531361773698f6702963b8611093557a47cdcfb9bcc68211f7a5aea235e9"), looks := true }, kinds := [], alts := [], laidByText := true, laidKinds := [.sentinel, .sentinel, .sentinel, .sentinel, .sentinel, .sentinel, .sentinel, .sentinel, .sentinel, .sentinel, .sentinel, .sentinel, .sentinel, .sentinel], laidTests := true, laidLooks := .later }
def ScriptCutUptoCardSaid : Prop := Claim7.holds Tryd.pinned (.plain (OpenSpec.upto scriptCutSpec)) scriptCutUptoCard
end Rows
end Go.Proofs.YtomabogjoampnaaDoor
