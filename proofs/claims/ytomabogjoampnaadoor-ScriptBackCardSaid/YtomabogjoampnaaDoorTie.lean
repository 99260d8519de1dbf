/-
  DERIVED. GIVEN WITH THE SEED: THE PROGRAM's TIES (one call each: nine closed facts by the kernel) AND EACH ROW's TIE, after the 31st guide's Derived/Test/Toyas{Tie, Card}.lean. No idea stands in it: it is a product of the set-up. Laid BY PROGRAM, IN A SANDBOX (cutbox-door.mjs). By AI agents, Wed Nov 11 2026. No macro, syntax, notation, axiom, sorry.
-/
import Derived.Test.YtomabogjoampnaaDoorRows
import Derived.LaidByTextLater
import Derived.SevenTiedAt
import Derived.LaidSub
import Derived.LaidOnce
namespace Go.Proofs.YtomabogjoampnaaDoor
open Go
set_option maxRecDepth 100000
theorem seatTie1 : Tryd.prog.laidByTextLater [("overdrive/api.ErrMany", Rows.laid_overdrive_api_ErrMany), ("overdrive/api.ErrKind", Rows.laid_overdrive_api_ErrKind), ("overdrive/api.ErrIndex", Rows.laid_overdrive_api_ErrIndex), ("overdrive/api.ErrTarget", Rows.laid_overdrive_api_ErrTarget), ("overdrive/api.ErrShape", Rows.laid_overdrive_api_ErrShape), ("overdrive/api.ErrEnd", Rows.laid_overdrive_api_ErrEnd), ("overdrive/api.ErrByte", Rows.laid_overdrive_api_ErrByte), ("overdrive/api.ErrStack", Rows.laid_overdrive_api_ErrStack), ("overdrive/api.ErrMerge", Rows.laid_overdrive_api_ErrMerge), ("overdrive/api.ErrFall", Rows.laid_overdrive_api_ErrFall), ("overdrive/api.ErrLimit", Rows.laid_overdrive_api_ErrLimit), ("overdrive/api.ErrNode", Rows.laid_overdrive_api_ErrNode), ("overdrive/api.ErrState", Rows.laid_overdrive_api_ErrState), ("overdrive/api.ErrRoom", Rows.laid_overdrive_api_ErrRoom)] [.sentinel, .sentinel, .sentinel, .sentinel, .sentinel, .sentinel, .sentinel, .sentinel, .sentinel, .sentinel, .sentinel, .sentinel, .sentinel, .sentinel] true :=
  Program.laidByTextLater_by_one 275 8 2 (by kernel_rfl) (by kernel_rfl) (by kernel_rfl) (by kernel_rfl) (by kernel_rfl) (by kernel_rfl) (fun _ _ => by kernel_rfl)
theorem noOwnUnsafe : Tryd.pinned.checked.prog.headLifts.contains "ownunsafe" = false := by kernel_rfl
theorem tie : Tryd.prog.laidByTextLater [("overdrive/api.ErrMany", Rows.laid_overdrive_api_ErrMany), ("overdrive/api.ErrKind", Rows.laid_overdrive_api_ErrKind), ("overdrive/api.ErrIndex", Rows.laid_overdrive_api_ErrIndex), ("overdrive/api.ErrTarget", Rows.laid_overdrive_api_ErrTarget), ("overdrive/api.ErrShape", Rows.laid_overdrive_api_ErrShape), ("overdrive/api.ErrEnd", Rows.laid_overdrive_api_ErrEnd), ("overdrive/api.ErrByte", Rows.laid_overdrive_api_ErrByte), ("overdrive/api.ErrStack", Rows.laid_overdrive_api_ErrStack), ("overdrive/api.ErrMerge", Rows.laid_overdrive_api_ErrMerge), ("overdrive/api.ErrFall", Rows.laid_overdrive_api_ErrFall), ("overdrive/api.ErrLimit", Rows.laid_overdrive_api_ErrLimit), ("overdrive/api.ErrNode", Rows.laid_overdrive_api_ErrNode), ("overdrive/api.ErrState", Rows.laid_overdrive_api_ErrState), ("overdrive/api.ErrRoom", Rows.laid_overdrive_api_ErrRoom)] [.sentinel, .sentinel, .sentinel, .sentinel, .sentinel, .sentinel, .sentinel, .sentinel, .sentinel, .sentinel, .sentinel, .sentinel, .sentinel, .sentinel] true :=
  Program.laidByTextLater.sub seatTie1 ["overdrive/api.ErrMany", "overdrive/api.ErrKind", "overdrive/api.ErrIndex", "overdrive/api.ErrTarget", "overdrive/api.ErrShape", "overdrive/api.ErrEnd", "overdrive/api.ErrByte", "overdrive/api.ErrStack", "overdrive/api.ErrMerge", "overdrive/api.ErrFall", "overdrive/api.ErrLimit", "overdrive/api.ErrNode", "overdrive/api.ErrState", "overdrive/api.ErrRoom"] (by kernel_rfl) (by kernel_rfl)
theorem scriptRises_row_tie : Rows.scriptRisesRow.laidByTextAt .later Tryd.pinned [.sentinel, .sentinel, .sentinel, .sentinel, .sentinel, .sentinel, .sentinel, .sentinel, .sentinel, .sentinel, .sentinel, .sentinel, .sentinel, .sentinel] true :=
  OpenClaim.laidByTextAt_later rfl rfl tie noOwnUnsafe
theorem scriptOne_row_tie : Rows.scriptOneRow.laidByTextAt .later Tryd.pinned [.sentinel, .sentinel, .sentinel, .sentinel, .sentinel, .sentinel, .sentinel, .sentinel, .sentinel, .sentinel, .sentinel, .sentinel, .sentinel, .sentinel] true :=
  OpenClaim.laidByTextAt_later rfl rfl tie noOwnUnsafe
theorem scriptCut_row_tie : Rows.scriptCutRow.laidByTextAt .later Tryd.pinned [.sentinel, .sentinel, .sentinel, .sentinel, .sentinel, .sentinel, .sentinel, .sentinel, .sentinel, .sentinel, .sentinel, .sentinel, .sentinel, .sentinel] true :=
  OpenClaim.laidByTextAt_later rfl rfl tie noOwnUnsafe
theorem tie2 : Tryd.prog.laidByTextLater [("overdrive/api.ErrMany", Rows.laid_overdrive_api_ErrMany), ("overdrive/api.ErrKind", Rows.laid_overdrive_api_ErrKind), ("overdrive/api.ErrIndex", Rows.laid_overdrive_api_ErrIndex), ("overdrive/api.ErrShape", Rows.laid_overdrive_api_ErrShape)] [.sentinel, .sentinel, .sentinel, .sentinel] true :=
  Program.laidByTextLater.sub seatTie1 ["overdrive/api.ErrMany", "overdrive/api.ErrKind", "overdrive/api.ErrIndex", "overdrive/api.ErrShape"] (by kernel_rfl) (by kernel_rfl)
theorem scriptPlays_row_tie : Rows.scriptPlaysRow.laidByTextAt .later Tryd.pinned [.sentinel, .sentinel, .sentinel, .sentinel] true :=
  OpenClaim.laidByTextAt_later rfl rfl tie2 noOwnUnsafe
theorem tie3 : Tryd.prog.laidByTextLater [("overdrive/api.ErrMany", Rows.laid_overdrive_api_ErrMany), ("overdrive/api.ErrKind", Rows.laid_overdrive_api_ErrKind), ("overdrive/api.ErrIndex", Rows.laid_overdrive_api_ErrIndex), ("overdrive/api.ErrShape", Rows.laid_overdrive_api_ErrShape), ("overdrive/api.ErrEnd", Rows.laid_overdrive_api_ErrEnd), ("overdrive/api.ErrByte", Rows.laid_overdrive_api_ErrByte)] [.sentinel, .sentinel, .sentinel, .sentinel, .sentinel, .sentinel] true :=
  Program.laidByTextLater.sub seatTie1 ["overdrive/api.ErrMany", "overdrive/api.ErrKind", "overdrive/api.ErrIndex", "overdrive/api.ErrShape", "overdrive/api.ErrEnd", "overdrive/api.ErrByte"] (by kernel_rfl) (by kernel_rfl)
theorem scriptBack_row_tie : Rows.scriptBackRow.laidByTextAt .later Tryd.pinned [.sentinel, .sentinel, .sentinel, .sentinel, .sentinel, .sentinel] true :=
  OpenClaim.laidByTextAt_later rfl rfl tie3 noOwnUnsafe
theorem scriptRisesUpto_row_tie : Rows.scriptRisesUptoRow.laidByTextAt .later Tryd.pinned [.sentinel, .sentinel, .sentinel, .sentinel, .sentinel, .sentinel, .sentinel, .sentinel, .sentinel, .sentinel, .sentinel, .sentinel, .sentinel, .sentinel] true :=
  OpenClaim.laidByTextAt_later rfl rfl tie noOwnUnsafe
theorem scriptOneUpto_row_tie : Rows.scriptOneUptoRow.laidByTextAt .later Tryd.pinned [.sentinel, .sentinel, .sentinel, .sentinel, .sentinel, .sentinel, .sentinel, .sentinel, .sentinel, .sentinel, .sentinel, .sentinel, .sentinel, .sentinel] true :=
  OpenClaim.laidByTextAt_later rfl rfl tie noOwnUnsafe
theorem scriptPlaysUpto_row_tie : Rows.scriptPlaysUptoRow.laidByTextAt .later Tryd.pinned [.sentinel, .sentinel, .sentinel, .sentinel] true :=
  OpenClaim.laidByTextAt_later rfl rfl tie2 noOwnUnsafe
theorem scriptBackUpto_row_tie : Rows.scriptBackUptoRow.laidByTextAt .later Tryd.pinned [.sentinel, .sentinel, .sentinel, .sentinel, .sentinel, .sentinel] true :=
  OpenClaim.laidByTextAt_later rfl rfl tie3 noOwnUnsafe
theorem scriptCutUpto_row_tie : Rows.scriptCutUptoRow.laidByTextAt .later Tryd.pinned [.sentinel, .sentinel, .sentinel, .sentinel, .sentinel, .sentinel, .sentinel, .sentinel, .sentinel, .sentinel, .sentinel, .sentinel, .sentinel, .sentinel] true :=
  OpenClaim.laidByTextAt_later rfl rfl tie noOwnUnsafe
end Go.Proofs.YtomabogjoampnaaDoor
