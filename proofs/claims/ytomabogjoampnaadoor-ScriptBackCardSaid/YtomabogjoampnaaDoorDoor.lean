/- The sentinel errors that the rows list: a world that holds them, for the rows' witnesses; and what a row's list gives a walk. -/
import Derived.Test.YtomabogjoampnaaDoorSents
import Derived.Test.YtomabogjoampnaaDoorLaw
import Derived.Deep.DeepHandedRow
import Derived.Deep.DeepWitnessRowRef
namespace Go.Proofs.YtomabogjoampnaaDoor
open Go.RowKit Go.ChangeShapes Go.WideShapes

def tx_overdrive_api_ErrMany : List UInt8 := [116, 111, 111, 32, 109, 97, 110, 121]
def tx_overdrive_api_ErrKind : List UInt8 := [110, 111, 32, 115, 117, 99, 104, 32, 107, 105, 110, 100]
def tx_overdrive_api_ErrIndex : List UInt8 := [110, 111, 32, 115, 117, 99, 104, 32, 116, 104, 105, 110, 103]
def tx_overdrive_api_ErrTarget : List UInt8 := [110, 111, 32, 112, 108, 97, 99, 101, 32, 116, 111, 32, 106, 117, 109, 112, 32, 116, 111]
def tx_overdrive_api_ErrShape : List UInt8 := [110, 111, 116, 32, 116, 104, 101, 32, 115, 104, 97, 112, 101, 32, 116, 104, 97, 116, 32, 105, 116, 32, 104, 97, 115, 32, 116, 111, 32, 104, 97, 118, 101]
def tx_overdrive_api_ErrEnd : List UInt8 := [105, 116, 32, 101, 110, 100, 115, 32, 116, 111, 111, 32, 101, 97, 114, 108, 121]
def tx_overdrive_api_ErrByte : List UInt8 := [97, 32, 98, 121, 116, 101, 32, 116, 104, 97, 116, 32, 100, 111, 101, 115, 32, 110, 111, 116, 32, 102, 105, 116]
def tx_overdrive_api_ErrStack : List UInt8 := [116, 111, 111, 32, 108, 105, 116, 116, 108, 101, 32, 111, 114, 32, 116, 111, 111, 32, 109, 117, 99, 104, 32, 111, 110, 32, 116, 104, 101, 32, 115, 116, 97, 99, 107]
def tx_overdrive_api_ErrMerge : List UInt8 := [116, 119, 111, 32, 119, 97, 121, 115, 32, 116, 104, 97, 116, 32, 100, 111, 32, 110, 111, 116, 32, 97, 103, 114, 101, 101]
def tx_overdrive_api_ErrFall : List UInt8 := [105, 116, 32, 102, 97, 108, 108, 115, 32, 111, 102, 102, 32, 116, 104, 101, 32, 101, 110, 100]
def tx_overdrive_api_ErrLimit : List UInt8 := [110, 111, 32, 115, 117, 99, 104, 32, 108, 105, 109, 105, 116]
def tx_overdrive_api_ErrNode : List UInt8 := [97, 32, 110, 111, 100, 101, 32, 116, 104, 97, 116, 32, 109, 97, 121, 32, 110, 111, 116, 32, 98, 101]
def tx_overdrive_api_ErrState : List UInt8 := [97, 32, 115, 116, 97, 116, 101, 32, 116, 104, 97, 116, 32, 109, 97, 121, 32, 110, 111, 116, 32, 98, 101]
def tx_overdrive_api_ErrRoom : List UInt8 := [110, 111, 32, 114, 111, 111, 109]
noncomputable def low : Nat := (World.holding Tryd.prog default ⟨#[], #[], []⟩).heap.size
/-- a world that holds them all -/
noncomputable def laidWorld (os : Os) : World :=
  let w0 := World.holding Tryd.prog os ⟨#[.cells #[.string ⟨#[116, 111, 111, 32, 109, 97, 110, 121]⟩] 108, .cells #[.string ⟨#[110, 111, 32, 115, 117, 99, 104, 32, 107, 105, 110, 100]⟩] 108, .cells #[.string ⟨#[110, 111, 32, 115, 117, 99, 104, 32, 116, 104, 105, 110, 103]⟩] 108, .cells #[.string ⟨#[110, 111, 32, 112, 108, 97, 99, 101, 32, 116, 111, 32, 106, 117, 109, 112, 32, 116, 111]⟩] 108, .cells #[.string ⟨#[110, 111, 116, 32, 116, 104, 101, 32, 115, 104, 97, 112, 101, 32, 116, 104, 97, 116, 32, 105, 116, 32, 104, 97, 115, 32, 116, 111, 32, 104, 97, 118, 101]⟩] 108, .cells #[.string ⟨#[105, 116, 32, 101, 110, 100, 115, 32, 116, 111, 111, 32, 101, 97, 114, 108, 121]⟩] 108, .cells #[.string ⟨#[97, 32, 98, 121, 116, 101, 32, 116, 104, 97, 116, 32, 100, 111, 101, 115, 32, 110, 111, 116, 32, 102, 105, 116]⟩] 108, .cells #[.string ⟨#[116, 111, 111, 32, 108, 105, 116, 116, 108, 101, 32, 111, 114, 32, 116, 111, 111, 32, 109, 117, 99, 104, 32, 111, 110, 32, 116, 104, 101, 32, 115, 116, 97, 99, 107]⟩] 108, .cells #[.string ⟨#[116, 119, 111, 32, 119, 97, 121, 115, 32, 116, 104, 97, 116, 32, 100, 111, 32, 110, 111, 116, 32, 97, 103, 114, 101, 101]⟩] 108, .cells #[.string ⟨#[105, 116, 32, 102, 97, 108, 108, 115, 32, 111, 102, 102, 32, 116, 104, 101, 32, 101, 110, 100]⟩] 108, .cells #[.string ⟨#[110, 111, 32, 115, 117, 99, 104, 32, 108, 105, 109, 105, 116]⟩] 108, .cells #[.string ⟨#[97, 32, 110, 111, 100, 101, 32, 116, 104, 97, 116, 32, 109, 97, 121, 32, 110, 111, 116, 32, 98, 101]⟩] 108, .cells #[.string ⟨#[97, 32, 115, 116, 97, 116, 101, 32, 116, 104, 97, 116, 32, 109, 97, 121, 32, 110, 111, 116, 32, 98, 101]⟩] 108, .cells #[.string ⟨#[110, 111, 32, 114, 111, 111, 109]⟩] 108], #[], []⟩
  { w0 with heap := ((((((((((((((w0.heap.modify 0 fun
      | .cells _ t frozen => .cells #[.iface 91 (.pointer (some ⟨low + 0, 0, none⟩))] t frozen
      | o => o).modify 1 fun
      | .cells _ t frozen => .cells #[.iface 91 (.pointer (some ⟨low + 1, 0, none⟩))] t frozen
      | o => o).modify 2 fun
      | .cells _ t frozen => .cells #[.iface 91 (.pointer (some ⟨low + 2, 0, none⟩))] t frozen
      | o => o).modify 6 fun
      | .cells _ t frozen => .cells #[.iface 91 (.pointer (some ⟨low + 3, 0, none⟩))] t frozen
      | o => o).modify 3 fun
      | .cells _ t frozen => .cells #[.iface 91 (.pointer (some ⟨low + 4, 0, none⟩))] t frozen
      | o => o).modify 5 fun
      | .cells _ t frozen => .cells #[.iface 91 (.pointer (some ⟨low + 5, 0, none⟩))] t frozen
      | o => o).modify 4 fun
      | .cells _ t frozen => .cells #[.iface 91 (.pointer (some ⟨low + 6, 0, none⟩))] t frozen
      | o => o).modify 7 fun
      | .cells _ t frozen => .cells #[.iface 91 (.pointer (some ⟨low + 7, 0, none⟩))] t frozen
      | o => o).modify 8 fun
      | .cells _ t frozen => .cells #[.iface 91 (.pointer (some ⟨low + 8, 0, none⟩))] t frozen
      | o => o).modify 9 fun
      | .cells _ t frozen => .cells #[.iface 91 (.pointer (some ⟨low + 9, 0, none⟩))] t frozen
      | o => o).modify 10 fun
      | .cells _ t frozen => .cells #[.iface 91 (.pointer (some ⟨low + 10, 0, none⟩))] t frozen
      | o => o).modify 11 fun
      | .cells _ t frozen => .cells #[.iface 91 (.pointer (some ⟨low + 11, 0, none⟩))] t frozen
      | o => o).modify 12 fun
      | .cells _ t frozen => .cells #[.iface 91 (.pointer (some ⟨low + 12, 0, none⟩))] t frozen
      | o => o).modify 13 fun
      | .cells _ t frozen => .cells #[.iface 91 (.pointer (some ⟨low + 13, 0, none⟩))] t frozen
      | o => o) }
def lst14 : List (String × List UInt8) := [("overdrive/api.ErrMany", tx_overdrive_api_ErrMany), ("overdrive/api.ErrKind", tx_overdrive_api_ErrKind), ("overdrive/api.ErrIndex", tx_overdrive_api_ErrIndex), ("overdrive/api.ErrTarget", tx_overdrive_api_ErrTarget), ("overdrive/api.ErrShape", tx_overdrive_api_ErrShape), ("overdrive/api.ErrEnd", tx_overdrive_api_ErrEnd), ("overdrive/api.ErrByte", tx_overdrive_api_ErrByte), ("overdrive/api.ErrStack", tx_overdrive_api_ErrStack), ("overdrive/api.ErrMerge", tx_overdrive_api_ErrMerge), ("overdrive/api.ErrFall", tx_overdrive_api_ErrFall), ("overdrive/api.ErrLimit", tx_overdrive_api_ErrLimit), ("overdrive/api.ErrNode", tx_overdrive_api_ErrNode), ("overdrive/api.ErrState", tx_overdrive_api_ErrState), ("overdrive/api.ErrRoom", tx_overdrive_api_ErrRoom)]
theorem lst14_all : (lst14.all fun x => match Tryd.prog.globalNamed x.1 with | some g => (Tryd.prog.globals[g]?).map (·.type) == some 28 | none => true) = true := by kernel_rfl
theorem lst14_ty : ∀ x ∈ lst14, ∀ g, Tryd.prog.globalNamed x.1 = some g → (Tryd.prog.globals[g]?).map (·.type) = some 28 := by
  intro x hx g hg
  have := List.all_eq_true.1 lst14_all x hx
  rw [hg] at this
  simpa using this
theorem scriptRises_met (os : Os) (args : Array Value) : laidMet Tryd.prog Rows.scriptRisesRow.laid ((laidWorld os).forCall (fun _ _ => 0) ⟨#[], args, []⟩).memory :=
  laidMet_of_run' 8 (by kernel_rfl) (by kernel_rfl)
theorem scriptRises_errs {W : World} (h : laidMetH Tryd.prog Rows.scriptRisesRow.laid W) : ∃ ads : List Addr, ads.length = lst14.length ∧ ads.Nodup ∧ ∀ (i : Nat) x a g, lst14[i]? = some x → ads[i]? = some a → Tryd.prog.globalNamed x.1 = some g → SentAt W g a := by
  have h' : laidMet Tryd.prog (lst14.map fun x => (x.1, errData x.2)) W := h
  obtain ⟨ps, hv, hnd, hrows⟩ := h'
  obtain ⟨ads, h1, _, h2, h3⟩ := sents_aux lst14 ps hv hnd hrows lst14_ty
  exact ⟨ads, h1, h2, h3⟩
theorem scriptOne_met (os : Os) (args : Array Value) : laidMet Tryd.prog Rows.scriptOneRow.laid ((laidWorld os).forCall (fun _ _ => 0) ⟨#[], args, []⟩).memory :=
  laidMet_of_run' 8 (by kernel_rfl) (by kernel_rfl)
theorem scriptOne_errs {W : World} (h : laidMetH Tryd.prog Rows.scriptOneRow.laid W) : ∃ ads : List Addr, ads.length = lst14.length ∧ ads.Nodup ∧ ∀ (i : Nat) x a g, lst14[i]? = some x → ads[i]? = some a → Tryd.prog.globalNamed x.1 = some g → SentAt W g a := by
  have h' : laidMet Tryd.prog (lst14.map fun x => (x.1, errData x.2)) W := h
  obtain ⟨ps, hv, hnd, hrows⟩ := h'
  obtain ⟨ads, h1, _, h2, h3⟩ := sents_aux lst14 ps hv hnd hrows lst14_ty
  exact ⟨ads, h1, h2, h3⟩
def lst4 : List (String × List UInt8) := [("overdrive/api.ErrMany", tx_overdrive_api_ErrMany), ("overdrive/api.ErrKind", tx_overdrive_api_ErrKind), ("overdrive/api.ErrIndex", tx_overdrive_api_ErrIndex), ("overdrive/api.ErrShape", tx_overdrive_api_ErrShape)]
theorem lst4_all : (lst4.all fun x => match Tryd.prog.globalNamed x.1 with | some g => (Tryd.prog.globals[g]?).map (·.type) == some 28 | none => true) = true := by kernel_rfl
theorem lst4_ty : ∀ x ∈ lst4, ∀ g, Tryd.prog.globalNamed x.1 = some g → (Tryd.prog.globals[g]?).map (·.type) = some 28 := by
  intro x hx g hg
  have := List.all_eq_true.1 lst4_all x hx
  rw [hg] at this
  simpa using this
theorem scriptPlays_met (os : Os) (args : Array Value) : laidMet Tryd.prog Rows.scriptPlaysRow.laid ((laidWorld os).forCall (fun _ _ => 0) ⟨#[], args, []⟩).memory :=
  laidMet_of_run' 8 (by kernel_rfl) (by kernel_rfl)
theorem scriptPlays_errs {W : World} (h : laidMetH Tryd.prog Rows.scriptPlaysRow.laid W) : ∃ ads : List Addr, ads.length = lst4.length ∧ ads.Nodup ∧ ∀ (i : Nat) x a g, lst4[i]? = some x → ads[i]? = some a → Tryd.prog.globalNamed x.1 = some g → SentAt W g a := by
  have h' : laidMet Tryd.prog (lst4.map fun x => (x.1, errData x.2)) W := h
  obtain ⟨ps, hv, hnd, hrows⟩ := h'
  obtain ⟨ads, h1, _, h2, h3⟩ := sents_aux lst4 ps hv hnd hrows lst4_ty
  exact ⟨ads, h1, h2, h3⟩
def lst6 : List (String × List UInt8) := [("overdrive/api.ErrMany", tx_overdrive_api_ErrMany), ("overdrive/api.ErrKind", tx_overdrive_api_ErrKind), ("overdrive/api.ErrIndex", tx_overdrive_api_ErrIndex), ("overdrive/api.ErrShape", tx_overdrive_api_ErrShape), ("overdrive/api.ErrEnd", tx_overdrive_api_ErrEnd), ("overdrive/api.ErrByte", tx_overdrive_api_ErrByte)]
theorem lst6_all : (lst6.all fun x => match Tryd.prog.globalNamed x.1 with | some g => (Tryd.prog.globals[g]?).map (·.type) == some 28 | none => true) = true := by kernel_rfl
theorem lst6_ty : ∀ x ∈ lst6, ∀ g, Tryd.prog.globalNamed x.1 = some g → (Tryd.prog.globals[g]?).map (·.type) = some 28 := by
  intro x hx g hg
  have := List.all_eq_true.1 lst6_all x hx
  rw [hg] at this
  simpa using this
theorem scriptBack_met (os : Os) (args : Array Value) : laidMet Tryd.prog Rows.scriptBackRow.laid ((laidWorld os).forCall (fun _ _ => 0) ⟨#[], args, []⟩).memory :=
  laidMet_of_run' 8 (by kernel_rfl) (by kernel_rfl)
theorem scriptBack_errs {W : World} (h : laidMetH Tryd.prog Rows.scriptBackRow.laid W) : ∃ ads : List Addr, ads.length = lst6.length ∧ ads.Nodup ∧ ∀ (i : Nat) x a g, lst6[i]? = some x → ads[i]? = some a → Tryd.prog.globalNamed x.1 = some g → SentAt W g a := by
  have h' : laidMet Tryd.prog (lst6.map fun x => (x.1, errData x.2)) W := h
  obtain ⟨ps, hv, hnd, hrows⟩ := h'
  obtain ⟨ads, h1, _, h2, h3⟩ := sents_aux lst6 ps hv hnd hrows lst6_ty
  exact ⟨ads, h1, h2, h3⟩
theorem scriptCut_met (os : Os) (args : Array Value) : laidMet Tryd.prog Rows.scriptCutRow.laid ((laidWorld os).forCall (fun _ _ => 0) ⟨#[], args, []⟩).memory :=
  laidMet_of_run' 8 (by kernel_rfl) (by kernel_rfl)
theorem scriptCut_errs {W : World} (h : laidMetH Tryd.prog Rows.scriptCutRow.laid W) : ∃ ads : List Addr, ads.length = lst14.length ∧ ads.Nodup ∧ ∀ (i : Nat) x a g, lst14[i]? = some x → ads[i]? = some a → Tryd.prog.globalNamed x.1 = some g → SentAt W g a := by
  have h' : laidMet Tryd.prog (lst14.map fun x => (x.1, errData x.2)) W := h
  obtain ⟨ps, hv, hnd, hrows⟩ := h'
  obtain ⟨ads, h1, _, h2, h3⟩ := sents_aux lst14 ps hv hnd hrows lst14_ty
  exact ⟨ads, h1, h2, h3⟩
end Go.Proofs.YtomabogjoampnaaDoor
