/- The variables that the rows list (two tables, fourteen sentinel errors): a world that holds them, for the rows' witnesses; and what a row's list gives a walk. -/
import Derived.Test.YtnojejplckhifaaDoorPC
import Derived.Test.YtnojejplckhifaaDoorPB
import Derived.Deep.DeepHandedRow
import Derived.Deep.DeepWitnessRowRef
namespace Go.Proofs.YtnojejplckhifaaDoor
open Go.RowKit Go.ChangeShapes Go.WideShapes

def tx_overdrive_api_ErrMany : List UInt8 := [116, 111, 111, 32, 109, 97, 110, 121]
def tx_overdrive_api_ErrKind : List UInt8 := [110, 111, 32, 115, 117, 99, 104, 32, 107, 105, 110, 100]
def tx_overdrive_api_ErrIndex : List UInt8 := [110, 111, 32, 115, 117, 99, 104, 32, 116, 104, 105, 110, 103]
def tx_overdrive_api_ErrTarget : List UInt8 := [110, 111, 32, 112, 108, 97, 99, 101, 32, 116, 111, 32, 106, 117, 109, 112, 32, 116, 111]
def tx_overdrive_api_ErrShape : List UInt8 := [110, 111, 116, 32, 116, 104, 101, 32, 115, 104, 97, 112, 101, 32, 116, 104, 97, 116, 32, 105, 116, 32, 104, 97, 115, 32, 116, 111, 32, 104, 97, 118, 101]
def tx_overdrive_api_ErrEnd : List UInt8 := [105, 116, 32, 101, 110, 100, 115, 32, 116, 111, 111, 32, 101, 97, 114, 108, 121]
def tx_overdrive_api_ErrByte : List UInt8 := [97, 32, 98, 121, 116, 101, 32, 116, 104, 97, 116, 32, 100, 111, 101, 115, 32, 110, 111, 116, 32, 102, 105, 116]
def tx_overdrive_api_ErrStack : List UInt8 := [116, 111, 111, 32, 108, 105, 116, 116, 108, 101, 32, 111, 114, 32, 116, 111, 111, 32, 109, 117, 99, 104, 32, 111, 110, 32, 116, 104, 101, 32, 115, 116, 97, 99, 107]
def tx_overdrive_api_ErrMerge : List UInt8 := [116, 119, 111, 32, 119, 97, 121, 115, 32, 116, 104, 97, 116, 32, 100, 111, 32, 110, 111, 116, 32, 97, 103, 114, 101, 101]
def tx_overdrive_api_ErrFall : List UInt8 := [105, 116, 32, 102, 97, 108, 108, 115, 32, 111, 102, 102, 32, 116, 104, 101, 32, 101, 110, 100]
def tx_overdrive_api_ErrLimit : List UInt8 := [110, 111, 32, 115, 117, 99, 104, 32, 108, 105, 109, 105, 116]
def tx_overdrive_api_ErrNode : List UInt8 := [97, 32, 110, 111, 100, 101, 32, 116, 104, 97, 116, 32, 109, 97, 121, 32, 110, 111, 116, 32, 98, 101]
def tx_overdrive_api_ErrState : List UInt8 := [97, 32, 115, 116, 97, 116, 101, 32, 116, 104, 97, 116, 32, 109, 97, 121, 32, 110, 111, 116, 32, 98, 101]
def tx_overdrive_api_ErrRoom : List UInt8 := [110, 111, 32, 114, 111, 111, 109]
noncomputable def low : Nat := (World.holding Tryd.prog default ⟨#[], #[], []⟩).heap.size
/-- a world that holds them all -/
noncomputable def laidWorld (os : Os) : World :=
  let w0 := World.holding Tryd.prog os ⟨#[.cells #[.string ⟨#[116, 111, 111, 32, 109, 97, 110, 121]⟩] 165, .cells #[.string ⟨#[110, 111, 32, 115, 117, 99, 104, 32, 107, 105, 110, 100]⟩] 165, .cells #[.string ⟨#[110, 111, 32, 115, 117, 99, 104, 32, 116, 104, 105, 110, 103]⟩] 165, .cells #[.string ⟨#[110, 111, 32, 112, 108, 97, 99, 101, 32, 116, 111, 32, 106, 117, 109, 112, 32, 116, 111]⟩] 165, .cells #[.string ⟨#[110, 111, 116, 32, 116, 104, 101, 32, 115, 104, 97, 112, 101, 32, 116, 104, 97, 116, 32, 105, 116, 32, 104, 97, 115, 32, 116, 111, 32, 104, 97, 118, 101]⟩] 165, .cells #[.string ⟨#[105, 116, 32, 101, 110, 100, 115, 32, 116, 111, 111, 32, 101, 97, 114, 108, 121]⟩] 165, .cells #[.string ⟨#[97, 32, 98, 121, 116, 101, 32, 116, 104, 97, 116, 32, 100, 111, 101, 115, 32, 110, 111, 116, 32, 102, 105, 116]⟩] 165, .cells #[.string ⟨#[116, 111, 111, 32, 108, 105, 116, 116, 108, 101, 32, 111, 114, 32, 116, 111, 111, 32, 109, 117, 99, 104, 32, 111, 110, 32, 116, 104, 101, 32, 115, 116, 97, 99, 107]⟩] 165, .cells #[.string ⟨#[116, 119, 111, 32, 119, 97, 121, 115, 32, 116, 104, 97, 116, 32, 100, 111, 32, 110, 111, 116, 32, 97, 103, 114, 101, 101]⟩] 165, .cells #[.string ⟨#[105, 116, 32, 102, 97, 108, 108, 115, 32, 111, 102, 102, 32, 116, 104, 101, 32, 101, 110, 100]⟩] 165, .cells #[.string ⟨#[110, 111, 32, 115, 117, 99, 104, 32, 108, 105, 109, 105, 116]⟩] 165, .cells #[.string ⟨#[97, 32, 110, 111, 100, 101, 32, 116, 104, 97, 116, 32, 109, 97, 121, 32, 110, 111, 116, 32, 98, 101]⟩] 165, .cells #[.string ⟨#[97, 32, 115, 116, 97, 116, 101, 32, 116, 104, 97, 116, 32, 109, 97, 121, 32, 110, 111, 116, 32, 98, 101]⟩] 165, .cells #[.string ⟨#[110, 111, 32, 114, 111, 111, 109]⟩] 165], #[], []⟩
  { w0 with heap := ((((((((((((((((w0.heap.modify 15 fun
      | .cells _ t frozen => .cells #[.int .u8 128, .int .u8 191, .int .u8 160, .int .u8 191, .int .u8 128, .int .u8 159, .int .u8 144, .int .u8 191, .int .u8 128, .int .u8 143, .int .u8 0, .int .u8 0, .int .u8 0, .int .u8 0, .int .u8 0, .int .u8 0, .int .u8 0, .int .u8 0, .int .u8 0, .int .u8 0, .int .u8 0, .int .u8 0, .int .u8 0, .int .u8 0, .int .u8 0, .int .u8 0, .int .u8 0, .int .u8 0, .int .u8 0, .int .u8 0, .int .u8 0, .int .u8 0] t frozen
      | o => o).modify 14 fun
      | .cells _ t frozen => .cells #[.int .u8 240, .int .u8 240, .int .u8 240, .int .u8 240, .int .u8 240, .int .u8 240, .int .u8 240, .int .u8 240, .int .u8 240, .int .u8 240, .int .u8 240, .int .u8 240, .int .u8 240, .int .u8 240, .int .u8 240, .int .u8 240, .int .u8 240, .int .u8 240, .int .u8 240, .int .u8 240, .int .u8 240, .int .u8 240, .int .u8 240, .int .u8 240, .int .u8 240, .int .u8 240, .int .u8 240, .int .u8 240, .int .u8 240, .int .u8 240, .int .u8 240, .int .u8 240, .int .u8 240, .int .u8 240, .int .u8 240, .int .u8 240, .int .u8 240, .int .u8 240, .int .u8 240, .int .u8 240, .int .u8 240, .int .u8 240, .int .u8 240, .int .u8 240, .int .u8 240, .int .u8 240, .int .u8 240, .int .u8 240, .int .u8 240, .int .u8 240, .int .u8 240, .int .u8 240, .int .u8 240, .int .u8 240, .int .u8 240, .int .u8 240, .int .u8 240, .int .u8 240, .int .u8 240, .int .u8 240, .int .u8 240, .int .u8 240, .int .u8 240, .int .u8 240, .int .u8 240, .int .u8 240, .int .u8 240, .int .u8 240, .int .u8 240, .int .u8 240, .int .u8 240, .int .u8 240, .int .u8 240, .int .u8 240, .int .u8 240, .int .u8 240, .int .u8 240, .int .u8 240, .int .u8 240, .int .u8 240, .int .u8 240, .int .u8 240, .int .u8 240, .int .u8 240, .int .u8 240, .int .u8 240, .int .u8 240, .int .u8 240, .int .u8 240, .int .u8 240, .int .u8 240, .int .u8 240, .int .u8 240, .int .u8 240, .int .u8 240, .int .u8 240, .int .u8 240, .int .u8 240, .int .u8 240, .int .u8 240, .int .u8 240, .int .u8 240, .int .u8 240, .int .u8 240, .int .u8 240, .int .u8 240, .int .u8 240, .int .u8 240, .int .u8 240, .int .u8 240, .int .u8 240, .int .u8 240, .int .u8 240, .int .u8 240, .int .u8 240, .int .u8 240, .int .u8 240, .int .u8 240, .int .u8 240, .int .u8 240, .int .u8 240, .int .u8 240, .int .u8 240, .int .u8 240, .int .u8 240, .int .u8 240, .int .u8 240, .int .u8 240, .int .u8 241, .int .u8 241, .int .u8 241, .int .u8 241, .int .u8 241, .int .u8 241, .int .u8 241, .int .u8 241, .int .u8 241, .int .u8 241, .int .u8 241, .int .u8 241, .int .u8 241, .int .u8 241, .int .u8 241, .int .u8 241, .int .u8 241, .int .u8 241, .int .u8 241, .int .u8 241, .int .u8 241, .int .u8 241, .int .u8 241, .int .u8 241, .int .u8 241, .int .u8 241, .int .u8 241, .int .u8 241, .int .u8 241, .int .u8 241, .int .u8 241, .int .u8 241, .int .u8 241, .int .u8 241, .int .u8 241, .int .u8 241, .int .u8 241, .int .u8 241, .int .u8 241, .int .u8 241, .int .u8 241, .int .u8 241, .int .u8 241, .int .u8 241, .int .u8 241, .int .u8 241, .int .u8 241, .int .u8 241, .int .u8 241, .int .u8 241, .int .u8 241, .int .u8 241, .int .u8 241, .int .u8 241, .int .u8 241, .int .u8 241, .int .u8 241, .int .u8 241, .int .u8 241, .int .u8 241, .int .u8 241, .int .u8 241, .int .u8 241, .int .u8 241, .int .u8 241, .int .u8 241, .int .u8 2, .int .u8 2, .int .u8 2, .int .u8 2, .int .u8 2, .int .u8 2, .int .u8 2, .int .u8 2, .int .u8 2, .int .u8 2, .int .u8 2, .int .u8 2, .int .u8 2, .int .u8 2, .int .u8 2, .int .u8 2, .int .u8 2, .int .u8 2, .int .u8 2, .int .u8 2, .int .u8 2, .int .u8 2, .int .u8 2, .int .u8 2, .int .u8 2, .int .u8 2, .int .u8 2, .int .u8 2, .int .u8 2, .int .u8 2, .int .u8 19, .int .u8 3, .int .u8 3, .int .u8 3, .int .u8 3, .int .u8 3, .int .u8 3, .int .u8 3, .int .u8 3, .int .u8 3, .int .u8 3, .int .u8 3, .int .u8 3, .int .u8 35, .int .u8 3, .int .u8 3, .int .u8 52, .int .u8 4, .int .u8 4, .int .u8 4, .int .u8 68, .int .u8 241, .int .u8 241, .int .u8 241, .int .u8 241, .int .u8 241, .int .u8 241, .int .u8 241, .int .u8 241, .int .u8 241, .int .u8 241, .int .u8 241] t frozen
      | o => o).modify 0 fun
      | .cells _ t frozen => .cells #[.iface 147 (.pointer (some ⟨low + 0, 0, none⟩))] t frozen
      | o => o).modify 2 fun
      | .cells _ t frozen => .cells #[.iface 147 (.pointer (some ⟨low + 1, 0, none⟩))] t frozen
      | o => o).modify 5 fun
      | .cells _ t frozen => .cells #[.iface 147 (.pointer (some ⟨low + 2, 0, none⟩))] t frozen
      | o => o).modify 4 fun
      | .cells _ t frozen => .cells #[.iface 147 (.pointer (some ⟨low + 3, 0, none⟩))] t frozen
      | o => o).modify 6 fun
      | .cells _ t frozen => .cells #[.iface 147 (.pointer (some ⟨low + 4, 0, none⟩))] t frozen
      | o => o).modify 3 fun
      | .cells _ t frozen => .cells #[.iface 147 (.pointer (some ⟨low + 5, 0, none⟩))] t frozen
      | o => o).modify 1 fun
      | .cells _ t frozen => .cells #[.iface 147 (.pointer (some ⟨low + 6, 0, none⟩))] t frozen
      | o => o).modify 7 fun
      | .cells _ t frozen => .cells #[.iface 147 (.pointer (some ⟨low + 7, 0, none⟩))] t frozen
      | o => o).modify 8 fun
      | .cells _ t frozen => .cells #[.iface 147 (.pointer (some ⟨low + 8, 0, none⟩))] t frozen
      | o => o).modify 9 fun
      | .cells _ t frozen => .cells #[.iface 147 (.pointer (some ⟨low + 9, 0, none⟩))] t frozen
      | o => o).modify 10 fun
      | .cells _ t frozen => .cells #[.iface 147 (.pointer (some ⟨low + 10, 0, none⟩))] t frozen
      | o => o).modify 11 fun
      | .cells _ t frozen => .cells #[.iface 147 (.pointer (some ⟨low + 11, 0, none⟩))] t frozen
      | o => o).modify 12 fun
      | .cells _ t frozen => .cells #[.iface 147 (.pointer (some ⟨low + 12, 0, none⟩))] t frozen
      | o => o).modify 13 fun
      | .cells _ t frozen => .cells #[.iface 147 (.pointer (some ⟨low + 13, 0, none⟩))] t frozen
      | o => o) }
def lst14 : List (String × List UInt8) := [("overdrive/api.ErrMany", tx_overdrive_api_ErrMany), ("overdrive/api.ErrKind", tx_overdrive_api_ErrKind), ("overdrive/api.ErrIndex", tx_overdrive_api_ErrIndex), ("overdrive/api.ErrTarget", tx_overdrive_api_ErrTarget), ("overdrive/api.ErrShape", tx_overdrive_api_ErrShape), ("overdrive/api.ErrEnd", tx_overdrive_api_ErrEnd), ("overdrive/api.ErrByte", tx_overdrive_api_ErrByte), ("overdrive/api.ErrStack", tx_overdrive_api_ErrStack), ("overdrive/api.ErrMerge", tx_overdrive_api_ErrMerge), ("overdrive/api.ErrFall", tx_overdrive_api_ErrFall), ("overdrive/api.ErrLimit", tx_overdrive_api_ErrLimit), ("overdrive/api.ErrNode", tx_overdrive_api_ErrNode), ("overdrive/api.ErrState", tx_overdrive_api_ErrState), ("overdrive/api.ErrRoom", tx_overdrive_api_ErrRoom)]
theorem lst14_all : (lst14.all fun x => match Tryd.prog.globalNamed x.1 with | some g => (Tryd.prog.globals[g]?).map (·.type) == some 30 | none => true) = true := by kernel_rfl
theorem lst14_ty : ∀ x ∈ lst14, ∀ g, Tryd.prog.globalNamed x.1 = some g → (Tryd.prog.globals[g]?).map (·.type) = some 30 := by
  intro x hx g hg
  have := List.all_eq_true.1 lst14_all x hx
  rw [hg] at this
  simpa using this
theorem lst14_at : ∀ i : Nat, i < 14 → ∃ x, lst14[i]? = some x ∧ Tryd.prog.globalNamed x.1 = some (gnum i)
  | 0, _ => ⟨_, rfl, by kernel_rfl⟩
  | 1, _ => ⟨_, rfl, by kernel_rfl⟩
  | 2, _ => ⟨_, rfl, by kernel_rfl⟩
  | 3, _ => ⟨_, rfl, by kernel_rfl⟩
  | 4, _ => ⟨_, rfl, by kernel_rfl⟩
  | 5, _ => ⟨_, rfl, by kernel_rfl⟩
  | 6, _ => ⟨_, rfl, by kernel_rfl⟩
  | 7, _ => ⟨_, rfl, by kernel_rfl⟩
  | 8, _ => ⟨_, rfl, by kernel_rfl⟩
  | 9, _ => ⟨_, rfl, by kernel_rfl⟩
  | 10, _ => ⟨_, rfl, by kernel_rfl⟩
  | 11, _ => ⟨_, rfl, by kernel_rfl⟩
  | 12, _ => ⟨_, rfl, by kernel_rfl⟩
  | 13, _ => ⟨_, rfl, by kernel_rfl⟩
  | n + 14, h => by omega
theorem cell_lt {w : World} {p : Addr} {v : Value} (h : w.cell? p = some v) : p.block < w.heap.size := by
  rcases Nat.lt_or_ge p.block w.heap.size with hlt | hge
  · exact hlt
  · unfold World.cell? at h; rw [Array.getElem?_eq_none hge] at h; simp at h
theorem errs_of {w : World} {ads : List Addr} (e1 : ads.length = lst14.length) (e2 : ads.Nodup) (e3 : ∀ (i : Nat) x a g, lst14[i]? = some x → ads[i]? = some a → Tryd.prog.globalNamed x.1 = some g → SentAt w g a) :
    Errs w (fun i => ads.getD i ⟨0, 0, none⟩) := by
  have hl : ads.length = 14 := e1
  have H : ∀ i, (h : i < 14) → SentAt w (gnum i) (ads.getD i ⟨0, 0, none⟩) := fun i hi => by
    obtain ⟨x, hx, hg⟩ := lst14_at i hi
    have ha : ads[i]? = some (ads.getD i ⟨0, 0, none⟩) := by simp [List.getElem?_eq_getElem (show i < ads.length by omega)]
    exact e3 i x _ _ hx ha hg
  refine ⟨fun i hi => (H i hi).1, fun i j hi hj h => ?_, fun i hi => (H i hi).2.1, fun i hi => cell_lt (H i hi).1⟩
  have h1 : i < ads.length := by omega
  have h2 : j < ads.length := by omega
  simp [h1, h2] at h
  exact (List.getElem_inj e2).1 h
theorem laid_errs {W : World} {d d' : DataW Unit} {n n' : String} (h : laidMet Tryd.prog ((n, d) :: ((lst14.map fun x => (x.1, errData x.2)) ++ [(n', d')])) W) : ∃ ad, Errs W ad := by
  obtain ⟨ps, hv, hnd, hrows⟩ := h
  obtain ⟨g, t, cs, fuel, p, q, hg, ht, hv1, hd, hq, e⟩ := hv
  subst e
  have hnd2 := List.nodup_append.1 hnd
  obtain ⟨ads, h1, _, h2, h3⟩ := sents_app _ lst14 q hq hnd2.2.1 (fun b off hb => hrows b off (List.mem_append_right _ hb)) lst14_ty
  exact ⟨_, errs_of h1 h2 h3⟩
theorem codecSays_met (os : Os) (args : Array Value) : laidMet Tryd.prog Rows.codecSaysRow.laid ((laidWorld os).forCall (fun _ _ => 0) ⟨#[], args, []⟩).memory :=
  laidMet_of_run' 8 (by kernel_rfl) (by kernel_rfl)
theorem codecSays_errs {W : World} (h : laidMetH Tryd.prog Rows.codecSaysRow.laid W) : ∃ ad, Errs W ad := laid_errs (show laidMet Tryd.prog _ W from h)
theorem codecBack_met (os : Os) (args : Array Value) : laidMet Tryd.prog Rows.codecBackRow.laid ((laidWorld os).forCall (fun _ _ => 0) ⟨#[], args, []⟩).memory :=
  codecSays_met os args
theorem codecBack_errs {W : World} (h : laidMetH Tryd.prog Rows.codecBackRow.laid W) : ∃ ad, Errs W ad := codecSays_errs h
theorem codecCut_met (os : Os) (args : Array Value) : laidMet Tryd.prog Rows.codecCutRow.laid ((laidWorld os).forCall (fun _ _ => 0) ⟨#[], args, []⟩).memory :=
  codecSays_met os args
theorem codecCut_errs {W : World} (h : laidMetH Tryd.prog Rows.codecCutRow.laid W) : ∃ ad, Errs W ad := codecSays_errs h
theorem codecConsts_met (os : Os) (args : Array Value) : laidMet Tryd.prog Rows.codecConstsRow.laid ((laidWorld os).forCall (fun _ _ => 0) ⟨#[], args, []⟩).memory :=
  codecSays_met os args
theorem codecConsts_errs {W : World} (h : laidMetH Tryd.prog Rows.codecConstsRow.laid W) : ∃ ad, Errs W ad := codecSays_errs h
theorem codecHeads_met (os : Os) (args : Array Value) : laidMet Tryd.prog Rows.codecHeadsRow.laid ((laidWorld os).forCall (fun _ _ => 0) ⟨#[], args, []⟩).memory :=
  codecSays_met os args
theorem codecHeads_errs {W : World} (h : laidMetH Tryd.prog Rows.codecHeadsRow.laid W) : ∃ ad, Errs W ad := codecSays_errs h
theorem codecApart_met (os : Os) (args : Array Value) : laidMet Tryd.prog Rows.codecApartRow.laid ((laidWorld os).forCall (fun _ _ => 0) ⟨#[], args, []⟩).memory :=
  codecSays_met os args
theorem codecApart_errs {W : World} (h : laidMetH Tryd.prog Rows.codecApartRow.laid W) : ∃ ad, Errs W ad := codecSays_errs h
end Go.Proofs.YtnojejplckhifaaDoor
