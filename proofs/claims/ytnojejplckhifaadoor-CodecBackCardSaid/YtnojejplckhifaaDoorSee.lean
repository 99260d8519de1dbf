/- The contracts of overdrivesee.Alike, sentinels, sentinel: which of the document's errors one is. -/
import Derived.Test.YtnojejplckhifaaDoorRefs
import Derived.Test.YtnojejplckhifaaDoorSents
import Derived.Test.YtnojejplckhifaaDoorEv
namespace Go.Proofs.YtnojejplckhifaaDoor
open Go.RowKit
set_option linter.unusedVariables false

/-- the variables, in the order of the errors' numbers -/
def gnum (i : Nat) : Nat := [0, 2, 5, 4, 6, 3, 1, 7, 8, 9, 10, 11, 12, 13].getD i 0
structure Errs (w : World) (ad : Nat → Addr) : Prop where
  cell : ∀ i, i < 14 → w.cell? ⟨gnum i, 0, none⟩ = some (eV (ad i))
  inj : ∀ i j, i < 14 → j < 14 → ad i = ad j → i = j
  blk : ∀ i, i < 14 → ∃ c t, w.heap[(ad i).block]? = some (.cells c t (0, 0))
  big : ∀ i, i < 14 → gnum i < w.heap.size
theorem Errs.below {w w' : World} {ad : Nat → Addr} (h : Errs w ad) (hb : Below w.heap.size w w') : Errs w' ad where
  cell i hi := (hb.cell (p := ⟨gnum i, 0, none⟩) (by have := h.big i hi; simp; omega)).trans (h.cell i hi)
  inj := h.inj
  blk i hi := by
    obtain ⟨c, t, hc⟩ := h.blk i hi
    refine ⟨c, t, (hb.block _ ?_).trans hc⟩
    rcases Nat.lt_or_ge (ad i).block w.heap.size with h' | h'
    · exact h'
    · rw [Array.getElem?_eq_none h'] at hc; cases hc
  big i hi := Nat.lt_of_lt_of_le (h.big i hi) hb.size

theorem ptrInfo : (Tryd.prog.info? 147).map (·.comparable) = some true := by kernel_rfl
theorem errInfo : (Tryd.prog.info? 165).map (·.size) = some 1 := by kernel_rfl
theorem alike_same (a : Addr) (w : World) : Calls Tryd.prog 81 #[eV a, eV a] w fun e w' => e = .returned (.bool true) ∧ w = w' := by
  obtain ⟨i, hi, hc⟩ := Option.map_eq_some_iff.1 ptrInfo
  obtain ⟨j, hj, hs⟩ := Option.map_eq_some_iff.1 errInfo
  have he := run_eql_iface_ptr_same (P := Tryd.prog) w a Tryd.underlying30 Tryd.underlying147 hi hc hj
  clear hi hc hj hs
  unfold eV
  go_enter Tryd.func81, Tryd.ntmps81
  go_wp2
  go_ret
  exact ⟨rfl, rfl⟩
theorem alike_other (a b : Addr) (w : World) (hne : a ≠ b) (ha : ∃ c t, w.heap[a.block]? = some (.cells c t (0, 0))) (hb : ∃ c t, w.heap[b.block]? = some (.cells c t (0, 0))) :
    Calls Tryd.prog 81 #[eV a, eV b] w fun e w' => e = .returned (.bool false) ∧ w = w' := by
  obtain ⟨i, hi, hc⟩ := Option.map_eq_some_iff.1 ptrInfo
  obtain ⟨j, hj, hs⟩ := Option.map_eq_some_iff.1 errInfo
  obtain ⟨ca, ta, ha⟩ := ha
  obtain ⟨cb, tb, hb⟩ := hb
  have he := run_eql_iface_ptr_other (P := Tryd.prog) w Tryd.underlying30 Tryd.underlying147 hi hc hj (by omega) hne ha hb
  clear hi hc hj hs ha hb hne
  unfold eV
  go_enter Tryd.func81, Tryd.ntmps81
  go_wp2
  go_ret
  exact ⟨rfl, rfl⟩
def sentL (ad : Nat → Addr) : List Value := [eV (ad 0), eV (ad 1), eV (ad 2), eV (ad 3), eV (ad 4), eV (ad 5), eV (ad 6), eV (ad 7), eV (ad 8), eV (ad 9), eV (ad 10), eV (ad 11), eV (ad 12), eV (ad 13)]
theorem sentL_at (ad : Nat → Addr) : ∀ i : Nat, i < 14 → (sentL ad)[i]? = some (eV (ad i))
  | 0, _ => rfl
  | 1, _ => rfl
  | 2, _ => rfl
  | 3, _ => rfl
  | 4, _ => rfl
  | 5, _ => rfl
  | 6, _ => rfl
  | 7, _ => rfl
  | 8, _ => rfl
  | 9, _ => rfl
  | 10, _ => rfl
  | 11, _ => rfl
  | 12, _ => rfl
  | 13, _ => rfl
  | n + 14, h => by omega
def SentsPost (w : World) (ad : Nat → Addr) (e : Ending) (w' : World) : Prop :=
  ∃ A c, e = .returned (.slice A 14 c) ∧ Reads w' w'.heap.size 1 A 14 (sentL ad) ∧ Below w.heap.size w w'
set_option maxRecDepth 100000 in
set_option maxHeartbeats 400000 in
theorem sentinels_any (ad : Nat → Addr) (w : World) (h : Errs w ad) : Calls Tryd.prog 80 #[] w (SentsPost w ad) := by
  have c0 : w.cell? ⟨0, 0, none⟩ = some (.iface 147 (.pointer (some (ad 0)))) := h.cell 0 (by omega)
  have c1 : w.cell? ⟨2, 0, none⟩ = some (.iface 147 (.pointer (some (ad 1)))) := h.cell 1 (by omega)
  have c2 : w.cell? ⟨5, 0, none⟩ = some (.iface 147 (.pointer (some (ad 2)))) := h.cell 2 (by omega)
  have c3 : w.cell? ⟨4, 0, none⟩ = some (.iface 147 (.pointer (some (ad 3)))) := h.cell 3 (by omega)
  have c4 : w.cell? ⟨6, 0, none⟩ = some (.iface 147 (.pointer (some (ad 4)))) := h.cell 4 (by omega)
  have c5 : w.cell? ⟨3, 0, none⟩ = some (.iface 147 (.pointer (some (ad 5)))) := h.cell 5 (by omega)
  have c6 : w.cell? ⟨1, 0, none⟩ = some (.iface 147 (.pointer (some (ad 6)))) := h.cell 6 (by omega)
  have c7 : w.cell? ⟨7, 0, none⟩ = some (.iface 147 (.pointer (some (ad 7)))) := h.cell 7 (by omega)
  have c8 : w.cell? ⟨8, 0, none⟩ = some (.iface 147 (.pointer (some (ad 8)))) := h.cell 8 (by omega)
  have c9 : w.cell? ⟨9, 0, none⟩ = some (.iface 147 (.pointer (some (ad 9)))) := h.cell 9 (by omega)
  have c10 : w.cell? ⟨10, 0, none⟩ = some (.iface 147 (.pointer (some (ad 10)))) := h.cell 10 (by omega)
  have c11 : w.cell? ⟨11, 0, none⟩ = some (.iface 147 (.pointer (some (ad 11)))) := h.cell 11 (by omega)
  have c12 : w.cell? ⟨12, 0, none⟩ = some (.iface 147 (.pointer (some (ad 12)))) := h.cell 12 (by omega)
  have c13 : w.cell? ⟨13, 0, none⟩ = some (.iface 147 (.pointer (some (ad 13)))) := h.cell 13 (by omega)
  have HB := Lib.hid h.big
  clear h
  go_enter Tryd.func80, Tryd.ntmps80
  go_wp2
  go_ret
  refine ⟨some ⟨w.heap.size, 0, none⟩, 14, rfl, ?_, (Below.refl _ _).alloc (Nat.le_refl _) _⟩
  exact reads_new w 30 _ 14 (sentL ad) rfl rfl
def SentRel (w : World) (k : Nat) (si : Value) (wr : World) : Prop := ∃ i : Nat, i ≤ k ∧ si = .int .i64 (i : Int) ∧ Below w.heap.size w wr
def IntPost (w : World) (n : Int) (e : Ending) (w' : World) : Prop := e = .returned (.int .i64 n) ∧ Below w.heap.size w w'
set_option maxRecDepth 100000 in
set_option maxHeartbeats 400000 in
theorem sentinel_any (ad : Nat → Addr) (k : Nat) (hk : k < 14) (w : World) (h : Errs w ad) : Calls Tryd.prog 70 #[eV (ad k)] w (IntPost w (101 + k)) := by
  have HE := Lib.hid h
  clear h
  go_enter Tryd.func70, Tryd.ntmps70
  go_wp2_with fail
  refine (sentinels_any ad _ HE.out).mono ?_
  rintro e w1 ⟨A, c, rfl, hr, hb⟩
  have HR := Lib.hid hr
  clear hr
  go_wp2_with fail
  go_loop [4] (fun si => ∃ i : Nat, i ≤ k ∧ si = .int .i64 (i : Int)) (fun si => k - (intOf si).toNat)
  case atStart => exact ⟨0, Nat.zero_le _, rfl⟩
  case round =>
    obtain ⟨i, hik, rfl⟩ := hrel
    obtain ⟨p, v, rfl, hp, hv, hcell⟩ := HR.out.at_ (k := i) (by omega)
    rw [sentL_at ad i (by omega)] at hv
    obtain rfl := Option.some.inj hv
    clear hv
    have hi14 : i < 14 := by omega
    by_cases hlt : i < k
    · go_wp2_with fail
      refine (alike_other _ _ _ ?_ ((HE.out.below hb).blk k hk) ((HE.out.below hb).blk i (by omega))).mono ?_
      · intro e; have := HE.out.inj k i hk (by omega) e; omega
      rintro e w2 ⟨rfl, rfl⟩
      go_wp2
      exact ⟨⟨i + 1, by omega, by go_num⟩, by simp [intOf]; omega⟩
    · have hki : i = k := by omega
      subst hki
      go_wp2_with fail
      refine (alike_same _ _).mono ?_
      rintro e w2 ⟨rfl, rfl⟩
      go_wp2
      go_ret
      exact ⟨rfl, hb⟩
end Go.Proofs.YtnojejplckhifaaDoor
