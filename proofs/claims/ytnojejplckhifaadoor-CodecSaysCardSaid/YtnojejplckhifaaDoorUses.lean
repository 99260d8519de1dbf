/- The contracts of slices.Index and Contains of ints, prog.uses, prog.head. -/
import Derived.Test.YtnojejplckhifaaDoorPrg
namespace Go.Proofs.YtnojejplckhifaaDoor
open Go.RowKit
set_option linter.unusedVariables false

def IRel (l : List Int) (x : Int) (si : Value) : Prop := ∃ k : Nat, k ≤ l.length ∧ si = .int .i64 (k : Int) ∧ ∀ y ∈ l.take k, y ≠ x
set_option maxRecDepth 100000 in
set_option maxHeartbeats 400000 in
theorem index_any (A : Option Addr) (n c : Nat) (l : List Int) (x : Int) (w : World) (ha : Reads w w.heap.size 1 A n (l.map (Value.int .i64))) (hn : n ≤ 1048576) :
    Calls Tryd.prog 96 #[.slice A n c, .int .i64 x] w fun e w' => (∃ z : Int, e = .returned (.int .i64 z) ∧ (0 ≤ z ↔ x ∈ l)) ∧ w = w' := by
  have HL : Hid (l.length = n) := Lib.hid (by have := ha.1; simpa using this)
  go_enter Tryd.func96, Tryd.ntmps96
  go_wp2
  go_loop [8] (fun si => IRel l x si) (fun si => n - (intOf si).toNat)
  case atStart => exact ⟨0, Nat.zero_le _, rfl, by simp⟩
  case round =>
    obtain ⟨k, hk, rfl, hall⟩ := hrel
    have HA := Lib.hid hall
    clear hall
    by_cases hlt : k < n
    · obtain ⟨ad, v, rfl, had, hv, hcell⟩ := ha.at_ hlt
      rw [List.getElem?_map] at hv
      obtain ⟨y, hy, rfl⟩ := Option.map_eq_some_iff.1 hv
      have HY := Lib.hid hy
      clear hv hy
      have kn : (k : Int) < n := by omega
      by_cases hxy : y = x
      · have u : (x == y) = true := by simp [hxy]
        have u2 : (y == x) = true := by simp [hxy]
        have HXY := Lib.hid hxy
        clear hxy
        go_wp2
        go_ret
        refine ⟨⟨k, rfl, fun _ => by rw [← HXY.out]; exact List.mem_of_getElem? HY.out, fun _ => by omega⟩, rfl⟩
      · have u : (x == y) = false := by simp; exact fun e => hxy e.symm
        have u2 : (y == x) = false := by simpa using hxy
        have HXY := Lib.hid hxy
        clear hxy
        go_wp2
        go_roundw
        case rel =>
          refine ⟨k + 1, by have := HL.out; omega, by go_num, fun z hz => ?_⟩
          obtain ⟨hk', e⟩ := List.getElem?_eq_some_iff.1 HY.out
          rw [List.take_succ_eq_append_getElem hk'] at hz
          rcases List.mem_append.1 hz with hz | hz
          · exact HA.out z hz
          · simp at hz
            rw [hz, e]
            exact HXY.out
        case measure => simp [intOf]; omega
    · go_wp2
      go_ret
      refine ⟨⟨-1, rfl, fun h => absurd h (by decide), fun h => ?_⟩, rfl⟩
      exact absurd rfl (HA.out x (by rw [List.take_of_length_le (by have := HL.out; omega)]; exact h))
set_option maxRecDepth 100000 in
theorem contains_any (A : Option Addr) (n c : Nat) (l : List Int) (x : Int) (w : World) (ha : Reads w w.heap.size 1 A n (l.map (Value.int .i64))) (hn : n ≤ 1048576) :
    Calls Tryd.prog 90 #[.slice A n c, .int .i64 x] w fun e w' => e = .returned (.bool (l.contains x)) ∧ w = w' := by
  have HA := Lib.hid ha
  clear ha
  go_enter Tryd.func90, Tryd.ntmps90
  go_wp2_with fail
  refine (index_any A n c l x _ HA.out hn).mono ?_
  rintro e w2 ⟨⟨z, rfl, hz⟩, rfl⟩
  have HZ := Lib.hid hz
  clear hz
  go_wp2
  go_ret
  refine ⟨?_, rfl⟩
  have := HZ.out
  have e : decide (z ≥ 0) = l.contains x := by
    rw [Bool.eq_iff_iff]
    simpa using this
  simp at e ⊢
  exact e
theorem hasA_list (op : Int) : [(3 : Int), 4, 22, 23, 24, 25, 26, 27, 28, 29, 30, 32].contains op = hasA op := by
  rw [Bool.eq_iff_iff, List.contains_iff_mem]
  simp [hasA, or_assoc]
set_option maxRecDepth 100000 in
theorem uses_any (op : Int) (w : World) : Calls Tryd.prog 75 #[.int .i64 op] w fun e w' => e = .returned (.tuple #[.bool (hasA op), .bool (hasB op), .bool (op == 1)]) ∧ Below w.heap.size w w' := by
  unfold hasB
  go_enter Tryd.func75, Tryd.ntmps75
  go_wp2_with fail
  refine (contains_any _ 12 _ [3, 4, 22, 23, 24, 25, 26, 27, 28, 29, 30, 32] op _ (by exact reads_new _ _ _ _ _ rfl rfl) (by decide)).mono ?_
  rintro e w2 ⟨rfl, rfl⟩
  rw [hasA_list]
  have HB : Hid (∀ o, Below w.heap.size w (w.alloc o)) := Lib.hid (fun o => (Below.refl _ _).alloc (Nat.le_refl _) o)
  cases h1 : op == 25
  · go_wp2
    go_ret3
    exact ⟨by rw [h1]; rfl, HB.out _⟩
  · go_wp2
    go_ret3
    exact ⟨by rw [h1]; rfl, HB.out _⟩
def optV (ad : Nat → Addr) : Option Nat → Value
  | none => .nilIface
  | some k => eV (ad k)
theorem toList_mk (s : List UInt8) : (⟨s.toArray⟩ : ByteArray).toList = s := by
  simp [ByteArray.toList_eq]
/-- what errors' variables hold, whatever was made since -/
def KeepsE (w : World) (ad : Nat → Addr) : Prop := ∀ w', Below w.heap.size w w' → (w'.cell? ⟨0, 0, none⟩ = some (eV (ad 0)) ∧ w'.cell? ⟨2, 0, none⟩ = some (eV (ad 1))) ∧ (w'.cell? ⟨5, 0, none⟩ = some (eV (ad 2)) ∧ w'.cell? ⟨4, 0, none⟩ = some (eV (ad 3)))
theorem Errs.keeps {w : World} {ad : Nat → Addr} (h : Errs w ad) : KeepsE w ad := fun w' hb => by
  have h' := h.below hb
  exact ⟨⟨h'.cell 0 (by decide), h'.cell 1 (by decide)⟩, ⟨h'.cell 2 (by decide), h'.cell 3 (by decide)⟩⟩
def HPost (w : World) (v : Value) (e : Ending) (w' : World) : Prop := e = .returned v ∧ Below w.heap.size w w'
end Go.Proofs.YtnojejplckhifaaDoor
