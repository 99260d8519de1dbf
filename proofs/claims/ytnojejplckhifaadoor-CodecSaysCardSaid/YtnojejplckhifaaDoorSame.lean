/- The contract of overdriveref.SameBytes: whether two slices of bytes hold the same. -/
import Derived.Test.YtnojejplckhifaaDoorPut
import Derived.Deep.QuietTactic
import Derived.BigQuiet
namespace Go.Proofs.YtnojejplckhifaaDoor
open Go.RowKit
set_option linter.unusedVariables false

def sameB (l l' : List Nat) : Bool := decide (l = l')
def SameRel (w : World) (l l' : List Nat) (si : Value) (wr : World) : Prop :=
  ∃ k : Nat, k ≤ l.length ∧ si = .int .i64 (k : Int) ∧ l.take k = l'.take k ∧ Below w.heap.size w wr
def SamePost (w : World) (b : Bool) (e : Ending) (w' : World) : Prop := e = .returned (.bool b) ∧ Below w.heap.size w w'

set_option maxRecDepth 100000 in
theorem same_any (A B : Option Addr) (n m c d : Nat) (l l' : List Nat) (w : World) (ha : Reads w w.heap.size 1 A n (l.map bv)) (hb : Reads w w.heap.size 1 B m (l'.map bv))
    (hn : n ≤ 1099511627776) :
    Calls Tryd.prog 16 #[.slice A n c, .slice B m d] w (SamePost w (sameB l l')) := by
  have hl : l.length = n := by have := ha.1; simpa using this
  have hl' : l'.length = m := by have := hb.1; simpa using this
  by_cases hnm : n = m
  · subst hnm
    have HL := Lib.hid hl
    have HL' := Lib.hid hl'
    clear hl hl'
    go_enter Tryd.func16, Tryd.ntmps16
    go_wp2
    go_loopw [5] (fun si wr => SameRel w l l' si wr) (fun si _ => n - (intOf si).toNat)
    case atStart => exact ⟨0, Nat.zero_le _, rfl, rfl, Below.refl _ _⟩
    case round =>
      obtain ⟨k, hk, rfl, htake, hbr⟩ := hrel
      have HT := Lib.hid htake
      clear htake
      by_cases hlt : k < n
      · obtain ⟨ad, v, rfl, had, hv, hcell⟩ := (ha.below hbr).at_ hlt
        obtain ⟨bd, v', rfl, hbd, hv', hcell'⟩ := (hb.below hbr).at_ hlt
        have hk1 : k < l.length := by have := HL.out; omega
        have hk2 : k < l'.length := by have := HL'.out; omega
        obtain ⟨x, hx⟩ : ∃ x, x = l[k] := ⟨_, rfl⟩
        obtain ⟨y, hy⟩ : ∃ y, y = l'[k] := ⟨_, rfl⟩
        have hvx : v = .int .u8 (x : Int) := by
          rw [List.getElem?_map, List.getElem?_eq_getElem hk1, ← hx] at hv
          simpa [bv] using hv.symm
        have hvy : v' = .int .u8 (y : Int) := by
          rw [List.getElem?_map, List.getElem?_eq_getElem hk2, ← hy] at hv'
          simpa [bv] using hv'.symm
        subst hvx hvy
        have HX := Lib.hid hx
        have HY := Lib.hid hy
        clear hv hv' hx hy
        have k0 : (0 : Int) ≤ k := by omega
        have kn : (k : Int) < n := by omega
        by_cases hxy : x = y
        · subst hxy
          go_wp2
          go_quiet (fail)
          go_wp2
          refine ⟨⟨k + 1, by omega, by go_num, ?_, below_drewN hbr nq⟩, by simp [intOf]; omega⟩
          rw [List.take_succ_eq_append_getElem hk1, List.take_succ_eq_append_getElem hk2, HT.out, ← HX.out, ← HY.out]
        · have hxy' : ((x : Int) == (y : Int)) = false := beq_eq_false_iff_ne.2 (by omega)
          go_wp2
          go_quiet (fail)
          go_wp2
          go_ret
          refine ⟨?_, below_drewN hbr nq⟩
          have : sameB l l' = false := by
            simp only [sameB, decide_eq_false_iff_not]
            intro e
            apply hxy
            rw [HX.out, HY.out]
            subst e
            rfl
          rw [this]
          rfl
      · go_wp2
        go_ret
        refine ⟨?_, hbr⟩
        have : sameB l l' = true := by
          simp only [sameB, decide_eq_true_eq]
          have h := HT.out
          rwa [List.take_of_length_le (by have := HL.out; omega), List.take_of_length_le (by have := HL'.out; omega)] at h
        rw [this]
        rfl
  · have hnm' : ((n : Int) == (m : Int)) = false := beq_eq_false_iff_ne.2 (by omega)
    have hnm2 : ((n : Int) != (m : Int)) = true := by rw [bne_iff_ne]; omega
    have HD : Hid (sameB l l' = false) := Lib.hid (by
      simp only [sameB, decide_eq_false_iff_not]
      intro e
      apply hnm
      rw [← hl, ← hl', e])
    clear hl hl' hnm
    go_enter Tryd.func16, Tryd.ntmps16
    go_wp2
    go_ret
    rw [HD.out]
    exact ⟨rfl, Below.refl _ _⟩
end Go.Proofs.YtnojejplckhifaaDoor
