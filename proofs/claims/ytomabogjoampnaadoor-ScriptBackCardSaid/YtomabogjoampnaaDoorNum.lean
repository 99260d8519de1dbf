/- The contracts of slices.IndexFunc and ContainsFunc at the reader's closure, and of the reader's number. -/
import Derived.Test.YtomabogjoampnaaDoorNew
import Derived.Test.YtomabogjoampnaaDoorTake
namespace Go.Proofs.YtomabogjoampnaaDoor
open Go.RowKit
set_option linter.unusedVariables false

/-- all that was there is as it was, but for block g -/
structure But (g : Nat) (w w' : World) : Prop where
  os : w'.os = w.os
  tape : w'.tape = w.tape
  output : w'.output = w.output
  size : w.heap.size ≤ w'.heap.size
  block : ∀ k, k < w.heap.size → k ≠ g → w'.heap[k]? = w.heap[k]?
section
variable {g : Nat} {w w' w'' : World}
theorem But.refl : But g w w := ⟨rfl, rfl, rfl, Nat.le_refl _, fun _ _ _ => rfl⟩
theorem But.trans (h : But g w w') (h' : But g w' w'') : But g w w'' :=
  ⟨h'.os.trans h.os, h'.tape.trans h.tape, h'.output.trans h.output, Nat.le_trans h.size h'.size, fun k hk hn => (h'.block k (Nat.lt_of_lt_of_le hk h.size) hn).trans (h.block k hk hn)⟩
theorem But.of (h : Below w.heap.size w w') : But g w w' := ⟨h.os, h.tape, h.output, h.size, fun k hk _ => h.block k hk⟩
theorem But.alloc (h : But g w w') (o : Obj) : But g w (w'.alloc o) := h.trans (But.of ((Below.refl _ _).alloc (Nat.le_refl _) o))
theorem But.drewN (h : But g w w') (n : Nat) : But g w (w'.drewN n) := ⟨h.os, h.tape, h.output, h.size, h.block⟩
theorem But.drew (h : But g w w') : But g w w'.drew := ⟨h.os, h.tape, h.output, h.size, h.block⟩
theorem But.setCell (h : But g w w') (i : Nat) (u : Value) : But g w (w'.setCell ⟨g, i, none⟩ u) :=
  ⟨h.os, h.tape, h.output, by simpa [World.setCell] using h.size, fun k hk hn => (Below.heap_setCell w' ⟨g, i, none⟩ u k hn).trans (h.block k hk hn)⟩
theorem But.below {B : Nat} (h : But g w w') (hB : B ≤ g) (hw : B ≤ w.heap.size) : Below B w w' := ⟨h.os, h.tape, h.output, h.size, fun k hk => h.block k (by omega) (by omega)⟩
theorem But.cell (h : But g w w') {p : Addr} (hp : p.block < w.heap.size) (hn : p.block ≠ g) : w'.cell? p = w.cell? p := World.cell?_of_block (w := w) (h.block p.block hp hn)
theorem But.reads (h : But g w w') {size n : Nat} {A : Option Addr} {xs : List Value} (hg : g ≤ w.heap.size) (hr : Reads w g size A n xs) : Reads w' g size A n xs := hr.keep fun p hp => h.cell (by omega) (by omega)
theorem But.blk (h : But g w w') {k : Nat} {t : TypeId} {cs : Array Value} (hk : Blk w k t cs) (hn : k ≠ g) : Blk w' k t cs := (h.block k hk.lt hn).trans hk
theorem But.own (h : But g w w') {base : Nat} {e : TypeId} {size n : Nat} {v : Value} {xs : List Value} (ho : w.ownsRow base e size v n xs) (hg : g < base) : w'.ownsRow base e size v n xs := by
  refine ⟨ho.1, ?_⟩
  rcases ho.2 with hv | ⟨k, cap, cur, hv, hk, hh, h1⟩
  · exact .inl hv
  · exact .inr ⟨k, cap, cur, hv, hk, (h.block k (Blk.lt (t := e) (cs := cur) hh) (by omega)).trans hh, h1⟩
end
theorem low_any (x : Nat) (w : World) : Calls Tryd.prog 37 #[.int .u8 (x : Int)] w fun e w' => e = .returned (.bool (decide (x < 128))) ∧ w' = w := by
  by_cases h : x < 128
  · have t1 : decide ((x : Int) < 128) = true := by simp; omega
    have t2 : decide (x < 128) = true := by simpa using h
    go_enter Tryd.func37, Tryd.ntmps37
    go_wp2
    go_ret
    exact ⟨by rw [t2]; rfl, rfl⟩
  · have t1 : decide ((x : Int) < 128) = false := by simp; omega
    have t2 : decide (x < 128) = false := by simpa using h
    go_enter Tryd.func37, Tryd.ntmps37
    go_wp2
    go_ret
    exact ⟨by rw [t2]; rfl, rfl⟩
def IdxRel (l : List Nat) (si : Value) : Prop := ∃ k : Nat, k ≤ l.length ∧ si = .int .i64 (k : Int) ∧ ∀ x ∈ l.take k, 128 ≤ x
def idxV (l : List Nat) : Int := match l.findIdx? (fun x => decide (x < 128)) with | some k => (k : Int) | none => -1
set_option maxRecDepth 100000 in
set_option maxHeartbeats 400000 in
theorem index_any (A : Option Addr) (n c : Nat) (l : List Nat) (w : World) (ha : Reads w w.heap.size 1 A n (l.map bv)) (hn : n ≤ 1048576) :
    Calls Tryd.prog 39 #[.slice A n c, .func (Fn.func 37) #[] #[]] w fun e w' => (∃ z : Int, e = .returned (.int .i64 z) ∧ (0 ≤ z ↔ ∃ x ∈ l, x < 128)) ∧ w = w' := by
  have HL : Hid (l.length = n) := Lib.hid (by have := ha.1; simpa using this)
  go_enter Tryd.func39, Tryd.ntmps39
  go_wp2
  go_loop [8] (fun si => IdxRel l si) (fun si => n - (intOf si).toNat)
  case atStart => exact ⟨0, Nat.zero_le _, rfl, by simp⟩
  case round =>
    obtain ⟨k, hk, rfl, hall⟩ := hrel
    have HA := Lib.hid hall
    clear hall
    by_cases hlt : k < n
    · obtain ⟨ad, v, rfl, had, hv, hcell⟩ := ha.at_ hlt
      rw [List.getElem?_map] at hv
      obtain ⟨x, hx, rfl⟩ := Option.map_eq_some_iff.1 hv
      have HX := Lib.hid hx
      clear hv hx
      unfold bv at hcell
      have kn : (k : Int) < n := by omega
      by_cases hlow : x < 128
      · have tl : decide (x < 128) = true := by simpa using hlow
        have HLW := Lib.hid hlow
        clear hlow
        go_wp2_with fail
        refine (low_any x _).mono ?_
        rintro e w2 ⟨rfl, rfl⟩
        go_wp2
        go_ret
        exact ⟨⟨k, rfl, fun _ => ⟨x, List.mem_of_getElem? HX.out, HLW.out⟩, fun _ => by omega⟩, rfl⟩
      · have tl : decide (x < 128) = false := by simpa using hlow
        have HLW := Lib.hid hlow
        clear hlow
        go_wp2_with fail
        refine (low_any x _).mono ?_
        rintro e w2 ⟨rfl, rfl⟩
        go_wp2
        go_roundw
        case rel =>
          refine ⟨k + 1, by have := HL.out; omega, by go_num, fun y hy => ?_⟩
          obtain ⟨hk', e⟩ := List.getElem?_eq_some_iff.1 HX.out
          rw [List.take_succ_eq_append_getElem hk'] at hy
          rcases List.mem_append.1 hy with hy | hy
          · exact HA.out y hy
          · simp at hy
            have := HLW.out
            omega
        case measure => simp [intOf]; omega
    · go_wp2
      go_ret
      refine ⟨⟨-1, rfl, fun h => absurd h (by decide), fun ⟨x, hx, h⟩ => ?_⟩, rfl⟩
      have := HA.out x (by rw [List.take_of_length_le (by have := HL.out; omega)]; exact hx)
      omega
def allHigh (l : List Nat) : Prop := ∀ x ∈ l, 128 ≤ x
set_option maxRecDepth 100000 in
theorem contains_any (A : Option Addr) (n c : Nat) (l : List Nat) (w : World) (ha : Reads w w.heap.size 1 A n (l.map bv)) (hn : n ≤ 1048576) :
    Calls Tryd.prog 36 #[.slice A n c, .func (Fn.func 37) #[] #[]] w fun e w' => (∃ b, e = .returned (.bool b) ∧ (b = false ↔ allHigh l)) ∧ w = w' := by
  have HA := Lib.hid ha
  clear ha
  go_enter Tryd.func36, Tryd.ntmps36
  go_wp2_with fail
  refine (index_any A n c l _ HA.out hn).mono ?_
  rintro e w2 ⟨⟨z, rfl, hz⟩, rfl⟩
  have HZ := Lib.hid hz
  clear hz
  go_wp2
  go_ret
  refine ⟨⟨_, rfl, ?_⟩, rfl⟩
  unfold allHigh
  have := HZ.out
  constructor
  · intro h x hx
    rcases Nat.lt_or_ge x 128 with h1 | h1
    · have := this.2 ⟨x, hx, h1⟩
      simp at h
      omega
    · exact h1
  · intro h
    simp
    by_cases h1 : z < 0
    · exact h1
    · obtain ⟨x, hx, h2⟩ := this.1 (by omega)
      have := h x hx
      omega
end Go.Proofs.YtomabogjoampnaaDoor
