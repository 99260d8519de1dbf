/- The contracts of overdrivesee.Fault and Same at the errors that script answers. -/
import Derived.Test.YtnojejplckhifaaDoorSameF
namespace Go.Proofs.YtnojejplckhifaaDoor
open Go.RowKit
set_option linter.unusedVariables false

/-- what a fault's value reads as, in new memory: its number, its places -/
def FaultPost (w : World) (c : Int) (l : List Int) (e : Ending) (w' : World) : Prop :=
  ∃ A d, e = .returned (fV c (.slice A l.length d)) ∧ Reads w' w'.heap.size 1 A l.length (l.map (Value.int .i64)) ∧ (∀ x, A = some x → w.heap.size ≤ x.block) ∧ Below w.heap.size w w'
theorem reads_far {w : World} {B n g i : Nat} {A : Option Addr} {xs : List Value} {u : Value} (h : Reads w B 1 A n xs) (hA : ∀ x, A = some x → x.block ≠ g) : Reads (w.setCell ⟨g, i, none⟩ u) B 1 A n xs :=
  ⟨h.1, fun hn => by
    obtain ⟨ad, e, hb, hc⟩ := h.2 hn
    refine ⟨ad, e, hb, fun j v hv => ?_⟩
    rw [World.cell?_setCell_other _ _ _ _ (fun e' => hA ad e (by have := congrArg Addr.block e'; rw [block_of_add] at this; first | exact this | exact this.symm))]
    exact hc j v hv⟩
/-- what an error is as plain data: what fault answers, whatever it is -/
def Faulty (ev : Value) (c : Int) (l : List Int) (w0 : World) : Prop :=
  ∀ w, Below w0.heap.size w0 w → Calls Tryd.prog 56 #[ev, .int .i64 9] w (FaultPost w c l)
theorem faulty_leaf (ad : Nat → Addr) (k : Nat) (hk : k < 14) (w0 : World) (h : Errs w0 ad) : Faulty (.iface 147 (.pointer (some (ad k)))) (101 + k) [] w0 := by
  intro w hb
  refine (fault_leaf ad k hk 9 (by decide) w (h.below hb)).mono ?_
  rintro e w' ⟨he, hb'⟩
  exact ⟨none, 0, he, Reads.none_, (fun x hx => by cases hx), hb'⟩
theorem faulty_at (ad : Nat → Addr) (k : Nat) (hk : k < 14) (b : Nat) (pos : Int) (w0 : World) (h : Errs w0 ad) (hblk : Blk w0 b 106 #[.int .i64 pos, .iface 147 (.pointer (some (ad k)))]) :
    Faulty (.iface 104 (.pointer (some ⟨b, 0, none⟩))) (101 + k) [pos] w0 := by
  intro w hb
  refine (fault_at ad k hk b pos w (h.below hb) (hblk.below hb hblk.lt)).mono ?_
  rintro e w' ⟨b', he, hge, hB, hb'⟩
  exact ⟨some ⟨b', 0, none⟩, 1, he, ⟨rfl, fun _ => ⟨_, rfl, hB.lt, World.news_of_block hB⟩⟩, (fun x hx => by cases hx; exact hge), hb'⟩
set_option maxRecDepth 100000 in
theorem Fault_any (t : TypeId) (v : Value) (c : Int) (l : List Int) (w : World) (h : Faulty (.iface t v) c l w) :
    Calls Tryd.prog 25 #[.iface t v] w (FaultPost w c l) := by
  have HF := Lib.hid h
  clear h
  go_enter Tryd.func25, Tryd.ntmps25
  go_wp2_with fail
  refine (HF.out _ ((Below.refl _ _).alloc (Nat.le_refl _) _)).mono ?_
  rintro e w1 ⟨A, d, rfl, hr, hA, hb1⟩
  unfold fV
  have HR := Lib.hid hr
  clear hr
  have hbw : Below w.heap.size w w1 := ((Below.refl _ _).alloc (Nat.le_refl _) _).trans (hb1.mono (by simp))
  have c4 : w1.cell? ⟨w.heap.size, 0, none⟩ = some (.int .i64 0) := (hb1.cell (p := ⟨w.heap.size, 0, none⟩) (by simp)).trans ((Blk.new w _ _).cell 0)
  have c5 : w1.cell? ⟨w.heap.size, 1, none⟩ = some (.slice none 0 0) := (hb1.cell (p := ⟨w.heap.size, 1, none⟩) (by simp)).trans ((Blk.new w _ _).cell 1)
  have f4 : w1.frozen? ⟨w.heap.size, 0, none⟩ = false := (hb1.frozen (p := ⟨w.heap.size, 0, none⟩) (by simp)).trans ((Blk.new w _ _).frozen 0)
  have f5 : w1.frozen? ⟨w.heap.size, 1, none⟩ = false := (hb1.frozen (p := ⟨w.heap.size, 1, none⟩) (by simp)).trans ((Blk.new w _ _).frozen 1)
  have HA : Hid (∀ x, A = some x → w.heap.size + 1 ≤ x.block) := Lib.hid (by simpa using hA)
  clear hA
  go_wp2
  refine bodyPost_ret (v := fV c (.slice A l.length d)) ?_ rfl ⟨A, d, rfl, ?_, fun x hx => by have := HA.out x hx; omega, (hbw.setCell (p := ⟨w.heap.size, 0, none⟩) (Nat.le_refl _) _).setCell (p := ⟨w.heap.size, 1, none⟩) (Nat.le_refl _) _⟩
  · simp [results, Tryd.results25, go_sem, fV, c4, c5]
  · have hf : ∀ x, A = some x → x.block ≠ w.heap.size := fun x hx => by have := HA.out x hx; omega
    exact (reads_far (reads_far HR.out hf) hf).more (by simp [World.setCell])
set_option maxRecDepth 100000 in
theorem Same_any (t : TypeId) (v : Value) (c c' : Int) (l l' : List Int) (B : Option Addr) (m d' : Nat) (w : World) (h : Faulty (.iface t v) c l w) (hb : Reads w w.heap.size 1 B m (l'.map (Value.int .i64))) (hl : l.length ≤ 1000) :
    Calls Tryd.prog 13 #[.iface t v, fV c' (.slice B m d')] w (SameIPost w (decide (c = c') && sameI l l')) := by
  have HF : Hid (Faulty (.iface t v) c l w) := Lib.hid h
  have HB := Lib.hid hb
  clear h hb
  unfold fV
  go_enter Tryd.func13, Tryd.ntmps13
  go_wp2_with fail
  have hb0 : Below w.heap.size w (w.alloc (Obj.cells #[Value.int IntKind.i64 c', Value.slice B m d'] 35)) := (Below.refl _ _).alloc (Nat.le_refl _) _
  refine (Fault_any t v c l _ (fun w2 h2 => HF.out w2 (hb0.trans (h2.mono (by simp))))).mono ?_
  rintro e w1 ⟨A, d, rfl, hr, hA, hb1⟩
  have HR := Lib.hid hr
  clear hr hA
  unfold fV
  have hbw := hb0.trans (hb1.mono (by simp))
  have q0 : w1.cell? ⟨w.heap.size, 0, none⟩ = some (.int .i64 c') := (hb1.cell (p := ⟨w.heap.size, 0, none⟩) (by simp)).trans ((Blk.new w _ _).cell 0)
  have q1 : w1.cell? ⟨w.heap.size, 1, none⟩ = some (.slice B m d') := (hb1.cell (p := ⟨w.heap.size, 1, none⟩) (by simp)).trans ((Blk.new w _ _).cell 1)
  have b2 : w.heap.size < w1.heap.size := by have := hb1.size; simp at this; omega
  go_wp2_with fail
  refine (sameF_any c c' A B l.length m d d' l l' _ (by exact (HR.out.alloc (Nat.le_refl _) _).more (by simp)) (by exact (((HB.out.below hbw).more hbw.size).alloc (Nat.le_refl _) _).more (by simp)) hl).mono ?_
  rintro e w3 ⟨rfl, hb3⟩
  go_wp2
  go_ret
  exact ⟨rfl, (hbw.alloc hbw.size _).trans (hb3.mono (by simp; omega))⟩
theorem Is_any (t : TypeId) (v : Value) (c c' : Int) (l : List Int) (w : World) (h : Faulty (.iface t v) c l w) (hl : l.length ≤ 1000) :
    Calls Tryd.prog 15 #[.iface t v, .int .i64 c'] w (SameIPost w (decide (c = c') && sameI l [])) := by
  have HF : Hid (Faulty (.iface t v) c l w) := Lib.hid h
  clear h
  go_enter Tryd.func15, Tryd.ntmps15
  go_wp2_with fail
  refine (bare_any _ _).mono ?_
  rintro e w1 ⟨rfl, hb1⟩
  go_wp2_with fail
  refine (Same_any t v c c' l [] none 0 0 _ (fun w2 h2 => HF.out w2 (hb1.trans (h2.mono hb1.size))) Reads.none_ hl).mono ?_
  rintro e w2 ⟨rfl, hb2⟩
  go_wp2
  go_ret
  exact ⟨rfl, hb1.trans (hb2.mono hb1.size)⟩
end Go.Proofs.YtnojejplckhifaaDoor
