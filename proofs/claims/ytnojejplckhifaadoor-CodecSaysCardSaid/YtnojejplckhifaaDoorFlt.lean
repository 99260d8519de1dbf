/- An error as plain data, whatever Encode or Decode answered: overdrivesee.Fault, Same, Is of none, a bare one, one with a place, one with two. -/
import Derived.Test.YtnojejplckhifaaDoorPC
import Derived.Test.YtnojejplckhifaaDoorPMay
namespace Go.Proofs.YtnojejplckhifaaDoor
open Go.RowKit
set_option linter.unusedVariables false

theorem as_where_no (v : Value) (w : World) : (Instr.typeAssert (.iface 96 v) 30 104 true).run Tryd.prog w = .ok (.tuple #[.pointer none, .bool false]) w := by kernel_rfl
theorem as_where (v : Value) (w : World) : (Instr.typeAssert (.iface 96 v) 30 96 true).run Tryd.prog w = .ok (.tuple #[v, .bool true]) w := by kernel_rfl
def PlPost2 (w : World) (c p p' : Int) (e : Ending) (w' : World) : Prop :=
  ∃ b, e = .returned (fV c (.slice (some ⟨b, 0, none⟩) 2 2)) ∧ w.heap.size ≤ b ∧ Blk w' b 3 #[.int .i64 p, .int .i64 p'] ∧ Below w.heap.size w w'
set_option maxRecDepth 100000 in
set_option maxHeartbeats 400000 in
theorem fault_where (ad : Nat → Addr) (k : Nat) (hk : k < 14) (b : Nat) (m pc : Int) (w : World) (h : Errs w ad) (hblk : Blk w b 98 #[.int .i64 m, .int .i64 pc, .iface 147 (.pointer (some (ad k)))]) :
    Calls Tryd.prog 56 #[.iface 96 (.pointer (some ⟨b, 0, none⟩)), .int .i64 9] w (PlPost2 w (101 + k) m pc) := by
  have HE := Lib.hid h
  have HBK := Lib.hid hblk
  have hlt := hblk.lt
  clear h hblk
  have n1 := as_where_no
  have n2 := as_where
  have q0 : (w.alloc (Obj.cells #[Value.int IntKind.i64 0, Value.slice none 0 0] 35)).cell? ⟨b, 0, none⟩ = some (.int .i64 m) := (HBK.out.alloc _).cell 0
  have q1 : (w.alloc (Obj.cells #[Value.int IntKind.i64 0, Value.slice none 0 0] 35)).cell? ⟨b, 1, none⟩ = some (.int .i64 pc) := (HBK.out.alloc _).cell 1
  have q2 : (w.alloc (Obj.cells #[Value.int IntKind.i64 0, Value.slice none 0 0] 35)).cell? ⟨b, 2, none⟩ = some (.iface 147 (.pointer (some (ad k)))) := (HBK.out.alloc _).cell 2
  go_enter Tryd.func56, Tryd.ntmps56
  go_wp2_with fail
  refine (fault_leaf ad k hk _ (by decide) _ (HE.out.below ((Below.refl _ _).alloc (Nat.le_refl _) _))).mono ?_
  rintro e w1 ⟨rfl, hb1⟩
  unfold fV
  go_wp2_with fail
  have hbw : Below w.heap.size w w1 := ((Below.refl _ _).alloc (Nat.le_refl _) _).trans (hb1.mono (by simp))
  have hsz : w.heap.size + 1 ≤ w1.heap.size := by have := hb1.size; simpa using this
  have p0 : w1.cell? ⟨b, 0, none⟩ = some (.int .i64 m) := (hbw.cell (p := ⟨b, 0, none⟩) hlt).trans (HBK.out.cell 0)
  have p1 : w1.cell? ⟨b, 1, none⟩ = some (.int .i64 pc) := (hbw.cell (p := ⟨b, 1, none⟩) hlt).trans (HBK.out.cell 1)
  have c4 : w1.cell? ⟨w.heap.size, 0, none⟩ = some (.int .i64 0) := (hb1.cell (p := ⟨w.heap.size, 0, none⟩) (by simp)).trans ((Blk.new w _ _).cell 0)
  have c5 : w1.cell? ⟨w.heap.size, 1, none⟩ = some (.slice none 0 0) := (hb1.cell (p := ⟨w.heap.size, 1, none⟩) (by simp)).trans ((Blk.new w _ _).cell 1)
  have f4 : w1.frozen? ⟨w.heap.size, 0, none⟩ = false := (hb1.frozen (p := ⟨w.heap.size, 0, none⟩) (by simp)).trans ((Blk.new w _ _).frozen 0)
  have f5 : w1.frozen? ⟨w.heap.size, 1, none⟩ = false := (hb1.frozen (p := ⟨w.heap.size, 1, none⟩) (by simp)).trans ((Blk.new w _ _).frozen 1)
  have b1 : b < w1.heap.size := by omega
  have b2 : w.heap.size < w1.heap.size := by omega
  clear q0 q1 q2
  go_region
  all_goals go_wp2
  all_goals (
    have hB := (hbw.setCell (p := ⟨w.heap.size, 0, none⟩) (Nat.le_refl _) (Value.int IntKind.i64 (101 + k))).setCell (p := ⟨w.heap.size, 1, none⟩) (Nat.le_refl _) (Value.slice (some { block := w1.heap.size + 1, off := 0 }) 2 2)
    have hS : ((w1.setCell ⟨w.heap.size, 0, none⟩ (Value.int IntKind.i64 (101 + k))).setCell ⟨w.heap.size, 1, none⟩ (Value.slice (some { block := w1.heap.size + 1, off := 0 }) 2 2)).heap.size = w1.heap.size := by simp [World.setCell]
    refine bodyPost_ret (v := fV (101 + k) (.slice (some ⟨w1.heap.size + 1, 0, none⟩) 2 2)) ?_ rfl ⟨w1.heap.size + 1, rfl, by omega, ?_, ((hB.alloc (by rw [hS]; omega) _).alloc (by simp [World.setCell]; omega) _).drew⟩
    · simp [results, Tryd.results56, go_sem, fV, c4, c5, b2]
    · have := Blk.new (((w1.setCell ⟨w.heap.size, 0, none⟩ (Value.int IntKind.i64 (101 + k))).setCell ⟨w.heap.size, 1, none⟩ (Value.slice (some { block := w1.heap.size + 1, off := 0 }) 2 2)).alloc (Obj.cells #[Value.int IntKind.i64 (101 + k), Value.slice none 0 0] 35)) 3 #[Value.int IntKind.i64 m, Value.int IntKind.i64 pc]
      have e : (((w1.setCell ⟨w.heap.size, 0, none⟩ (Value.int IntKind.i64 (101 + k))).setCell ⟨w.heap.size, 1, none⟩ (Value.slice (some { block := w1.heap.size + 1, off := 0 }) 2 2)).alloc (Obj.cells #[Value.int IntKind.i64 (101 + k), Value.slice none 0 0] 35)).heap.size = w1.heap.size + 1 := by simp [World.setCell]
      rw [e] at this
      exact this.drew)
theorem faulty_where (ad : Nat → Addr) (k : Nat) (hk : k < 14) (b : Nat) (m pc : Int) (w0 : World) (h : Errs w0 ad) (hblk : Blk w0 b 98 #[.int .i64 m, .int .i64 pc, .iface 147 (.pointer (some (ad k)))]) :
    Faulty (.iface 96 (.pointer (some ⟨b, 0, none⟩))) (101 + k) [m, pc] w0 := by
  intro w hb
  refine (fault_where ad k hk b m pc w (h.below hb) (hblk.below hb hblk.lt)).mono ?_
  rintro e w' ⟨b', he, hge, hB, hb'⟩
  exact ⟨some ⟨b', 0, none⟩, 2, he, ⟨rfl, fun _ => ⟨_, rfl, hB.lt, World.news_of_block hB⟩⟩, (fun x hx => by cases hx; exact hge), hb'⟩
/-- its number, as the document counts, and its places -/
def fltC : Option (Nat × List Int) → Int
  | none => 0
  | some f => 101 + f.1
def fltL : Option (Nat × List Int) → List Int
  | none => []
  | some f => f.2
theorem faulty_flt {w : World} {ad : Nat → Addr} {v : Value} {f : Nat × List Int} (h : FltV w ad v (some f)) (hE : Errs w ad) (hk : f.1 < 14) : Faulty v (fltC (some f)) (fltL (some f)) w ∧ (∃ t u, v = .iface t u) ∧ f.2.length ≤ 2 := by
  match f, h with
  | (k, []), h => rw [show v = _ from h]; exact ⟨faulty_leaf ad k hk w hE, ⟨_, _, rfl⟩, by simp⟩
  | (k, [a]), ⟨p, h1, h2⟩ => rw [h1]; exact ⟨faulty_at ad k hk p a w hE h2, ⟨_, _, rfl⟩, by simp⟩
  | (k, [a, b]), ⟨p, h1, h2⟩ => rw [h1]; exact ⟨faulty_where ad k hk p a b w hE h2, ⟨_, _, rfl⟩, by simp⟩
set_option maxRecDepth 100000 in
theorem Fault_none (w : World) : Calls Tryd.prog 25 #[.nilIface] w (FaultPost w 0 []) := by
  go_enter Tryd.func25, Tryd.ntmps25
  go_wp2_with fail
  refine (none_any _).mono ?_
  rintro e w1 ⟨rfl, hb1⟩
  unfold fV
  have hbw : Below w.heap.size w w1 := ((Below.refl _ _).alloc (Nat.le_refl _) _).trans (hb1.mono (by simp))
  have c4 : w1.cell? ⟨w.heap.size, 0, none⟩ = some (.int .i64 0) := (hb1.cell (p := ⟨w.heap.size, 0, none⟩) (by simp)).trans ((Blk.new w _ _).cell 0)
  have c5 : w1.cell? ⟨w.heap.size, 1, none⟩ = some (.slice none 0 0) := (hb1.cell (p := ⟨w.heap.size, 1, none⟩) (by simp)).trans ((Blk.new w _ _).cell 1)
  have f4 : w1.frozen? ⟨w.heap.size, 0, none⟩ = false := (hb1.frozen (p := ⟨w.heap.size, 0, none⟩) (by simp)).trans ((Blk.new w _ _).frozen 0)
  have f5 : w1.frozen? ⟨w.heap.size, 1, none⟩ = false := (hb1.frozen (p := ⟨w.heap.size, 1, none⟩) (by simp)).trans ((Blk.new w _ _).frozen 1)
  go_wp2
  refine bodyPost_ret (v := fV 0 (.slice none 0 0)) ?_ rfl ⟨none, 0, rfl, Reads.none_, (fun x hx => by cases hx), (hbw.setCell (p := ⟨w.heap.size, 0, none⟩) (Nat.le_refl _) _).setCell (p := ⟨w.heap.size, 1, none⟩) (Nat.le_refl _) _⟩
  simp [results, Tryd.results25, go_sem, fV, c4, c5]
theorem Fault_flt (v : Value) (ad : Nat → Addr) (o : Option (Nat × List Int)) (w : World) (h : FltV w ad v o) (hE : Errs w ad) (hk : ∀ f, o = some f → f.1 < 14) :
    Calls Tryd.prog 25 #[v] w (FaultPost w (fltC o) (fltL o)) := by
  match o, h with
  | none, h => rw [show v = _ from h]; exact Fault_none w
  | some f, h =>
    obtain ⟨h1, ⟨t, u, rfl⟩, _⟩ := faulty_flt h hE (hk f rfl)
    exact Fault_any t u _ _ w h1
set_option maxRecDepth 100000 in
theorem Same_of (v : Value) (c c' : Int) (l l' : List Int) (B : Option Addr) (m d' : Nat) (w : World) (h : ∀ w2, Below w.heap.size w w2 → Calls Tryd.prog 25 #[v] w2 (FaultPost w2 c l)) (hb : Reads w w.heap.size 1 B m (l'.map (Value.int .i64))) (hl : l.length ≤ 1000) :
    Calls Tryd.prog 13 #[v, fV c' (.slice B m d')] w (SameIPost w (decide (c = c') && sameI l l')) := by
  have HF := Lib.hid h
  have HB := Lib.hid hb
  clear h hb
  unfold fV
  go_enter Tryd.func13, Tryd.ntmps13
  go_wp2_with fail
  have hb0 : Below w.heap.size w (w.alloc (Obj.cells #[Value.int IntKind.i64 c', Value.slice B m d'] 35)) := (Below.refl _ _).alloc (Nat.le_refl _) _
  refine (HF.out _ hb0).mono ?_
  rintro e w1 ⟨A, d, rfl, hr, hA, hb1⟩
  have HR := Lib.hid hr
  clear hr hA
  unfold fV
  have hbw := hb0.trans (hb1.mono (by simp))
  have q0 : w1.cell? ⟨w.heap.size, 0, none⟩ = some (.int .i64 c') := (hb1.cell (p := ⟨w.heap.size, 0, none⟩) (by simp)).trans ((Blk.new w _ _).cell 0)
  have q1 : w1.cell? ⟨w.heap.size, 1, none⟩ = some (.slice B m d') := (hb1.cell (p := ⟨w.heap.size, 1, none⟩) (by simp)).trans ((Blk.new w _ _).cell 1)
  have b2 : w.heap.size < w1.heap.size := by have := hb1.size; simp at this; omega
  go_wp2_with fail
  refine (sameF_any c c' A B l.length m d d' l l' _ (by exact (HR.out.alloc (Nat.le_refl _) _).more (by simp)) (by exact (((HB.out.below hbw).more hbw.size).alloc (Nat.le_refl _) _).more (by simp)) hl).mono ?_
  rintro e w3 ⟨rfl, hb3⟩
  go_wp2
  go_ret
  exact ⟨rfl, (hbw.alloc hbw.size _).trans (hb3.mono (by simp; omega))⟩
theorem fltL_len {w : World} {ad : Nat → Addr} {v : Value} {o : Option (Nat × List Int)} (h : FltV w ad v o) : (fltL o).length ≤ 2 := by
  match o, h with
  | none, h => exact Nat.zero_le _
  | some (k, []), h => exact Nat.zero_le _
  | some (k, [a]), h => simp [fltL]
  | some (k, [a, b]), h => simp [fltL]
/-- is an error that fault? -/
def fltIs (o : Option (Nat × List Int)) (c : Int) (l : List Int) : Bool := decide (fltC o = c) && sameI (fltL o) l
theorem Same_flt (v : Value) (ad : Nat → Addr) (o : Option (Nat × List Int)) (c' : Int) (l' : List Int) (B : Option Addr) (m d' : Nat) (w : World) (h : FltV w ad v o) (hE : Errs w ad) (hk : ∀ f, o = some f → f.1 < 14) (hb : Reads w w.heap.size 1 B m (l'.map (Value.int .i64))) :
    Calls Tryd.prog 13 #[v, fV c' (.slice B m d')] w (SameIPost w (fltIs o c' l')) :=
  Same_of v (fltC o) c' (fltL o) l' B m d' w (fun w2 h2 => Fault_flt v ad o w2 (h.below h2) (hE.below h2) hk) hb (by have := fltL_len h; omega)
set_option maxRecDepth 100000 in
theorem Is_flt (v : Value) (ad : Nat → Addr) (o : Option (Nat × List Int)) (c' : Int) (w : World) (h : FltV w ad v o) (hE : Errs w ad) (hk : ∀ f, o = some f → f.1 < 14) :
    Calls Tryd.prog 15 #[v, .int .i64 c'] w (SameIPost w (fltIs o c' [])) := by
  have HF : Hid (∀ w2, Below w.heap.size w w2 → Calls Tryd.prog 13 #[v, fV c' (.slice none 0 0)] w2 (SameIPost w2 (fltIs o c' []))) := Lib.hid (fun w2 h2 => Same_flt v ad o c' [] none 0 0 w2 (h.below h2) (hE.below h2) hk Reads.none_)
  clear h hE hk
  go_enter Tryd.func15, Tryd.ntmps15
  go_wp2_with fail
  refine (bare_any _ _).mono ?_
  rintro e w1 ⟨rfl, hb1⟩
  go_wp2_with fail
  refine (HF.out _ (by exact hb1)).mono ?_
  rintro e w2 ⟨rfl, hb2⟩
  go_wp2
  go_ret
  exact ⟨rfl, hb1.trans (hb2.mono hb1.size)⟩
end Go.Proofs.YtnojejplckhifaaDoor
