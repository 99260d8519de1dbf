/- The reader in memory; the contract of its fail. -/
import Derived.Test.YtnojejplckhifaaDoorPB
import Derived.Test.YtnojejplckhifaaDoorPC
import Derived.Test.YtnojejplckhifaaDoorPA
import Derived.Test.YtnojejplckhifaaDoorTake
import Derived.Deep.RegionHeld3
import Derived.Deep.QuietTactic
import Derived.BigQuiet
namespace Go.Proofs.YtnojejplckhifaaDoor
open Go.RowKit
set_option linter.unusedVariables false

def ErrV (w : World) (g : Nat) (ad : Nat → Addr) (ev : Value) : Option (Nat × Nat) → Prop
  | none => ev = .nilIface
  | some kp => ∃ p, ev = .iface 104 (.pointer (some ⟨p, 0, none⟩)) ∧ g < p ∧ Blk w p 106 #[.int .i64 (kp.2 : Int), .iface 147 (.pointer (some (ad kp.1)))]
theorem ErrV.but {w w' : World} {g : Nat} {ad : Nat → Addr} {ev : Value} {o : Option (Nat × Nat)} (h : ErrV w g ad ev o) (hb : But g w w') : ErrV w' g ad ev o := by
  cases o with
  | none => exact h
  | some kp =>
    obtain ⟨p, h1, h2, h3⟩ := h
    exact ⟨p, h1, h2, hb.blk h3 (by omega)⟩
/-- the reader in block g, over the bytes B (n of them), stands in the state s -/
structure RdAt (w : World) (g : Nat) (B : Option Addr) (n c : Nat) (ad : Nat → Addr) (s : RS) : Prop where
  blk : ∃ ev, Blk w g 78 #[.slice B n c, .int .i64 (s.at_ : Int), ev] ∧ ErrV w g ad ev s.err
  le : s.at_ ≤ n
theorem RdAt.lt {w : World} {g : Nat} {B : Option Addr} {n c : Nat} {ad : Nat → Addr} {s : RS} (h : RdAt w g B n c ad s) : g < w.heap.size := by
  obtain ⟨ev, h1, _⟩ := h.blk
  exact h1.lt
theorem RdAt.drewN {w : World} {g : Nat} {B : Option Addr} {n c : Nat} {ad : Nat → Addr} {s : RS} (h : RdAt w g B n c ad s) (k : Nat) : RdAt (w.drewN k) g B n c ad s := by
  obtain ⟨ev, h1, h2⟩ := h.blk
  refine ⟨⟨ev, h1.drewN k, ?_⟩, h.le⟩
  exact h2.but (But.refl.drewN k)
theorem RdAt.drew {w : World} {g : Nat} {B : Option Addr} {n c : Nat} {ad : Nat → Addr} {s : RS} (h : RdAt w g B n c ad s) : RdAt w.drew g B n c ad s := by
  obtain ⟨ev, h1, h2⟩ := h.blk
  refine ⟨⟨ev, h1.drew, ?_⟩, h.le⟩
  exact h2.but But.refl.drew
theorem RdAt.c0 {w : World} {g : Nat} {B : Option Addr} {n c : Nat} {ad : Nat → Addr} {s : RS} (h : RdAt w g B n c ad s) : w.cell? ⟨g, 0, none⟩ = some (.slice B n c) := by
  obtain ⟨ev, h1, _⟩ := h.blk
  exact h1.cell 0
theorem RdAt.c1 {w : World} {g : Nat} {B : Option Addr} {n c : Nat} {ad : Nat → Addr} {s : RS} (h : RdAt w g B n c ad s) : w.cell? ⟨g, 1, none⟩ = some (.int .i64 (s.at_ : Int)) := by
  obtain ⟨ev, h1, _⟩ := h.blk
  exact h1.cell 1
theorem RdAt.f1 {w : World} {g : Nat} {B : Option Addr} {n c : Nat} {ad : Nat → Addr} {s : RS} (h : RdAt w g B n c ad s) : w.frozen? ⟨g, 1, none⟩ = false := by
  obtain ⟨ev, h1, _⟩ := h.blk
  exact h1.frozen 1
/-- it steps on -/
theorem RdAt.step {w : World} {g : Nat} {B : Option Addr} {n c : Nat} {ad : Nat → Addr} {s : RS} (h : RdAt w g B n c ad s) (he : s.err = none) (a : Nat) (ha : a ≤ n) : RdAt (w.setCell ⟨g, 1, none⟩ (.int .i64 (a : Int))) g B n c ad ⟨a, none⟩ := by
  obtain ⟨ev, h1, h2⟩ := h.blk
  rw [he] at h2
  have h3 : ev = .nilIface := h2
  subst h3
  exact ⟨⟨.nilIface, h1.set_ 1 _, rfl⟩, ha⟩
theorem failR_at (s : RS) (k p : Nat) : (failR s k p).at_ = s.at_ := by unfold failR; split <;> rfl
/-- what a reader stands on -/
structure Env (w : World) (g : Nat) (B : Option Addr) (n c : Nat) (l : List Nat) (ad : Nat → Addr) : Prop where
  reads : Reads w g 1 B n (l.map bv)
  byte : ∀ x ∈ l, x < 256
  hn : n ≤ 16384
  hc : n ≤ c
  hcm : c ≤ maxLen
  ee : w.cell? ⟨3, 0, none⟩ = some (.iface 147 (.pointer (some (ad 5))))
  eb : w.cell? ⟨1, 0, none⟩ = some (.iface 147 (.pointer (some (ad 6))))
  big : 14 ≤ g
  lt : g < w.heap.size
theorem Env.len {w : World} {g : Nat} {B : Option Addr} {n c : Nat} {l : List Nat} {ad : Nat → Addr} (h : Env w g B n c l ad) : l.length = n := by have := h.reads.1; simpa using this
theorem Env.but {w w' : World} {g : Nat} {B : Option Addr} {n c : Nat} {l : List Nat} {ad : Nat → Addr} (h : Env w g B n c l ad) (hb : But g w w') : Env w' g B n c l ad where
  reads := hb.reads (Nat.le_of_lt h.lt) h.reads
  byte := h.byte
  hn := h.hn
  hc := h.hc
  hcm := h.hcm
  ee := (hb.cell (p := ⟨3, 0, none⟩) (by have := h.big; have := h.lt; simp; omega) (by have := h.big; simp; omega)).trans h.ee
  eb := (hb.cell (p := ⟨1, 0, none⟩) (by have := h.big; have := h.lt; simp; omega) (by have := h.big; simp; omega)).trans h.eb
  big := h.big
  lt := Nat.lt_of_lt_of_le h.lt hb.size
def RPost (w : World) (g : Nat) (B : Option Addr) (n c : Nat) (ad : Nat → Addr) (v : Value) (s : RS) (e : Ending) (w' : World) : Prop := e = .returned v ∧ RdAt w' g B n c ad s ∧ But g w w'
theorem err_world {w V : World} {g n c : Nat} {B : Option Addr} {at_ : Int} {ev pv : Value} {pos : Int} (h : Blk V g 78 #[.slice B n c, .int .i64 at_, ev]) (hb : But g w V) :
    Blk ((V.setCell ⟨g, 2, none⟩ (.iface 104 (.pointer (some ⟨V.heap.size, 0, none⟩)))).alloc (Obj.cells #[.int .i64 pos, pv] 106)) g 78 #[.slice B n c, .int .i64 at_, .iface 104 (.pointer (some ⟨V.heap.size, 0, none⟩))] ∧
    But g w ((V.setCell ⟨g, 2, none⟩ (.iface 104 (.pointer (some ⟨V.heap.size, 0, none⟩)))).alloc (Obj.cells #[.int .i64 pos, pv] 106)) ∧
    Blk ((V.setCell ⟨g, 2, none⟩ (.iface 104 (.pointer (some ⟨V.heap.size, 0, none⟩)))).alloc (Obj.cells #[.int .i64 pos, pv] 106)) V.heap.size 106 #[.int .i64 pos, pv] := by
  refine ⟨((Blk.set_ h 2 _).alloc _), ((hb.setCell 2 _).alloc _), ?_⟩
  have := Blk.new (V.setCell ⟨g, 2, none⟩ (.iface 104 (.pointer (some ⟨V.heap.size, 0, none⟩)))) 106 #[.int .i64 pos, pv]
  rw [show (V.setCell ⟨g, 2, none⟩ (.iface 104 (.pointer (some ⟨V.heap.size, 0, none⟩)))).heap.size = V.heap.size by simp [World.setCell]] at this
  exact this
set_option maxRecDepth 100000 in
set_option maxHeartbeats 1000000 in
theorem fail_any (g : Nat) (B : Option Addr) (n c : Nat) (ad : Nat → Addr) (s : RS) (k pos : Nat) (w : World) (h : RdAt w g B n c ad s) :
    Calls Tryd.prog 46 #[.pointer (some ⟨g, 0, none⟩), .int .i64 (pos : Int), .iface 147 (.pointer (some (ad k)))] w (RPost w g B n c ad (.tuple #[]) (failR s k pos)) := by
  obtain ⟨ev, hblk, herr⟩ := h.blk
  have HLE := Lib.hid h.le
  have HB := Lib.hid hblk
  have c2 := hblk.cell 2
  have f2 := hblk.frozen 2
  have hlt := hblk.lt
  obtain ⟨a, er⟩ := s
  simp only [] at HB HLE hblk herr
  cases er with
  | some kp =>
    have HER := Lib.hid herr
    obtain ⟨p, he, hp, hpb⟩ := herr
    subst he
    have c2' : w.cell? ⟨g, 2, none⟩ = some (.iface 104 (.pointer (some ⟨p, 0, none⟩))) := c2
    clear hblk c2 h hp hpb
    go_enter Tryd.func46, Tryd.ntmps46
    go_wp2
    go_end0
    exact ⟨rfl, ⟨⟨_, HB.out, HER.out⟩, HLE.out⟩, But.refl⟩
  | none =>
    have he : ev = .nilIface := herr
    subst he
    have c2' : w.cell? ⟨g, 2, none⟩ = some .nilIface := c2
    clear hblk c2 h herr
    go_enter Tryd.func46, Tryd.ntmps46
    go_wp2
    all_goals go_end0
    all_goals (
      obtain ⟨u1, u2, u3⟩ := err_world (w := w) (pos := (pos : Int)) (pv := .iface 147 (.pointer (some (ad k)))) HB.out But.refl
      exact ⟨rfl, ⟨⟨_, u1, ⟨w.heap.size, rfl, hlt, u3⟩⟩, HLE.out⟩, u2⟩)
end Go.Proofs.YtnojejplckhifaaDoor
