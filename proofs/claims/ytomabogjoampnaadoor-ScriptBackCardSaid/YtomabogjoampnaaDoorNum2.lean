/- The contracts of the reader's number. -/
import Derived.Test.YtomabogjoampnaaDoorNum
namespace Go.Proofs.YtomabogjoampnaaDoor
open Go.RowKit
set_option linter.unusedVariables false

theorem take_some (A : Option Addr) (n c at_ : Nat) (l : List Nat) (u nx : Nat) (w : World) (ha : Reads w w.heap.size 1 A n (l.map bv)) (hb : ∀ x ∈ l, x < 256) (hn : n ≤ 1048576) (h : tk l (at_ : Int) = some (u, nx)) :
    Calls Tryd.prog 35 #[.slice A n c, .int .i64 (at_ : Int)] w fun e w' => e = .returned (.tuple #[.int .u64 (u : Int), .int .i64 (nx : Int), .bool true]) ∧ w' = w := by
  refine (take_any A n c at_ l w ha hb hn).mono ?_
  rintro e w' ⟨rfl, rfl⟩
  rw [h]
  exact ⟨rfl, rfl⟩
theorem take_none_ (A : Option Addr) (n c at_ : Nat) (l : List Nat) (w : World) (ha : Reads w w.heap.size 1 A n (l.map bv)) (hb : ∀ x ∈ l, x < 256) (hn : n ≤ 1048576) (h : tk l (at_ : Int) = none) :
    Calls Tryd.prog 35 #[.slice A n c, .int .i64 (at_ : Int)] w fun e w' => e = .returned (.tuple #[.int .u64 0, .int .i64 0, .bool false]) ∧ w' = w := by
  refine (take_any A n c at_ l w ha hb hn).mono ?_
  rintro e w' ⟨rfl, rfl⟩
  rw [h]
  exact ⟨rfl, rfl⟩
def Rdr (w : World) (g : Nat) (B : Option Addr) (n c at_ : Nat) (ev : Value) : Prop := Blk w g 73 #[.slice B n c, .int .i64 (at_ : Int), ev]
set_option maxRecDepth 100000 in
theorem number_past (g : Nat) (B : Option Addr) (n c at_ : Nat) (t : TypeId) (v : Value) (w : World) (h : Rdr w g B n c at_ (.iface t v)) :
    Calls Tryd.prog 31 #[.pointer (some ⟨g, 0, none⟩)] w fun e w' => e = .returned (.int .i64 0) ∧ w = w' := by
  have c2 : w.cell? ⟨g, 2, none⟩ = some (.iface t v) := h.cell 2
  clear h
  go_enter Tryd.func31, Tryd.ntmps31
  go_wp2
  go_ret
  exact ⟨rfl, rfl⟩
def NumOk (w : World) (g : Nat) (B : Option Addr) (n c u nx : Nat) (e : Ending) (w' : World) : Prop :=
  e = .returned (.int .i64 (u : Int)) ∧ Rdr w' g B n c nx .nilIface ∧ But g w w'
set_option maxRecDepth 100000 in
set_option maxHeartbeats 400000 in
theorem number_ok (g : Nat) (B : Option Addr) (n c at_ : Nat) (l : List Nat) (u nx : Nat) (w : World) (h : Rdr w g B n c at_ .nilIface) (hr : Reads w g 1 B n (l.map bv)) (hb : ∀ x ∈ l, x < 256) (hn : n ≤ 1048576)
    (hk : tk l (at_ : Int) = some (u, nx)) (hu : u ≤ 1048576) : Calls Tryd.prog 31 #[.pointer (some ⟨g, 0, none⟩)] w (NumOk w g B n c u nx) := by
  have c0 : w.cell? ⟨g, 0, none⟩ = some (.slice B n c) := h.cell 0
  have c1 : w.cell? ⟨g, 1, none⟩ = some (.int .i64 (at_ : Int)) := h.cell 1
  have c2 : w.cell? ⟨g, 2, none⟩ = some .nilIface := h.cell 2
  have f1 : w.frozen? ⟨g, 1, none⟩ = false := h.frozen 1
  have HK := Lib.hid hk
  have HH := Lib.hid h
  have HR : Hid (Reads w w.heap.size 1 B n (l.map bv)) := Lib.hid (hr.more (Nat.le_of_lt h.lt))
  have HB := Lib.hid hb
  have tu : decide ((u : Int) ≤ 1048576) = true := by simp; omega
  have tu' : decide (u ≤ 1048576) = true := by simp; omega
  clear h hr hb hk
  go_enter Tryd.func31, Tryd.ntmps31
  go_wp2
  go_quiet ((refine Calls.quiet_of_same (take_some B n c at_ l u nx _ (by exact HR.out) HB.out hn HK.out)))
  go_wp2
  go_ret
  refine ⟨by first | rfl | (congr 2), (HH.out.drewN nq).set_ 1 _, (But.refl.drewN nq).setCell 1 _⟩
def short (l : List Nat) (at_ : Nat) : Prop := tk l (at_ : Int) = none ∧ l.length - at_ < 10 ∧ allHigh (l.drop at_)
/-- which error, and where -/
def NErr (l : List Nat) (at_ : Nat) (k pos : Nat) : Prop := (short l at_ ∧ k = 5 ∧ pos = l.length) ∨ (¬ short l at_ ∧ k = 6 ∧ pos = at_)
def NumBad (w : World) (g : Nat) (B : Option Addr) (n c at_ : Nat) (l : List Nat) (ad : Nat → Addr) (e : Ending) (w' : World) : Prop :=
  e = .returned (.int .i64 0) ∧ But g w w' ∧ ∃ (p k pos : Nat), Rdr w' g B n c at_ (.iface 58 (.pointer (some ⟨p, 0, none⟩))) ∧ w.heap.size ≤ p ∧ Blk w' p 60 #[.int .i64 (pos : Int), .iface 91 (.pointer (some (ad k)))] ∧ NErr l at_ k pos
theorem err_world {w V : World} {g n c at_ : Nat} {B : Option Addr} {ev pv : Value} {pos : Int} (h : Rdr V g B n c at_ ev) (hb : But g w V) :
    Rdr ((V.setCell ⟨g, 2, none⟩ (.iface 58 (.pointer (some ⟨V.heap.size, 0, none⟩)))).alloc (Obj.cells #[.int .i64 pos, pv] 60)).drew g B n c at_ (.iface 58 (.pointer (some ⟨V.heap.size, 0, none⟩))) ∧
    But g w ((V.setCell ⟨g, 2, none⟩ (.iface 58 (.pointer (some ⟨V.heap.size, 0, none⟩)))).alloc (Obj.cells #[.int .i64 pos, pv] 60)).drew ∧
    Blk ((V.setCell ⟨g, 2, none⟩ (.iface 58 (.pointer (some ⟨V.heap.size, 0, none⟩)))).alloc (Obj.cells #[.int .i64 pos, pv] 60)).drew V.heap.size 60 #[.int .i64 pos, pv] := by
  refine ⟨((Blk.set_ h 2 _).alloc _).drew, ((hb.setCell 2 _).alloc _).drew, ?_⟩
  have := Blk.new (V.setCell ⟨g, 2, none⟩ (.iface 58 (.pointer (some ⟨V.heap.size, 0, none⟩)))) 60 #[.int .i64 pos, pv]
  rw [show (V.setCell ⟨g, 2, none⟩ (.iface 58 (.pointer (some ⟨V.heap.size, 0, none⟩)))).heap.size = V.heap.size by simp [World.setCell]] at this
  exact this.drew
set_option maxRecDepth 100000 in
set_option maxHeartbeats 1000000 in
theorem number_big (g : Nat) (A : Addr) (n c at_ : Nat) (l : List Nat) (u nx : Nat) (ad : Nat → Addr) (w : World) (h : Rdr w g (some A) n c at_ .nilIface) (hr : Reads w g 1 (some A) n (l.map bv)) (hb : ∀ x ∈ l, x < 256) (hn : n ≤ 1048576)
    (hg : 5 < g) (hB : w.cell? ⟨4, 0, none⟩ = some (.iface 91 (.pointer (some (ad 6)))))
    (hat : at_ ≤ n) (hc : n ≤ c) (hcm : c ≤ maxLen) (hk : tk l (at_ : Int) = some (u, nx)) (hu : 1048576 < u) : Calls Tryd.prog 31 #[.pointer (some ⟨g, 0, none⟩)] w (NumBad w g (some A) n c at_ l ad) := by
  have c0 : w.cell? ⟨g, 0, none⟩ = some (.slice (some A) n c) := h.cell 0
  have c1 : w.cell? ⟨g, 1, none⟩ = some (.int .i64 (at_ : Int)) := h.cell 1
  have c2 : w.cell? ⟨g, 2, none⟩ = some .nilIface := h.cell 2
  have f2 : w.frozen? ⟨g, 2, none⟩ = false := h.frozen 2
  have hlt := h.lt
  have HK := Lib.hid hk
  have HH := Lib.hid h
  have HR : Hid (Reads w w.heap.size 1 (some A) n (l.map bv)) := Lib.hid (hr.more (Nat.le_of_lt h.lt))
  have HB := Lib.hid hb
  have tu : decide ((u : Int) ≤ 1048576) = false := by simp; omega
  have tu' : decide (u ≤ 1048576) = false := by simp; omega
  clear h hr hb hk
  go_enter Tryd.func31, Tryd.ntmps31
  go_wp2
  go_quiet ((refine Calls.quiet_of_same (take_some (some A) n c at_ l u nx _ (by exact HR.out) HB.out hn HK.out)))
  go_wp2
  obtain ⟨V, hV⟩ : ∃ V, V = w.drewN nq := ⟨_, rfl⟩
  rw [← hV]
  have HV : Hid (Rdr V g (some A) n c at_ .nilIface ∧ But g w V ∧ V.cell? ⟨4, 0, none⟩ = some (.iface 91 (.pointer (some (ad 6)))) ∧ g < V.heap.size) := Lib.hid (by rw [hV]; exact ⟨HH.out.drewN nq, But.refl.drewN nq, hB, hlt⟩)
  clear hV c0 c1 c2 f2 hB
  have c0 : V.cell? ⟨g, 0, none⟩ = some (.slice (some A) n c) := HV.out.1.cell 0
  have c1 : V.cell? ⟨g, 1, none⟩ = some (.int .i64 (at_ : Int)) := HV.out.1.cell 1
  have c2 : V.cell? ⟨g, 2, none⟩ = some .nilIface := HV.out.1.cell 2
  have f2 : V.frozen? ⟨g, 2, none⟩ = false := HV.out.1.frozen 2
  have hB := HV.out.2.2.1
  have hl1 := HV.out.2.2.2
  have hl2 : 4 < V.heap.size := by omega
  go_region
  all_goals go_wp2
  have HU := Lib.hid (err_world (w := w) (pos := (at_ : Int)) (pv := .iface 91 (.pointer (some (ad 6)))) HV.out.1 HV.out.2.1)
  obtain ⟨U, hU⟩ : ∃ U, U = ((V.setCell ⟨g, 2, none⟩ (.iface 58 (.pointer (some ⟨V.heap.size, 0, none⟩)))).alloc (Obj.cells #[.int .i64 (at_ : Int), .iface 91 (.pointer (some (ad 6)))] 60)).drew := ⟨_, rfl⟩
  rw [← hU] at HU ⊢
  clear hU c0 c1 c2 f2 hB
  have c0 : U.cell? ⟨g, 0, none⟩ = some (.slice (some A) n c) := HU.out.1.cell 0
  have c1 : U.cell? ⟨g, 1, none⟩ = some (.int .i64 (at_ : Int)) := HU.out.1.cell 1
  have b1 : (0 : Int) ≤ (at_ : Int) := by omega
  have b2 : (at_ : Int) ≤ n := by omega
  have b3 : (n : Int) ≤ c := by omega
  have b4 : at_ ≤ c := by omega
  have hne : ¬ c = at_ := fun e => by
    have hl : l.length = n := by have := HR.out.1; simpa using this
    have := HK.out
    rw [tk_neg l at_ (by omega)] at this
    cases this
  go_quiet (fail)
  go_wp2
  go_ret
  refine ⟨rfl, HU.out.2.1.drewN _, V.heap.size, 6, at_, HU.out.1.drewN _, HV.out.2.1.size, HU.out.2.2.drewN _, .inr ⟨fun h => ?_, rfl, rfl⟩⟩
  have := h.1
  rw [HK.out] at this
  cases this
end Go.Proofs.YtomabogjoampnaaDoor
