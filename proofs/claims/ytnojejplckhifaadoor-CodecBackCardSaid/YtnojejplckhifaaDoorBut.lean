/- Plain: all memory as it was but for one block. -/
import Derived.Test.YtnojejplckhifaaDoorMem
import Derived.Test.YtnojejplckhifaaDoorRows
namespace Go.Proofs.YtnojejplckhifaaDoor
open Go.RowKit
/-- all that was there is as it was, but for block g -/
structure But (g : Nat) (w w' : World) : Prop where
  os : w'.os = w.os
  tape : w'.tape = w.tape
  output : w'.output = w.output
  size : w.heap.size ≤ w'.heap.size
  block : ∀ k, k < w.heap.size → k ≠ g → w'.heap[k]? = w.heap[k]?
section
variable {g : Nat} {w w' w'' : World}
theorem But.refl : But g w w := ⟨rfl, rfl, rfl, Nat.le_refl _, fun _ _ _ => rfl⟩
theorem But.trans (h : But g w w') (h' : But g w' w'') : But g w w'' :=
  ⟨h'.os.trans h.os, h'.tape.trans h.tape, h'.output.trans h.output, Nat.le_trans h.size h'.size, fun k hk hn => (h'.block k (Nat.lt_of_lt_of_le hk h.size) hn).trans (h.block k hk hn)⟩
theorem But.of (h : Below w.heap.size w w') : But g w w' := ⟨h.os, h.tape, h.output, h.size, fun k hk _ => h.block k hk⟩
theorem But.alloc (h : But g w w') (o : Obj) : But g w (w'.alloc o) := h.trans (But.of ((Below.refl _ _).alloc (Nat.le_refl _) o))
theorem But.drewN (h : But g w w') (n : Nat) : But g w (w'.drewN n) := ⟨h.os, h.tape, h.output, h.size, h.block⟩
theorem But.drew (h : But g w w') : But g w w'.drew := ⟨h.os, h.tape, h.output, h.size, h.block⟩
theorem But.setCell (h : But g w w') (i : Nat) (u : Value) : But g w (w'.setCell ⟨g, i, none⟩ u) :=
  ⟨h.os, h.tape, h.output, by simpa [World.setCell] using h.size, fun k hk hn => (Below.heap_setCell w' ⟨g, i, none⟩ u k hn).trans (h.block k hk hn)⟩
theorem But.below {B : Nat} (h : But g w w') (hB : B ≤ g) (hw : B ≤ w.heap.size) : Below B w w' := ⟨h.os, h.tape, h.output, h.size, fun k hk => h.block k (by omega) (by omega)⟩
theorem But.cell (h : But g w w') {p : Addr} (hp : p.block < w.heap.size) (hn : p.block ≠ g) : w'.cell? p = w.cell? p := World.cell?_of_block (w := w) (h.block p.block hp hn)
theorem But.reads (h : But g w w') {size n : Nat} {A : Option Addr} {xs : List Value} (hg : g ≤ w.heap.size) (hr : Reads w g size A n xs) : Reads w' g size A n xs := hr.keep fun p hp => h.cell (by omega) (by omega)
theorem But.blk (h : But g w w') {k : Nat} {t : TypeId} {cs : Array Value} (hk : Blk w k t cs) (hn : k ≠ g) : Blk w' k t cs := (h.block k hk.lt hn).trans hk
theorem But.own (h : But g w w') {base : Nat} {e : TypeId} {size n : Nat} {v : Value} {xs : List Value} (ho : w.ownsRow base e size v n xs) (hg : g < base) : w'.ownsRow base e size v n xs := by
  refine ⟨ho.1, ?_⟩
  rcases ho.2 with hv | ⟨k, cap, cur, hv, hk, hh, h1⟩
  · exact .inl hv
  · exact .inr ⟨k, cap, cur, hv, hk, (h.block k (Blk.lt (t := e) (cs := cur) hh) (by omega)).trans hh, h1⟩
end
end Go.Proofs.YtnojejplckhifaaDoor
