/- Words for the law CodecApart: the document's May at values; bytes that are zeroed one by one. -/
import Derived.Test.YtnojejplckhifaaDoorRm3
import Derived.Test.YtnojejplckhifaaDoorCopy
import Derived.Test.YtnojejplckhifaaDoorCCutP
namespace Go.Proofs.YtnojejplckhifaaDoor
open Go.RowKit
set_option linter.unusedVariables false

theorem fld35 (cd : Int) (A : Option Addr) (m d : Nat) (w : World) : (Instr.field 35 (.agg #[.int .i64 cd, .slice A m d]) 0).run Tryd.prog w = .ok (.int .i64 cd) w := by kernel_rfl
theorem rmay_arg (p : PV) (v : Value) (hv : v = p.val) (w0 w : World) (ha : PArg w0 p) (hp : PAt w w.heap.size p) : Calls Tryd.prog 12 #[v] w (FaultPost w (fltC (mayP p.prg)) (fltL (mayP p.prg))) := by
  subst hv
  exact rmay_any p w hp ha.cl (Nat.le_trans ha.cn.1 ha.cn.2) (Nat.le_trans ha.mn.1 ha.mn.2) (fun x hx => ⟨(ha.ml x hx).par, (ha.ml x hx).loc, Nat.le_trans (ha.ml x hx).code.1 (ha.ml x hx).code.2⟩)
theorem rmay_none (p : PV) (v : Value) (hv : v = p.val) (w0 w : World) (ha : PArg w0 p) (hp : PAt w w.heap.size p) (h : mayP p.prg = none) : Calls Tryd.prog 12 #[v] w (FaultPost w 0 []) := by
  have := rmay_arg p v hv w0 w ha hp
  rw [h] at this
  exact this
theorem rmay_some (p : PV) (v : Value) (hv : v = p.val) (w0 w : World) (ha : PArg w0 p) (hp : PAt w w.heap.size p) (f : Nat × List Int) (h : mayP p.prg = some f) : Calls Tryd.prog 12 #[v] w (FaultPost w (101 + (f.1 : Int)) f.2) := by
  have := rmay_arg p v hv w0 w ha hp
  rw [h] at this
  exact this
/-- a program's bytes are another's just if it is the other -/
theorem encP_inj {P Q : Prg} (hP : okP P) (hQ : okP Q) (mP : mayP P = none) (mQ : mayP Q = none) (lP : (encP P).length ≤ 16384) (lQ : (encP Q).length ≤ 16384) : encP P = encP Q ↔ P = Q := by
  constructor
  · intro h
    have h1 := dec_enc P hP mP lP
    rw [h, dec_enc Q hQ mQ lQ] at h1
    injection h1 with h1 _
    injection h1 with h1
    exact h1.symm
  · rintro rfl; rfl
/-- bytes of which the first k are known to be 0 by now: the others as they were -/
def ZRel (W : World) (base g n c : Nat) (L : List Nat) (si : Value) (wr : World) : Prop :=
  ∃ (k : Nat) (xs : List Nat), k ≤ n ∧ si = .int .i64 (k : Int) ∧ xs.length = n + 1 ∧ (∀ j, k ≤ j → j < n → xs[j]? = L[j]?) ∧ wr.ownsRow base 5 1 (.slice (some ⟨g, 0, none⟩) (n + 1) c) (n + 1) (xs.map bv) ∧ But g W wr
theorem reads_but {g L : Nat} {w w' : World} {size n lo : Nat} {A : Option Addr} {xs : List Value} (h : But g w w') (hr : Reads w w.heap.size size A n xs) (hlo : ∀ a, A = some a → lo ≤ a.block) (hg : g < lo) : Reads w' w'.heap.size size A n xs := by
  refine ⟨hr.1, fun hn => ?_⟩
  obtain ⟨ad, e, hb, hc⟩ := hr.2 hn
  have hne : ad.block ≠ g := by have := hlo ad e; omega
  exact ⟨ad, e, Nat.lt_of_lt_of_le hb h.size, fun j u hu => (h.cell (p := ad.add j) (by rw [block_of_add]; exact hb) (by rw [block_of_add]; exact hne)).trans (hc j u hu)⟩
theorem PAt.but {g lo : Nat} {w w' : World} {p : PV} (hp : PAt w w.heap.size p) (h : But g w w') (hf : PFar lo p) (hg : g < lo) : PAt w' w'.heap.size p :=
  ⟨reads_but (L := 0) h hp.cls hf.1 hg, reads_but (L := 0) h hp.ms hf.2.1 hg, fun x hx => reads_but (L := 0) h (hp.code x hx) (hf.2.2 x hx) hg⟩
end Go.Proofs.YtnojejplckhifaaDoor
