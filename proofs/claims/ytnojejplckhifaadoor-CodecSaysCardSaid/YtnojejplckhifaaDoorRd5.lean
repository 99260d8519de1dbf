/- The contract of the reader's instr. -/
import Derived.Test.YtnojejplckhifaaDoorRd4
import Derived.Test.YtnojejplckhifaaDoorZz
import Derived.Test.YtnojejplckhifaaDoorPrg
namespace Go.Proofs.YtnojejplckhifaaDoor
open Go.RowKit
set_option linter.unusedVariables false

theorem byteR_lt (l : List Nat) (may : Nat → Bool) (s : RS) (hb : ∀ x ∈ l, x < 256) : (byteR l may s).1 < 256 := by
  unfold byteR
  split
  · exact (by decide : 0 < 256)
  · split
    · exact (by decide : 0 < 256)
    · split
      · rename_i h _
        exact hb _ (List.mem_of_getElem? h)
      · exact (by decide : 0 < 256)
/-- where the walk of instr stands: the reader, its own x (block gx), its result (block gr) -/
structure IS (w W : World) (g : Nat) (B : Option Addr) (n c : Nat) (ad : Nat → Addr) (st : RS) (gx gr : Nat) (cs : Array Value) : Prop where
  rd : RdAt W g B n c ad st
  bt : But g w W
  bx : Blk W gx 56 cs
  br : Blk W gr 56 #[.int .i64 0, .int .i64 0, .int .i64 0, .int .i64 0]
  hx : w.heap.size ≤ gx
  hr : w.heap.size ≤ gr
  ne : gx ≠ gr
  hg : g < w.heap.size
theorem IS.set {w W : World} {g : Nat} {B : Option Addr} {n c : Nat} {ad : Nat → Addr} {st : RS} {gx gr : Nat} {cs : Array Value} (h : IS w W g B n c ad st gx gr cs) (i : Nat) (u : Value) : IS w (W.setCell ⟨gx, i, none⟩ u) g B n c ad st gx gr (cs.setIfInBounds i u) :=
  ⟨h.rd.far h.bx (by decide) (by decide) _ _, h.bt.setNew h.hx _, h.bx.set_ i u, h.br.far (p := ⟨gx, i, none⟩) (fun e => h.ne e.symm) u, h.hx, h.hr, h.ne, h.hg⟩
theorem IS.call {w W W' : World} {g : Nat} {B : Option Addr} {n c : Nat} {ad : Nat → Addr} {st st' : RS} {gx gr : Nat} {cs : Array Value} (h : IS w W g B n c ad st gx gr cs) (hr : RdAt W' g B n c ad st') (hb : But g W W') : IS w W' g B n c ad st' gx gr cs :=
  ⟨hr, h.bt.trans hb, hb.blk h.bx (by have := h.hx; have := h.hg; omega), hb.blk h.br (by have := h.hr; have := h.hg; omega), h.hx, h.hr, h.ne, h.hg⟩
theorem IS.fin {w W : World} {g : Nat} {B : Option Addr} {n c : Nat} {ad : Nat → Addr} {st : RS} {gx gr : Nat} {cs : Array Value} (h : IS w W g B n c ad st gx gr cs) (u0 u1 u2 u3 : Value) :
    RdAt ((((W.setCell ⟨gr, 0, none⟩ u0).setCell ⟨gr, 1, none⟩ u1).setCell ⟨gr, 2, none⟩ u2).setCell ⟨gr, 3, none⟩ u3) g B n c ad st ∧ But g w ((((W.setCell ⟨gr, 0, none⟩ u0).setCell ⟨gr, 1, none⟩ u1).setCell ⟨gr, 2, none⟩ u2).setCell ⟨gr, 3, none⟩ u3) := by
  have h1 := h.br.set_ 0 u0
  have h2 := h1.set_ 1 u1
  have h3 := h2.set_ 2 u2
  exact ⟨(((h.rd.far h.br (by decide) (by decide) 0 u0).far h1 (by decide) (by decide) 1 u1).far h2 (by decide) (by decide) 2 u2).far h3 (by decide) (by decide) 3 u3, (((h.bt.setNew h.hr u0).setNew h.hr u1).setNew h.hr u2).setNew h.hr u3⟩
theorem number_is (q : Nat × RS) (least greatest : Nat) (hg : greatest ≤ 1048576) (hlo : least ≤ 1048576) (g : Nat) (B : Option Addr) (n c : Nat) (l : List Nat) (ad : Nat → Addr) (s : RS) (w : World) (hq : q = numberR l least greatest s) (h : RdAt w g B n c ad s) (hE : Env w g B n c l ad) :
    Calls Tryd.prog 43 #[.pointer (some ⟨g, 0, none⟩), .int .i64 (least : Int), .int .i64 (greatest : Int)] w (RPost w g B n c ad (.int .i64 (q.1 : Int)) q.2) := hq ▸ number_any least greatest hg hlo g B n c l ad s w h hE
theorem whole_is (q : Nat × RS) (g : Nat) (B : Option Addr) (n c : Nat) (l : List Nat) (ad : Nat → Addr) (s : RS) (w : World) (hq : q = wholeR l s) (h : RdAt w g B n c ad s) (hE : Env w g B n c l ad) :
    Calls Tryd.prog 63 #[.pointer (some ⟨g, 0, none⟩)] w (RPost w g B n c ad (.int .u64 (q.1 : Int)) q.2) := hq ▸ whole_any g B n c l ad s w h hE
theorem insA_no (l : List Nat) (op : Nat) (s : RS) (h : hasA op = false) : insA l op s = (0, s) := by unfold insA; rw [if_neg (by rw [h]; simp)]
theorem insA_yes (l : List Nat) (op : Nat) (s : RS) (h : hasA op = true) : insA l op s = numberR l 0 1048576 s := by unfold insA; rw [if_pos h]
theorem insB_no (l : List Nat) (op : Nat) (s : RS) (h : hasB op = false) : insB l op s = (0, s) := by unfold insB; rw [if_neg (by rw [h]; simp)]
theorem insB_yes (l : List Nat) (op : Nat) (s : RS) (h : hasB op = true) : insB l op s = numberR l 0 1048576 s := by unfold insB; rw [if_pos h]
theorem insN_no (l : List Nat) (op : Nat) (s : RS) (h : ¬ op = 1) : insN l op s = (0, s) := by unfold insN; rw [if_neg h]
theorem insN_yes (l : List Nat) (op : Nat) (s : RS) (h : op = 1) : insN l op s = wholeR l s := by unfold insN; rw [if_pos h]
theorem hasBA {op : Int} (h : hasB op = true) : hasA op = true := by
  unfold hasB at h
  unfold hasA
  simp at h ⊢
  omega
set_option maxRecDepth 100000 in
set_option maxHeartbeats 1000000 in
theorem instrR_any (g : Nat) (B : Option Addr) (n c : Nat) (l : List Nat) (ad : Nat → Addr) (s : RS) (w : World) (h : RdAt w g B n c ad s) (hE : Env w g B n c l ad) :
    Calls Tryd.prog 66 #[.pointer (some ⟨g, 0, none⟩)] w (RPost w g B n c ad (.agg #[.int .i64 (instrR l s).1.op, .int .i64 (instrR l s).1.a, .int .i64 (instrR l s).1.b, .int .i64 (instrR l s).1.n]) (instrR l s).2) := by
  have hlt := hE.lt
  obtain ⟨r0, hr0⟩ : ∃ r, r = byteR l mOp s := ⟨_, rfl⟩
  have h0lt : r0.1 < 256 := by rw [hr0]; exact byteR_lt l mOp s hE.byte
  have HIR : Hid (instrR l s = (⟨r0.1, (insA l r0.1 r0.2).1, (insB l r0.1 (insA l r0.1 r0.2).2).1, if r0.1 = 1 then zag (insN l r0.1 (insB l r0.1 (insA l r0.1 r0.2).2).2).1 else 0⟩, (insN l r0.1 (insB l r0.1 (insA l r0.1 r0.2).2).2).2)) := Lib.hid (by rw [hr0]; rfl)
  have H0 := Lib.hid hr0
  clear hr0
  have HR : Hid (RdAt (w.alloc (.cells #[.int .i64 0, .int .i64 0, .int .i64 0, .int .i64 0] 56)) g B n c ad s) := Lib.hid (h.but ((Below.refl _ _).alloc (Nat.le_refl _) _))
  have HB : Hid (But g w (w.alloc (.cells #[.int .i64 0, .int .i64 0, .int .i64 0, .int .i64 0] 56))) := Lib.hid (But.refl.alloc _)
  have HE := Lib.hid hE
  have HX : Hid (Blk (w.alloc (.cells #[.int .i64 0, .int .i64 0, .int .i64 0, .int .i64 0] 56)) w.heap.size 56 #[.int .i64 0, .int .i64 0, .int .i64 0, .int .i64 0]) := Lib.hid (Blk.new _ _ _)
  clear h hE
  have hw0 : IntKind.i64.wrap (r0.1 : Int) = (r0.1 : Int) := by rw [IntKind.wrap_i64]; omega
  go_enter Tryd.func66, Tryd.ntmps66
  go_wp2_with fail
  refine (byte_op g B n c l ad s _ HR.out (HE.out.but HB.out)).mono ?_
  rintro e w1 ⟨rfl, q1, q2⟩
  rw [← H0.out] at q1 ⊢
  have HX1 : Hid (Blk w1 w.heap.size 56 #[.int .i64 0, .int .i64 0, .int .i64 0, .int .i64 0]) := Lib.hid (q2.blk HX.out (by omega))
  have HR1 := Lib.hid q1
  have HB1 : Hid (But g w w1) := Lib.hid (HB.out.trans q2)
  clear q1 q2
  have hs1 : w.heap.size < w1.heap.size := HX1.out.lt
  go_wp2_with fail
  obtain ⟨gx, hgx⟩ : ∃ gx, gx = w1.heap.size := ⟨_, rfl⟩
  obtain ⟨gr, hgr⟩ : ∃ gr, gr = w.heap.size := ⟨_, rfl⟩
  have HS : Hid (IS w (w1.alloc (.cells #[.int .i64 (r0.1 : Int), .int .i64 0, .int .i64 0, .int .i64 0] 56)) g B n c ad r0.2 gx gr #[.int .i64 (r0.1 : Int), .int .i64 0, .int .i64 0, .int .i64 0]) := Lib.hid (by
    rw [hgx, hgr]
    exact ⟨HR1.out.but ((Below.refl _ _).alloc (Nat.le_refl _) _), HB1.out.alloc _, Blk.new _ _ _, HX1.out.alloc _, by omega, Nat.le_refl _, by omega, hlt⟩)
  obtain ⟨W, hW⟩ : ∃ W, W = w1.alloc (.cells #[.int .i64 (r0.1 : Int), .int .i64 0, .int .i64 0, .int .i64 0] 56) := ⟨_, rfl⟩
  rw [← hgx, ← hgr, ← hW]
  rw [← hW] at HS
  have hgx' : gx < W.heap.size := HS.out.bx.lt
  clear hW hgx hgr HX1 HR1 HB1 HX HB HR hs1
  have x0 := HS.out.bx.cell 0
  have x0 : W.cell? ⟨gx, 0, none⟩ = some (.int .i64 (r0.1 : Int)) := x0
  go_wp2_with fail
  refine (hasA_any r0.1 _).mono ?_
  rintro e w2 ⟨rfl, rfl⟩
  cases hA : hasA r0.1
  · have hBf : hasB r0.1 = false := by
      cases hB : hasB r0.1
      · rfl
      · rw [hasBA hB] at hA; cases hA
    go_wp2_with fail
    refine (hasB_any r0.1 _).mono ?_
    rintro e w3 ⟨rfl, rfl⟩
    rw [hBf]
    by_cases h1 : r0.1 = 1
    · have t1 : ((r0.1 : Int) == 1) = true := by simp [h1]
      obtain ⟨u1, hu1⟩ : ∃ u, u = wholeR l r0.2 := ⟨_, rfl⟩
      have HV : Hid (instrR l s = (⟨r0.1, 0, 0, zag u1.1⟩, u1.2)) := Lib.hid (by rw [HIR.out, insA_no l _ _ hA, insB_no l _ _ hBf, insN_yes l _ _ h1, if_pos h1, hu1]; rfl)
      have HU1 := Lib.hid hu1
      clear h1 hu1
      go_wp2_with fail
      refine (whole_is u1 g B n c l ad r0.2 _ HU1.out HS.out.rd (HE.out.but HS.out.bt)).mono ?_
      rintro e w4 ⟨rfl, q1, q2⟩
      have HS4 := Lib.hid (HS.out.call q1 q2)
      clear q1 q2
      have x3 : w4.cell? ⟨gx, 3, none⟩ = some (.int .i64 0) := HS4.out.bx.cell 3
      have f3 := HS4.out.bx.frozen 3
      go_wp2_with fail
      refine (zag_any _ _).mono ?_
      rintro e w5 ⟨rfl, rfl⟩
      have HS5 := Lib.hid (HS4.out.set 3 (.int .i64 (zag u1.1)))
      have x0 : w4.cell? ⟨gx, 0, none⟩ = some (.int .i64 (r0.1 : Int)) := HS4.out.bx.cell 0
      have x1 : w4.cell? ⟨gx, 1, none⟩ = some (.int .i64 0) := HS4.out.bx.cell 1
      have x2 : w4.cell? ⟨gx, 2, none⟩ = some (.int .i64 0) := HS4.out.bx.cell 2
      have x3 : w4.cell? ⟨gx, 3, none⟩ = some (.int .i64 0) := HS4.out.bx.cell 3
      have ne1 : gx ≠ gr := HS4.out.ne
      have ne2 : gr ≠ gx := fun e => ne1 e.symm
      have y0 : w4.cell? ⟨gr, 0, none⟩ = some (.int .i64 0) := HS4.out.br.cell 0
      have y1 : w4.cell? ⟨gr, 1, none⟩ = some (.int .i64 0) := HS4.out.br.cell 1
      have y2 : w4.cell? ⟨gr, 2, none⟩ = some (.int .i64 0) := HS4.out.br.cell 2
      have y3 : w4.cell? ⟨gr, 3, none⟩ = some (.int .i64 0) := HS4.out.br.cell 3
      have z0 := HS4.out.br.frozen 0
      have z1 := HS4.out.br.frozen 1
      have z2 := HS4.out.br.frozen 2
      have z3 := HS4.out.br.frozen 3
      have hgr' : gr < w4.heap.size := HS4.out.br.lt
      go_wp2
      rw [HV.out]
      obtain ⟨j1, j2⟩ := HS5.out.fin (.int .i64 (r0.1 : Int)) (.int .i64 0) (.int .i64 0) (.int .i64 (zag u1.1))
      refine bodyPost_ret (v := .agg #[.int .i64 (r0.1 : Int), .int .i64 0, .int .i64 0, .int .i64 (zag u1.1)]) ?_ rfl ⟨rfl, j1, j2⟩
      simp [results, Tryd.results66, go_sem, y0, y1, y2, y3]
    · have t1 : ((r0.1 : Int) == 1) = false := by simp; omega
      have HV : Hid (instrR l s = (⟨r0.1, 0, 0, 0⟩, r0.2)) := Lib.hid (by rw [HIR.out, insA_no l _ _ hA, insB_no l _ _ hBf, insN_no l _ _ h1, if_neg h1]; rfl)
      clear h1
      have x0 : W.cell? ⟨gx, 0, none⟩ = some (.int .i64 (r0.1 : Int)) := HS.out.bx.cell 0
      have x1 : W.cell? ⟨gx, 1, none⟩ = some (.int .i64 0) := HS.out.bx.cell 1
      have x2 : W.cell? ⟨gx, 2, none⟩ = some (.int .i64 0) := HS.out.bx.cell 2
      have x3 : W.cell? ⟨gx, 3, none⟩ = some (.int .i64 0) := HS.out.bx.cell 3
      have y0 : W.cell? ⟨gr, 0, none⟩ = some (.int .i64 0) := HS.out.br.cell 0
      have y1 : W.cell? ⟨gr, 1, none⟩ = some (.int .i64 0) := HS.out.br.cell 1
      have y2 : W.cell? ⟨gr, 2, none⟩ = some (.int .i64 0) := HS.out.br.cell 2
      have y3 : W.cell? ⟨gr, 3, none⟩ = some (.int .i64 0) := HS.out.br.cell 3
      have z0 := HS.out.br.frozen 0
      have z1 := HS.out.br.frozen 1
      have z2 := HS.out.br.frozen 2
      have z3 := HS.out.br.frozen 3
      have hgr' : gr < W.heap.size := HS.out.br.lt
      go_wp2
      rw [HV.out]
      obtain ⟨j1, j2⟩ := HS.out.fin (.int .i64 (r0.1 : Int)) (.int .i64 0) (.int .i64 0) (.int .i64 0)
      refine bodyPost_ret (v := .agg #[.int .i64 (r0.1 : Int), .int .i64 0, .int .i64 0, .int .i64 0]) ?_ rfl ⟨rfl, j1, j2⟩
      simp [results, Tryd.results66, go_sem, y0, y1, y2, y3]
  · have h1 : ¬ r0.1 = 1 := by
      intro h1
      rw [h1] at hA
      exact absurd hA (by decide)
    have t1 : ((r0.1 : Int) == 1) = false := by simp; omega
    obtain ⟨a1, ha1⟩ : ∃ a, a = numberR l 0 1048576 r0.2 := ⟨_, rfl⟩
    have HA1 := Lib.hid ha1
    clear ha1
    go_wp2_with fail
    refine (number_is a1 0 1048576 (by decide) (by decide) g B n c l ad r0.2 _ HA1.out HS.out.rd (HE.out.but HS.out.bt)).mono ?_
    rintro e w4 ⟨rfl, q1, q2⟩
    have HS4 := Lib.hid (HS.out.call q1 q2)
    clear q1 q2
    have x0 : w4.cell? ⟨gx, 0, none⟩ = some (.int .i64 (r0.1 : Int)) := HS4.out.bx.cell 0
    have x1 : w4.cell? ⟨gx, 1, none⟩ = some (.int .i64 0) := HS4.out.bx.cell 1
    have f1 := HS4.out.bx.frozen 1
    go_wp2_with fail
    have HS5 := Lib.hid (HS4.out.set 1 (.int .i64 (a1.1 : Int)))
    obtain ⟨V, hV⟩ : ∃ V, V = w4.setCell ⟨gx, 1, none⟩ (.int .i64 (a1.1 : Int)) := ⟨_, rfl⟩
    rw [← hV] at HS5 ⊢
    clear hV x0 x1 f1
    have x0 : V.cell? ⟨gx, 0, none⟩ = some (.int .i64 (r0.1 : Int)) := HS5.out.bx.cell 0
    go_wp2_with fail
    refine (hasB_any r0.1 _).mono ?_
    rintro e w5 ⟨rfl, rfl⟩
    cases hB : hasB r0.1
    · have HV : Hid (instrR l s = (⟨r0.1, a1.1, 0, 0⟩, a1.2)) := Lib.hid (by rw [HIR.out, insA_yes l _ _ hA, ← HA1.out, insB_no l _ _ hB, insN_no l _ _ h1, if_neg h1]; rfl)
      clear h1
      have x0 : V.cell? ⟨gx, 0, none⟩ = some (.int .i64 (r0.1 : Int)) := HS5.out.bx.cell 0
      have x1 : V.cell? ⟨gx, 1, none⟩ = some (.int .i64 (a1.1 : Int)) := HS5.out.bx.cell 1
      have x2 : V.cell? ⟨gx, 2, none⟩ = some (.int .i64 0) := HS5.out.bx.cell 2
      have x3 : V.cell? ⟨gx, 3, none⟩ = some (.int .i64 0) := HS5.out.bx.cell 3
      have y0 : V.cell? ⟨gr, 0, none⟩ = some (.int .i64 0) := HS5.out.br.cell 0
      have y1 : V.cell? ⟨gr, 1, none⟩ = some (.int .i64 0) := HS5.out.br.cell 1
      have y2 : V.cell? ⟨gr, 2, none⟩ = some (.int .i64 0) := HS5.out.br.cell 2
      have y3 : V.cell? ⟨gr, 3, none⟩ = some (.int .i64 0) := HS5.out.br.cell 3
      have z0 := HS5.out.br.frozen 0
      have z1 := HS5.out.br.frozen 1
      have z2 := HS5.out.br.frozen 2
      have z3 := HS5.out.br.frozen 3
      have hgr' : gr < V.heap.size := HS5.out.br.lt
      go_wp2
      rw [HV.out]
      obtain ⟨j1, j2⟩ := HS5.out.fin (.int .i64 (r0.1 : Int)) (.int .i64 (a1.1 : Int)) (.int .i64 0) (.int .i64 0)
      refine bodyPost_ret (v := .agg #[.int .i64 (r0.1 : Int), .int .i64 (a1.1 : Int), .int .i64 0, .int .i64 0]) ?_ rfl ⟨rfl, j1, j2⟩
      simp [results, Tryd.results66, go_sem, y0, y1, y2, y3]
    · obtain ⟨b1, hb1⟩ : ∃ a, a = numberR l 0 1048576 a1.2 := ⟨_, rfl⟩
      have HB1 := Lib.hid hb1
      clear hb1
      go_wp2_with fail
      refine (number_is b1 0 1048576 (by decide) (by decide) g B n c l ad a1.2 _ HB1.out HS5.out.rd (HE.out.but HS5.out.bt)).mono ?_
      rintro e w6 ⟨rfl, q1, q2⟩
      have HV : Hid (instrR l s = (⟨r0.1, a1.1, b1.1, 0⟩, b1.2)) := Lib.hid (by rw [HIR.out, insA_yes l _ _ hA, ← HA1.out, insB_yes l _ _ hB, ← HB1.out, insN_no l _ _ h1, if_neg h1])
      have HS6 := Lib.hid (HS5.out.call q1 q2)
      clear q1 q2 h1
      have x0 : w6.cell? ⟨gx, 0, none⟩ = some (.int .i64 (r0.1 : Int)) := HS6.out.bx.cell 0
      have x2 : w6.cell? ⟨gx, 2, none⟩ = some (.int .i64 0) := HS6.out.bx.cell 2
      have f2 := HS6.out.bx.frozen 2
      have HS7 := Lib.hid (HS6.out.set 2 (.int .i64 (b1.1 : Int)))
      have x0 : w6.cell? ⟨gx, 0, none⟩ = some (.int .i64 (r0.1 : Int)) := HS6.out.bx.cell 0
      have x1 : w6.cell? ⟨gx, 1, none⟩ = some (.int .i64 (a1.1 : Int)) := HS6.out.bx.cell 1
      have x2 : w6.cell? ⟨gx, 2, none⟩ = some (.int .i64 0) := HS6.out.bx.cell 2
      have x3 : w6.cell? ⟨gx, 3, none⟩ = some (.int .i64 0) := HS6.out.bx.cell 3
      have ne1 : gx ≠ gr := HS6.out.ne
      have ne2 : gr ≠ gx := fun e => ne1 e.symm
      have y0 : w6.cell? ⟨gr, 0, none⟩ = some (.int .i64 0) := HS6.out.br.cell 0
      have y1 : w6.cell? ⟨gr, 1, none⟩ = some (.int .i64 0) := HS6.out.br.cell 1
      have y2 : w6.cell? ⟨gr, 2, none⟩ = some (.int .i64 0) := HS6.out.br.cell 2
      have y3 : w6.cell? ⟨gr, 3, none⟩ = some (.int .i64 0) := HS6.out.br.cell 3
      have z0 := HS6.out.br.frozen 0
      have z1 := HS6.out.br.frozen 1
      have z2 := HS6.out.br.frozen 2
      have z3 := HS6.out.br.frozen 3
      have hgr' : gr < w6.heap.size := HS6.out.br.lt
      go_wp2
      rw [HV.out]
      obtain ⟨j1, j2⟩ := HS7.out.fin (.int .i64 (r0.1 : Int)) (.int .i64 (a1.1 : Int)) (.int .i64 (b1.1 : Int)) (.int .i64 0)
      refine bodyPost_ret (v := .agg #[.int .i64 (r0.1 : Int), .int .i64 (a1.1 : Int), .int .i64 (b1.1 : Int), .int .i64 0]) ?_ rfl ⟨rfl, j1, j2⟩
      simp [results, Tryd.results66, go_sem, y0, y1, y2, y3]
end Go.Proofs.YtnojejplckhifaaDoor
