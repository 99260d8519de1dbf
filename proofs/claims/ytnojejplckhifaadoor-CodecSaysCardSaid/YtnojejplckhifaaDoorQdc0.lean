/- The contract of overdriveref3.Decode (printed by mkqdc.py). -/
import Derived.Test.YtnojejplckhifaaDoorQds
import Derived.Deep.CutBlock
import Derived.Deep.CutRange
namespace Go.Proofs.YtnojejplckhifaaDoor
open Go.RowKit
set_option linter.unusedVariables false

theorem qnumber_is (lo hi : Nat) (z : Int) (hz : z = (hi : Int)) (q : Nat × RS) (hhi : hi ≤ 1048576) (hlo : lo ≤ 1048576) (g : Nat) (B : Option Addr) (n c : Nat) (l : List Nat) (s : RS) (w : World) (hq : numberR l lo hi s = q) (h : QAt w g B n c s) (hE : QEnv w g B n c l) :
    Calls Tryd.prog 48 #[.pointer (some ⟨g, 0, none⟩), .int .i64 (lo : Int), .int .i64 z] w (QPost w g B n c (.int .i64 (q.1 : Int)) q.2) := by
  subst hz hq
  exact qnumber_any lo hi hhi hlo g B n c l s w h hE
theorem num_le' (l : List Nat) (a b : Nat) (s : RS) : (numberR l a b s).1 ≤ b := by
  unfold numberR
  split
  · exact Nat.zero_le _
  · rename_i h; omega
theorem whole_u64 (l : List Nat) (s : RS) (hb : ∀ x ∈ l, x < 256) : U64 (wholeR l s).1 := by
  unfold wholeR
  split
  · exact u64_low (x := 0) (by decide)
  · split
    · rename_i p hp
      exact (tk_next hb (show tk l (s.at_ : Int) = some (p.1, p.2) from hp)).1
    · exact u64_low (x := 0) (by decide)
theorem instr_good (l : List Nat) (st s0 : RS) (c : Nat) (h : byteR l mOp st = (c, s0)) : instrR l st = (⟨c, (insA l c s0).1, (insB l c (insA l c s0).2).1, if c = 1 then zag (insN l c (insB l c (insA l c s0).2).2).1 else 0⟩, (insN l c (insB l c (insA l c s0).2).2).2) := by
  unfold instrR
  simp only []
  rw [h]
theorem instr_bad (l : List Nat) (st s0 : RS) (h : byteR l mOp st = (0, s0)) : (instrR l st).2 = s0 := by
  rw [instr_good l st s0 0 h]
  have hA : hasA (0 : Nat) = false := by decide
  have hB : hasB (0 : Nat) = false := by decide
  simp only []
  unfold insN insB insA
  rw [hA, hB]
  simp
theorem reads_blk1 {w : World} {b : Nat} {t : TypeId} {x : Int} (h : Blk w b t #[.int .i64 x]) : Reads w w.heap.size 1 (some ⟨b, 0, none⟩) 1 ([x].map (Value.int .i64)) :=
  ⟨rfl, fun _ => ⟨_, rfl, h.lt, World.news_of_block h⟩⟩
theorem op_idle {c : Nat} (h : mOp c = false) : hasA (c : Int) = false ∧ hasB (c : Int) = false ∧ ¬ c = 1 := by
  have h' : ¬ (1 ≤ c ∧ c ≤ 35) := by
    intro hh
    unfold mOp at h
    simp [hh.1, hh.2] at h
  refine ⟨?_, ?_, by omega⟩
  · unfold hasA; simp; omega
  · unfold hasB; simp; omega
theorem rfin {w wL : World} {r0 r1 : Nat} {o : Option Prg × Option (Nat × List Int)} {x0 x1 y0 y1 : Value} {p : PV} {A : Option Addr} {d m : Nat} {cd : Int} (u0 u1 u2 u3 : Value) (hb : Below w.heap.size w wL) (h0 : w.heap.size ≤ r0) (h1 : w.heap.size ≤ r1) (hr0 : Blk wL r0 25 #[x0, x1]) (hr1 : Blk wL r1 35 #[y0, y1])
    (hp : PAt wL wL.heap.size p) (hp0 : ∀ a, p.A = some a → a.block ≠ r0 ∧ a.block ≠ r1) (hp1 : ∀ a, p.B = some a → a.block ≠ r0 ∧ a.block ≠ r1) (hp2 : ∀ x ∈ p.ms, ∀ a, x.A = some a → a.block ≠ r0 ∧ a.block ≠ r1) (hA : ∀ a, A = some a → a.block ≠ r0 ∧ a.block ≠ r1)
    (hR : Reads wL wL.heap.size 1 A (fltL o.2).length ((fltL o.2).map (Value.int .i64))) (ho : p.prg = o.1.getD ⟨[], []⟩) (hc : cd = fltC o.2) (hm : m = (fltL o.2).length) :
    RDPost w o (.returned (.tuple #[p.val, fV cd (.slice A m d)])) ((((wL.setCell ⟨r0, 0, none⟩ u0).setCell ⟨r0, 1, none⟩ u1).setCell ⟨r1, 0, none⟩ u2).setCell ⟨r1, 1, none⟩ u3) := by
  subst hc hm
  have far : ∀ {sz n : Nat} {C : Option Addr} {xs : List Value}, Reads wL wL.heap.size sz C n xs → (∀ a, C = some a → a.block ≠ r0 ∧ a.block ≠ r1) → Reads ((((wL.setCell ⟨r0, 0, none⟩ u0).setCell ⟨r0, 1, none⟩ u1).setCell ⟨r1, 0, none⟩ u2).setCell ⟨r1, 1, none⟩ u3) ((((wL.setCell ⟨r0, 0, none⟩ u0).setCell ⟨r0, 1, none⟩ u1).setCell ⟨r1, 0, none⟩ u2).setCell ⟨r1, 1, none⟩ u3).heap.size sz C n xs := by
    intro sz n C xs h hC
    refine ⟨h.1, fun hn => ?_⟩
    obtain ⟨ad, e, hbk, hcl⟩ := h.2 hn
    refine ⟨ad, e, by simpa [World.setCell] using hbk, fun j u hu => ?_⟩
    have hne := hC ad e
    have hb2 : ∀ (r i : Nat), ad.block ≠ r → (ad.add j) ≠ (⟨r, i, none⟩ : Addr) := fun r i hne e' => hne (by have := congrArg Addr.block e'; rwa [block_of_add] at this)
    rw [World.cell?_setCell_other _ _ _ _ (by first | exact hb2 _ _ hne.2 | exact (hb2 _ _ hne.2).symm), World.cell?_setCell_other _ _ _ _ (by first | exact hb2 _ _ hne.2 | exact (hb2 _ _ hne.2).symm), World.cell?_setCell_other _ _ _ _ (by first | exact hb2 _ _ hne.1 | exact (hb2 _ _ hne.1).symm), World.cell?_setCell_other _ _ _ _ (by first | exact hb2 _ _ hne.1 | exact (hb2 _ _ hne.1).symm)]
    exact hcl j u hu
  exact ⟨(((hb.setCell (p := ⟨r0, 0, none⟩) h0 u0).setCell (p := ⟨r0, 1, none⟩) h0 u1).setCell (p := ⟨r1, 0, none⟩) h1 u2).setCell (p := ⟨r1, 1, none⟩) h1 u3, p, A, d, ho, rfl, ⟨far hp.cls hp0, far hp.ms hp1, fun x hx => far (hp.code x hx) (hp2 x hx)⟩, far hR hA⟩
theorem size_toL (q : ByteArray) : q.toList.length = q.size := by simp [ByteArray.toList_eq]
theorem method_steps {l : List Nat} {si s0 st0 s1 st1 st2 st3 : RS} {k0 k1 k3 P0 x : Nat} {x0 x1 : List Nat} (e0 : numberR l 0 12 si = (k0, s0)) (h0 : timesR (byteR l mIR) k0 s0 = (x0, st0)) (hP : st0.err = none → P0 = x0.length) (e1 : numberR l 0 (12 - P0) st0 = (k1, s1)) (h1 : timesR (byteR l mIR) k1 s1 = (x1, st1)) (e2 : byteR l mRet st1 = (x, st2)) (e3 : numberR l 1 120 st2 = (k3, st3)) :
    methodR l si = (⟨strB x0, strB x1, retL x, (timesR (instrR l) k3 st3).1⟩, (timesR (instrR l) k3 st3).2) := by
  have a0 : lettersR l 12 si = (x0, st0) := by unfold lettersR; rw [e0]; exact h0
  have hn : numberR l 0 (12 - x0.length) st0 = (k1, s1) := by
    cases he : st0.err with
    | none => rw [← hP he]; exact e1
    | some kp =>
      rw [numberR_bad _ _ _ _ (by rw [he]; simp)] at e1 ⊢
      exact e1
  have a1 : lettersR l (12 - x0.length) st0 = (x1, st1) := by unfold lettersR; rw [hn]; exact h1
  unfold methodR
  simp only []
  rw [a0]
  simp only []
  rw [a1]
  simp only []
  rw [e2]
  simp only []
  rw [e3]
theorem method_clean {l : List Nat} {st0 s1 st1 st2 st3 : RS} {k1 k3 P0 x : Nat} {x1 : List Nat} (e1 : numberR l 0 (12 - P0) st0 = (k1, s1)) (h1 : timesR (byteR l mIR) k1 s1 = (x1, st1)) (e2 : byteR l mRet st1 = (x, st2)) (e3 : numberR l 1 120 st2 = (k3, st3)) (h : (timesR (instrR l) k3 st3).2.err = none) : st0.err = none ∧ st1.err = none := by
  have b1 : st1.err = none := by
    cases he : st1.err with
    | none => rfl
    | some kp =>
      have c1 : st2 = st1 := by have := (rd_byte mRet).stay l st1 (by rw [he]; simp); rw [e2] at this; exact this
      have c2 : st3 = st2 := by have := numberR_bad l 1 120 st2 (by rw [c1, he]; simp); rw [e3] at this; exact congrArg Prod.snd this
      have c3 := times_stay instr_stay l k3 st3 (by rw [c2, c1, he]; simp)
      rw [c3, c2, c1, he] at h
      cases h
  refine ⟨?_, b1⟩
  cases he : st0.err with
  | none => rfl
  | some kp =>
    have c1 : s1 = st0 := by have := numberR_bad l 0 (12 - P0) st0 (by rw [he]; simp); rw [e1] at this; exact congrArg Prod.snd this
    have c2 := times_stay (rd_byte mIR).stay l k1 s1 (by rw [c1, he]; simp)
    rw [h1] at c2
    have c3 : st1 = s1 := c2
    rw [c3, c1, he] at b1
    cases b1
theorem op_read {l : List Nat} {sj sB so : RS} {cB co : Nat} (he : sj.err = none) (eB : byteR l (fun _ => true) sj = (cB, sB)) (eO : byteR l mOp sj = (co, so)) :
    (sB.err ≠ none ∧ so = sB ∧ co = 0 ∧ cB = 0) ∨ (sB.err = none ∧ mOp cB = false ∧ co = 0 ∧ so.err = some (6, sj.at_)) ∨ (sB.err = none ∧ mOp cB = true ∧ co = cB ∧ so = sB) := by
  unfold byteR at eB eO
  rw [he] at eB eO
  simp only [] at eB eO
  cases h : l[sj.at_]? with
  | none =>
    rw [h] at eB eO
    simp only [Prod.mk.injEq] at eB eO
    refine .inl ⟨by rw [← eB.2]; simp, by rw [← eB.2, ← eO.2], eO.1.symm, eB.1.symm⟩
  | some x =>
    rw [h] at eB eO
    simp only [if_true, Prod.mk.injEq] at eB
    obtain ⟨rfl, rfl⟩ := eB
    cases hm : mOp x with
    | true =>
      simp only [hm, if_true, Prod.mk.injEq] at eO
      exact .inr (.inr ⟨rfl, rfl, eO.1.symm, eO.2.symm⟩)
    | false =>
      simp only [hm, Bool.false_eq_true, if_false, Prod.mk.injEq] at eO
      exact .inr (.inl ⟨rfl, rfl, eO.1.symm, by rw [← eO.2]⟩)
theorem op_like {sj sB so : RS} {cB co : Nat} (h : (sB.err ≠ none ∧ so = sB ∧ co = 0 ∧ cB = 0) ∨ (sB.err = none ∧ mOp cB = false ∧ co = 0 ∧ so.err = some (6, sj.at_)) ∨ (sB.err = none ∧ mOp cB = true ∧ co = cB ∧ so = sB)) :
    hasA (cB : Int) = hasA (co : Int) ∧ hasB (cB : Int) = hasB (co : Int) ∧ (cB = 1 ↔ co = 1) ∧ (so.err = none → cB = co) := by
  rcases h with ⟨_, _, h1, h2⟩ | ⟨_, h1, h2, h3⟩ | ⟨_, _, h1, _⟩
  · rw [h1, h2]; exact ⟨rfl, rfl, Iff.rfl, fun _ => rfl⟩
  · obtain ⟨a, b, c⟩ := op_idle h1
    rw [h2, a, b]
    exact ⟨by decide, by decide, ⟨fun h => absurd h c, fun h => by cases h⟩, fun h => by rw [h3] at h; cases h⟩
  · rw [h1]; exact ⟨rfl, rfl, Iff.rfl, fun _ => rfl⟩
theorem wholeR_bad (l : List Nat) (s : RS) (h : s.err ≠ none) : wholeR l s = (0, s) := by
  unfold wholeR
  split
  · rfl
  · rename_i h0; exact absurd h0 h
theorem ins_clean {l : List Nat} {so sA sC sN : RS} {co aV bV nV : Nat} (ea : insA l co so = (aV, sA)) (eb : insB l co sA = (bV, sC)) (en : insN l co sC = (nV, sN)) (h : sN.err = none) : so.err = none := by
  cases he : so.err with
  | none => rfl
  | some kp =>
    have hso : so.err ≠ none := by rw [he]; simp
    have c1 : sA = so := by
      unfold insA at ea
      split at ea
      · rw [numberR_bad l 0 1048576 so hso] at ea; exact (congrArg Prod.snd ea).symm
      · exact (congrArg Prod.snd ea).symm
    subst c1
    have c2 : sC = sA := by
      unfold insB at eb
      split at eb
      · rw [numberR_bad l 0 1048576 sA hso] at eb; exact (congrArg Prod.snd eb).symm
      · exact (congrArg Prod.snd eb).symm
    subst c2
    have c3 : sN = sC := by
      unfold insN at en
      split at en
      · rw [wholeR_bad l sC hso] at en; exact (congrArg Prod.snd en).symm
      · exact (congrArg Prod.snd en).symm
    rw [c3] at h
    exact absurd h hso
def TCut (W1 : World) (g : Nat) (B : Option Addr) (n c : Nat) (wr : World) (b : Bool) (u : Value) (wx : World) : Prop := u = .bool b ∧ wr = wx
def RetC (W0 : World) (g : Nat) (B : Option Addr) (n c : Nat) (st : RS) (gm : Nat) (q0 q1 : ByteArray) (x : Nat) (wx : World) : Prop := ∃ q2 : ByteArray, q2.toList = retL x ∧ US W0 wx g B n c st gm q0 q1 q2 (.slice none 0 0) []
set_option maxRecDepth 100000 in
set_option maxHeartbeats 8000000 in
theorem rdecode_long (A : Option Addr) (n c : Nat) (l : List Nat) (w : World) (hl : l.length = n) (hn : 16384 < n) :
    Calls Tryd.prog 18 #[.slice A n c] w (RDPost w (decP l)) := by
  have hd : decP l = (none, some (0, [])) := by unfold decP; rw [if_pos (by omega)]
  rw [hd]
  have t1 : decide ((16384 : Int) < (n : Int)) = true := by simp; omega
  obtain ⟨W0, hW0⟩ : ∃ W, W = (w.alloc (.cells #[.slice none 0 0, .slice none 0 0] 25)).alloc (.cells #[.int .i64 0, .slice none 0 0] 35) := ⟨_, rfl⟩
  have HB0 : Hid (Below w.heap.size w W0) := Lib.hid (by rw [hW0]; exact ((Below.refl _ _).alloc (Nat.le_refl _) _).alloc (by simp) _)
  have HR0 : Hid (Blk W0 w.heap.size 25 #[.slice none 0 0, .slice none 0 0]) := Lib.hid (by rw [hW0]; exact (Blk.new _ _ _).alloc _)
  have HR1 : Hid (Blk W0 (w.heap.size + 1) 35 #[.int .i64 0, .slice none 0 0]) := Lib.hid (by
    rw [hW0]
    have := Blk.new (w.alloc (.cells #[.slice none 0 0, .slice none 0 0] 25)) 35 #[.int .i64 0, .slice none 0 0]
    simpa using this)
  obtain ⟨r0, hr0⟩ : ∃ r, r = w.heap.size := ⟨_, rfl⟩
  obtain ⟨r1, hr1⟩ : ∃ r, r = w.heap.size + 1 := ⟨_, rfl⟩
  have HG0 : Hid (w.heap.size ≤ r0) := Lib.hid (by omega)
  have HG1 : Hid (w.heap.size ≤ r1) := Lib.hid (by omega)
  clear hd
  go_enter Tryd.func18, Tryd.ntmps18
  go_wp2_with fail
  rw [← hW0, ← hr1, ← hr0]
  rw [← hr0] at HR0
  rw [← hr1] at HR1
  clear hW0 hr0 hr1
  refine (bare_any 101 _).mono ?_
  rintro e w7 ⟨rfl, hb7⟩
  have HB7 : Hid (Below w.heap.size w w7) := Lib.hid (HB0.out.trans (hb7.mono HB0.out.size))
  have HQ0 := Lib.hid (HR0.out.below hb7 HR0.out.lt)
  have HQ1 := Lib.hid (HR1.out.below hb7 HR1.out.lt)
  unfold fV
  clear hb7
  have c0 : w7.cell? ⟨r0, 0, none⟩ = some (.slice none 0 0) := HQ0.out.cell 0
  have c1 : w7.cell? ⟨r0, 1, none⟩ = some (.slice none 0 0) := HQ0.out.cell 1
  have c2 : w7.cell? ⟨r1, 0, none⟩ = some (.int .i64 0) := HQ1.out.cell 0
  have c3 : w7.cell? ⟨r1, 1, none⟩ = some (.slice none 0 0) := HQ1.out.cell 1
  have f0 := HQ0.out.frozen 0
  have f1 := HQ0.out.frozen 1
  have f2 := HQ1.out.frozen 0
  have f3 := HQ1.out.frozen 1
  have g0 := HQ0.out.lt
  have g1 := HQ1.out.lt
  have hne : r0 ≠ r1 := Blk.ne_ HQ0.out HQ1.out (by decide)
  go_wp2
  refine bodyPost_ret (v := .tuple #[.agg #[.slice none 0 0, .slice none 0 0], fV 101 (.slice none 0 0)]) ?_ rfl ?_
  · simp [results, Tryd.results18, go_sem, fV, c0, c1, c2, c3]
  · exact rfin (p := ⟨[], none, 0, [], none, 0⟩) _ _ _ _ HB7.out HG0.out HG1.out HQ0.out HQ1.out ⟨Reads.none_, Reads.none_, fun x hx => by cases hx⟩ (fun a h => by cases h) (fun a h => by cases h) (fun x hx => by cases hx) (fun a h => by cases h) Reads.none_ rfl rfl rfl
end Go.Proofs.YtnojejplckhifaaDoor
