/- The contract of the reader's letters. -/
import Derived.Test.YtnojejplckhifaaDoorRd3
import Derived.Test.YtnojejplckhifaaDoorTrim
import Derived.Laws.BytesArg
namespace Go.Proofs.YtnojejplckhifaaDoor
open Go.RowKit
set_option linter.unusedVariables false

theorem But.setNew {g : Nat} {w w' : World} (h : But g w w') {p : Addr} (hp : w.heap.size ≤ p.block) (u : Value) : But g w (w'.setCell p u) :=
  ⟨h.os, h.tape, h.output, by simpa [World.setCell] using h.size, fun k hk hn => (Below.heap_setCell w' p u k (by omega)).trans (h.block k hk hn)⟩
/-- a store into a block of another type leaves the reader as it is -/
theorem RdAt.far {w : World} {g : Nat} {B : Option Addr} {n c : Nat} {ad : Nat → Addr} {s : RS} (h : RdAt w g B n c ad s) {b : Nat} {t : TypeId} {cs : Array Value} (hb : Blk w b t cs) (h1 : t ≠ 78) (h2 : t ≠ 106) (i : Nat) (u : Value) : RdAt (w.setCell ⟨b, i, none⟩ u) g B n c ad s := by
  obtain ⟨ev, hk, he⟩ := h.blk
  refine ⟨⟨ev, hk.far (p := ⟨b, i, none⟩) (Blk.ne_ hk hb (fun e => h1 e.symm)) u, ?_⟩, h.le⟩
  revert he
  cases s.err with
  | none => exact fun he => he
  | some kp =>
    rintro ⟨p, e1, e2, e3⟩
    exact ⟨p, e1, e2, e3.far (p := ⟨b, i, none⟩) (Blk.ne_ e3 hb (fun e => h2 e.symm)) u⟩
theorem RdAt.but {w w' : World} {g : Nat} {B : Option Addr} {n c : Nat} {ad : Nat → Addr} {s : RS} (h : RdAt w g B n c ad s) (hb : Below w.heap.size w w') : RdAt w' g B n c ad s := by
  obtain ⟨ev, hk, he⟩ := h.blk
  exact ⟨⟨ev, hk.below hb hk.lt, he.but (But.of hb)⟩, h.le⟩
def bytes0 (c : Nat) : Array Value := madeCells #[.int .u8 0] c
theorem make_bytes (c : Nat) (hc : c ≤ 16384) (w : World) : (Instr.makeSlice 26 (.int .i64 (c : Int)) (.int .i64 (c : Int))).run Tryd.prog w = .ok (.slice (some ⟨w.heap.size, 0, none⟩) c c) (w.alloc (.cells (bytes0 c) 5)) := by
  obtain ⟨i0, hi0, hz0, hz1, hz2⟩ := info_parts byte_info
  have h := run_makeSlice (P := Tryd.prog) w 26 5 i0 (.int .u8 0) Tryd.underlying26 hi0 hz0 .i64 .i64 c c (by omega) (Int.le_refl _) (by rw [hz1]; simp; omega) (by rw [hz2]; simp; omega) (by omega)
  rw [h, hz1, Int.toNat_natCast, Nat.mul_one]
  rfl
/-- the buffer when so many letters are read -/
def bufA (xs : List Nat) (n : Nat) : Array Value := (xs.map bv ++ List.replicate (n - xs.length) (bv 0)).toArray
theorem buf0 (n : Nat) : bytes0 n = bufA [] n := by
  have h := toList_madeCells_one (.int .u8 0) n
  unfold bufA
  apply Array.ext'
  rw [bytes0, h]
  simp [bv]
theorem buf_set (xs : List Nat) (n x : Nat) (h : xs.length < n) : (bufA xs n).setIfInBounds xs.length (bv x) = bufA (xs ++ [x]) n := by
  obtain ⟨d, rfl⟩ : ∃ d, n = xs.length + 1 + d := ⟨n - xs.length - 1, by omega⟩
  unfold bufA
  apply Array.ext'
  rw [Array.toList_setIfInBounds]
  simp only [List.map_append, List.map_cons, List.map_nil, List.length_append, List.length_cons, List.length_nil]
  rw [show xs.length + 1 + d - xs.length = d + 1 by omega, show xs.length + 1 + d - (xs.length + (0 + 1)) = d by omega, List.replicate_succ]
  rw [List.set_append_right _ _ (by simp)]
  simp
theorem times_len {α : Type} (f : RS → α × RS) (k : Nat) (s : RS) : (timesR f k s).1.length = k := by
  induction k with
  | zero => rfl
  | succ k ih => show ((timesR f k s).1 ++ [_]).length = k + 1; simp [ih]
def LtRel (w : World) (g : Nat) (B : Option Addr) (n c : Nat) (l : List Nat) (ad : Nat → Addr) (s1 : RS) (m gb : Nat) (si : Value) (wr : World) : Prop :=
  ∃ k : Nat, k ≤ m ∧ si = .int .i64 (k : Int) ∧ RdAt wr g B n c ad (timesR (byteR l mIR) k s1).2 ∧ But g w wr ∧ Blk wr gb 5 (bufA (timesR (byteR l mIR) k s1).1 m)
theorem strOf_bytes (xs : List Nat) : strOfNums (xs.map fun x : Nat => (x : Int)) = ⟨(strB xs).toArray⟩ := by
  unfold strOfNums strB
  rw [List.map_map]
  rfl
theorem letters_num (l : List Nat) (most : Nat) (s : RS) : (numberR l 0 most s).1 ≤ most := by
  unfold numberR
  split
  · simp
  · rename_i h
    omega
set_option maxRecDepth 100000 in
set_option maxHeartbeats 1000000 in
theorem lettersR_any (most : Nat) (hm : most ≤ 16384) (g : Nat) (B : Option Addr) (n c : Nat) (l : List Nat) (ad : Nat → Addr) (s : RS) (w : World) (h : RdAt w g B n c ad s) (hE : Env w g B n c l ad) :
    Calls Tryd.prog 44 #[.pointer (some ⟨g, 0, none⟩), .int .i64 (most : Int)] w (RPost w g B n c ad (strV (strB (lettersR l most s).1)) (lettersR l most s).2) := by
  have HH := Lib.hid h
  have HE := Lib.hid hE
  have hlt := hE.lt
  obtain ⟨m, hmm⟩ : ∃ m, m = (numberR l 0 most s).1 := ⟨_, rfl⟩
  obtain ⟨s1, hs1⟩ : ∃ s1, s1 = (numberR l 0 most s).2 := ⟨_, rfl⟩
  have hmle : m ≤ 16384 := by rw [hmm]; exact Nat.le_trans (letters_num l most s) hm
  have HLR : Hid (lettersR l most s = timesR (byteR l mIR) m s1) := Lib.hid (by rw [hmm, hs1]; rfl)
  clear h hE
  go_enter Tryd.func44, Tryd.ntmps44
  go_wp2_with fail
  refine (number_any 0 most (by omega) (by decide) g B n c l ad s _ HH.out HE.out).mono ?_
  rintro e w1 ⟨rfl, hr1, hb1⟩
  rw [← hmm]
  rw [← hs1] at hr1
  have HR1 := Lib.hid hr1
  have HB1 := Lib.hid hb1
  have hmk := make_bytes m hmle
  clear hr1 hb1 hmm hs1
  go_wp2_with fail
  have HREL : Hid (LtRel w g B n c l ad s1 m w1.heap.size (.int .i64 0) (w1.alloc (.cells (bytes0 m) 5))) := Lib.hid ⟨0, Nat.zero_le _, rfl, HR1.out.but ((Below.refl _ _).alloc (Nat.le_refl _) _), HB1.out.alloc _, by rw [buf0]; exact Blk.new _ _ _⟩
  have hgb : g < w1.heap.size := HR1.out.lt
  have hwb : w.heap.size ≤ w1.heap.size := HB1.out.size
  obtain ⟨gb, hgbe⟩ : ∃ gb, gb = w1.heap.size := ⟨_, rfl⟩
  rw [← hgbe] at HREL hgb hwb ⊢
  clear hmk hgbe
  go_loopw [13] (fun si wr => LtRel w g B n c l ad s1 m gb si wr) (fun si _ => m - (intOf si).toNat)
  case atStart => exact HREL.out
  case round =>
    obtain ⟨k, hk, rfl, hrd, hbt, hbk⟩ := hrel
    have HRD := Lib.hid hrd
    have HBT := Lib.hid hbt
    have HBK := Lib.hid hbk
    have hlen := times_len (byteR l mIR) k s1
    by_cases hlt : k < m
    · have hkm : (k : Int) < (m : Int) := by omega
      obtain ⟨q, hq⟩ : ∃ q, q = byteR l mIR (timesR (byteR l mIR) k s1).2 := ⟨_, rfl⟩
      have hsz : (bufA (timesR (byteR l mIR) k s1).1 m).size = m := by unfold bufA; simp; omega
      clear hrd hbt hbk
      go_wp2_with fail
      refine (byte_ir g B n c l ad (timesR (byteR l mIR) k s1).2 _ HRD.out (HE.out.but HBT.out)).mono ?_
      rintro e w3 ⟨rfl, hr3, hb3⟩
      rw [← hq] at hr3 ⊢
      have HR3 := Lib.hid hr3
      have HB3 := Lib.hid hb3
      have hbk3 : Blk w3 gb 5 (bufA (timesR (byteR l mIR) k s1).1 m) := hb3.blk HBK.out (by omega)
      have HBK3 := Lib.hid hbk3
      have hf : w3.frozen? ⟨gb, k, none⟩ = false := hbk3.frozen k
      have hc3 : ∃ v, w3.cell? ⟨gb, k, none⟩ = some v := ⟨_, (hbk3.cell k).trans (Array.getElem?_eq_getElem (by omega))⟩
      obtain ⟨v0, hv0⟩ := hc3
      have HQ : Hid ((timesR (byteR l mIR) (k + 1) s1) = ((timesR (byteR l mIR) k s1).1 ++ [q.1], q.2)) := Lib.hid (by rw [hq]; rfl)
      clear hq hr3 hb3 hbk3
      go_wp2
      refine ⟨⟨k + 1, by omega, by go_num, ?_, (HBT.out.trans HB3.out).setNew hwb _, ?_⟩, by simp [intOf]; omega⟩
      · rw [HQ.out]
        exact HR3.out.far HBK3.out (by decide) (by decide) _ _
      · rw [HQ.out]
        have := HBK3.out.set_ k (bv q.1)
        have e := buf_set (timesR (byteR l mIR) k s1).1 m q.1 (by omega)
        rw [hlen] at e
        rw [e] at this
        exact this
    · obtain rfl : k = m := by omega
      obtain ⟨xs, hxs⟩ : ∃ xs, xs = (timesR (byteR l mIR) k s1).1 := ⟨_, rfl⟩
      rw [← hxs] at hlen hbk
      have HLX : Hid (lettersR l most s = (xs, (timesR (byteR l mIR) k s1).2)) := Lib.hid (by rw [HLR.out, hxs])
      have hcv := run_convert_bytes_arg (P := Tryd.prog) wr 26 5 Tryd.underlying26 Tryd.underlying5 gb 0 k k (xs.map fun x : Nat => (x : Int)) (by simpa using hlen) (fun i hi => by
        rw [Nat.zero_add, hbk.cell i]
        unfold bufA
        have hix : i < xs.length := by omega
        simp [bv, List.getElem?_append_left, hix, List.getD_eq_getElem?_getD]) 9 Tryd.underlying9
      rw [strOf_bytes] at hcv
      clear hrd hbt hbk hxs hlt
      go_wp2
      go_ret
      rw [HLX.out]
      exact ⟨rfl, HRD.out, HBT.out⟩
end Go.Proofs.YtnojejplckhifaaDoor
