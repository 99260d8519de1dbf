/- The contract of the document's reader's letters. -/
import Derived.Test.YtnojejplckhifaaDoorQlo
namespace Go.Proofs.YtnojejplckhifaaDoor
open Go.RowKit
set_option linter.unusedVariables false

theorem times_stuck {α : Type} {f : List Nat → RS → α × RS} (hf : ∀ l s, s.err ≠ none → (f l s).2 = s) (l : List Nat) (s : RS) (k : Nat) (h : (timesR (f l) k s).2.err ≠ none) : ∀ j, (timesR (f l) (k + j) s).2 = (timesR (f l) k s).2
  | 0 => rfl
  | j + 1 => by
    have e := times_stuck hf l s k h j
    show (f l (timesR (f l) (k + j) s).2).2 = _
    rw [e]
    exact hf l _ h
theorem times_to {α : Type} {f : List Nat → RS → α × RS} (hf : ∀ l s, s.err ≠ none → (f l s).2 = s) (l : List Nat) (s : RS) {k m : Nat} (hk : k ≤ m) (h : (timesR (f l) k s).2.err ≠ none) : (timesR (f l) m s).2 = (timesR (f l) k s).2 := by
  obtain ⟨j, rfl⟩ := Nat.exists_eq_add_of_le hk
  exact times_stuck hf l s k h j
theorem snoc_toList (q : ByteArray) (c : UInt8) : (q ++ (⟨#[c]⟩ : ByteArray)).toList = q.toList ++ [c] := by
  rw [ByteArray.toList_eq, ByteArray.toList_eq]
  simp
theorem snoc_size (q : ByteArray) (c : UInt8) : (q ++ (⟨#[c]⟩ : ByteArray)).size = q.size + 1 := by
  rw [ByteArray.size_append]
  rfl
def QLRel (w : World) (g : Nat) (B : Option Addr) (n c : Nat) (l : List Nat) (s0 : RS) (N : Nat) (sv si : Value) (wr : World) : Prop :=
  ∃ (k : Nat) (q : ByteArray), k ≤ N ∧ si = .int .i64 (k : Int) ∧ sv = .string q ∧ q.size ≤ k ∧ QAt wr g B n c (timesR (byteR l mIR) k s0).2 ∧ ((timesR (byteR l mIR) k s0).2.err = none → q.toList = strB (timesR (byteR l mIR) k s0).1) ∧ But g w wr
def QLPost (w : World) (g : Nat) (B : Option Addr) (n c : Nat) (l : List Nat) (s0 : RS) (N : Nat) (e : Ending) (w' : World) : Prop :=
  ∃ q : ByteArray, e = .returned (.string q) ∧ q.size ≤ N ∧ QAt w' g B n c (timesR (byteR l mIR) N s0).2 ∧ ((timesR (byteR l mIR) N s0).2.err = none → q.toList = strB (timesR (byteR l mIR) N s0).1) ∧ But g w w'
set_option maxRecDepth 100000 in
set_option maxHeartbeats 2000000 in
theorem qletters_any (N : Nat) (hN : N ≤ 1000) (g : Nat) (B : Option Addr) (n c : Nat) (l : List Nat) (s : RS) (w : World) (h : QAt w g B n c s) (hE : QEnv w g B n c l) :
    Calls Tryd.prog 50 #[.pointer (some ⟨g, 0, none⟩), .int .i64 (N : Int)] w (QLPost w g B n c l s N) := by
  have HQ := Lib.hid h
  have HE := Lib.hid hE
  clear h hE
  go_enter Tryd.func50, Tryd.ntmps50
  go_wp2
  go_loopw [5, 6] (fun sv si wr => QLRel w g B n c l s N sv si wr) (fun _ si _ => N - (intOf si).toNat)
  case atStart => exact ⟨0, ⟨#[]⟩, Nat.zero_le _, rfl, rfl, by simp [ByteArray.size], HQ.out, fun _ => by simp [ByteArray.toList_eq]; rfl, But.refl⟩
  case round =>
    obtain ⟨k, q, hk, rfl, rfl, hqs, hq, hd, hbt⟩ := hrel
    have HQK := Lib.hid hq
    have HD := Lib.hid hd
    have HBT := Lib.hid hbt
    obtain ⟨sk, hsk⟩ : ∃ x, x = (timesR (byteR l mIR) k s).2 := ⟨_, rfl⟩
    have HSK := Lib.hid hsk
    rw [← hsk] at HQK
    clear hq hd hbt
    by_cases hlt : k < N
    · have hlt' : (k : Int) < (N : Int) := by omega
      cases he : sk.err with
      | some kp =>
        --{L1
        have HT : Hid ((timesR (byteR l mIR) N s).2 = sk) := Lib.hid (by rw [hsk]; exact times_to (rd_byte mIR).stay l s hk (by rw [← hsk, he]; simp))
        have HEE : Hid (sk.err = some kp) := Lib.hid he
        clear hsk he
        go_wp2_with fail
        refine (qbad_is g B n c sk true _ HQK.out (by rw [HEE.out]; rfl)).mono ?_
        rintro e w2 ⟨rfl, hw⟩
        rw [hw]
        clear hw
        go_wp2
        go_ret
        exact ⟨q, rfl, by omega, by rw [HT.out]; exact HQK.out, (fun h0 => by rw [HT.out, HEE.out] at h0; cases h0), HBT.out⟩
        --}L1
      | none =>
        --{L2
        have HEE : Hid (sk.err = none) := Lib.hid he
        clear hsk he
        go_wp2_with fail
        refine (qbad_is g B n c sk false _ HQK.out (by rw [HEE.out]; rfl)).mono ?_
        rintro e w2 ⟨rfl, hw⟩
        rw [hw]
        clear hw
        go_wp2_with fail
        obtain ⟨W1, hW1⟩ : ∃ W, W = wr.alloc (.cells #[.int .u8 73, .int .u8 82] 5) := ⟨_, rfl⟩
        have HB1 : Hid (Below wr.heap.size wr W1) := Lib.hid (by rw [hW1]; exact (Below.refl _ _).alloc (Nat.le_refl _) _)
        have HT1 : Hid (Reads W1 W1.heap.size 1 (some ⟨wr.heap.size, 0, none⟩) 2 ([73, 82].map bv)) := Lib.hid (by rw [hW1]; exact reads_newS _ _ _ 1 2 _ rfl rfl)
        have HQ1 : Hid (QAt W1 g B n c sk) := Lib.hid (HQK.out.but HB1.out)
        have HBT1 : Hid (But g w W1) := Lib.hid (HBT.out.trans (But.of HB1.out))
        rw [← hW1]
        clear hW1
        refine (qbyte_any mIR false _ 2 2 [73, 82] g B n c l sk _ (fun x _ => by unfold mIR; rw [Bool.eq_iff_iff]; simp) HT1.out (by decide) HQ1.out (HE.out.but HBT1.out)).mono ?_
        rintro e w3 ⟨rfl, q1, q2⟩
        obtain ⟨x, hx⟩ : ∃ x, x = (byteR l mIR sk).1 := ⟨_, rfl⟩
        rw [← hx]
        have hx256 : x < 256 := by rw [hx]; exact byteR_lt l mIR sk HE.out.byte
        have HQ3 := Lib.hid q1
        have HB3 : Hid (But g w w3) := Lib.hid (HBT1.out.trans q2)
        have HX := Lib.hid hx
        have hcv := conv_one w3 x 9 Tryd.underlying9
        have hcat : q.size + 1 ≤ 9223372036854775807 := by omega
        clear q1 q2 hx
        go_wp2
        have HQ4 : Hid (QAt (w3.alloc (.cells #[.int .u8 (x : Int)] 5)) g B n c (byteR l mIR sk).2) := Lib.hid (HQ3.out.but ((Below.refl _ _).alloc (Nat.le_refl _) _))
        have HB4 : Hid (But g w (w3.alloc (.cells #[.int .u8 (x : Int)] 5))) := Lib.hid (HB3.out.alloc _)
        have HTS : Hid (timesR (byteR l mIR) (k + 1) s = ((timesR (byteR l mIR) k s).1 ++ [x], (byteR l mIR sk).2)) := Lib.hid (by
          show ((timesR (byteR l mIR) k s).1 ++ [(byteR l mIR (timesR (byteR l mIR) k s).2).1], (byteR l mIR (timesR (byteR l mIR) k s).2).2) = _
          rw [HX.out, ← HSK.out])
        go_roundw
        case rel =>
          refine ⟨k + 1, _, by omega, by go_num, rfl, ?_, by rw [HTS.out]; exact HQ4.out, fun h0 => ?_, HB4.out⟩
          · rw [snoc_size]
            omega
          · rw [HTS.out]
            have h1 := HD.out (by rw [← HSK.out]; exact HEE.out)
            rw [snoc_toList, h1]
            simp [strB]
        case measure => simp [intOf]; omega
        --}L2
    · --{L3
      have hkN : k = N := by omega
      have t1 : decide ((k : Int) < (N : Int)) = false := by simp; omega
      subst hkN
      go_wp2
      go_ret
      exact ⟨q, rfl, hqs, by have h := HQK.out; rw [HSK.out] at h; exact h, HD.out, HBT.out⟩
      --}L3
end Go.Proofs.YtnojejplckhifaaDoor
