/- The walk of the reader's method (printed by mkrd6.py). -/
import Derived.Test.YtnojejplckhifaaDoorRd6
namespace Go.Proofs.YtnojejplckhifaaDoor
open Go.RowKit
set_option linter.unusedVariables false

theorem letters_is (xs : List Nat) (st : RS) (z : Int) (most : Nat) (hz : z = (most : Int)) (hm : most ≤ 16384) (g : Nat) (B : Option Addr) (n c : Nat) (l : List Nat) (ad : Nat → Addr) (s : RS) (w : World) (hq : (xs, st) = lettersR l most s) (h : RdAt w g B n c ad s) (hE : Env w g B n c l ad) :
    Calls Tryd.prog 44 #[.pointer (some ⟨g, 0, none⟩), .int .i64 z] w (RPost w g B n c ad (strV (strB xs)) st) := by
  subst hz
  have := lettersR_any most hm g B n c l ad s w h hE
  rw [← hq] at this
  exact this
theorem byteret_is (x : Nat) (st : RS) (g : Nat) (B : Option Addr) (n c : Nat) (l : List Nat) (ad : Nat → Addr) (s : RS) (w : World) (hq : (x, st) = byteR l mRet s) (h : RdAt w g B n c ad s) (hE : Env w g B n c l ad) :
    Calls Tryd.prog 41 #[.pointer (some ⟨g, 0, none⟩), .func (Fn.func 65) #[] #[]] w (RPost w g B n c ad (.int .u8 (x : Int)) st) := by
  have := byte_ret g B n c l ad s w h hE
  rw [← hq] at this
  exact this
theorem letters_le (l : List Nat) (most : Nat) (s : RS) : (lettersR l most s).1.length ≤ most := by
  show (timesR _ _ _).1.length ≤ most
  rw [times_len]
  exact letters_num l most s
theorem MS.set1 {w W : World} {g : Nat} {B : Option Addr} {n c : Nat} {ad : Nat → Addr} {st : RS} {gm gr : Nat} {p q r : List UInt8} {v : Value} {k : Nat} {xs : List Ins} (h : MS w W g B n c ad st gm gr p q r v k xs) (q' : List UInt8) : MS w (W.setCell ⟨gm, 1, none⟩ (strV q')) g B n c ad st gm gr p q' r v k xs := by
  obtain ⟨h1, h2, h3, h4, h5⟩ := h.set 1 (strV q')
  exact ⟨h1, h2, h3, h4, h5, h.hx, h.hr, h.ne, h.hg⟩
theorem MS.set2 {w W : World} {g : Nat} {B : Option Addr} {n c : Nat} {ad : Nat → Addr} {st : RS} {gm gr : Nat} {p q r : List UInt8} {v : Value} {k : Nat} {xs : List Ins} (h : MS w W g B n c ad st gm gr p q r v k xs) (r' : List UInt8) : MS w (W.setCell ⟨gm, 2, none⟩ (strV r')) g B n c ad st gm gr p q r' v k xs := by
  obtain ⟨h1, h2, h3, h4, h5⟩ := h.set 2 (strV r')
  exact ⟨h1, h2, h3, h4, h5, h.hx, h.hr, h.ne, h.hg⟩
theorem MS.alloc {w W : World} {g : Nat} {B : Option Addr} {n c : Nat} {ad : Nat → Addr} {st : RS} {gm gr : Nat} {p q r : List UInt8} {v : Value} {k : Nat} {xs : List Ins} (h : MS w W g B n c ad st gm gr p q r v k xs) (o : Obj) : MS w (W.alloc o) g B n c ad st gm gr p q r v k xs :=
  h.call (h.rd.but ((Below.refl _ _).alloc (Nat.le_refl _) o)) (But.refl.alloc o)
theorem own_nil (w : World) (base : Nat) : w.ownsRow base 56 4 (.slice none 0 0) 0 (insL []) := ⟨rfl, .inl ⟨rfl, rfl⟩⟩
theorem conv_one (W : World) (x : Nat) : ∀ dst, Tryd.prog.underlying dst = some .string → (convert 26 dst (.slice (some ⟨W.heap.size, 0, none⟩) 1 1)).run Tryd.prog (W.alloc (.cells #[.int .u8 (x : Int)] 5)) = .ok (.string ⟨#[UInt8.ofNat x]⟩) (W.alloc (.cells #[.int .u8 (x : Int)] 5)) := by
  have := run_convert_bytes_arg (P := Tryd.prog) (W.alloc (.cells #[.int .u8 (x : Int)] 5)) 26 5 Tryd.underlying26 Tryd.underlying5 W.heap.size 0 1 1 [(x : Int)] rfl (fun i hi => by
    obtain rfl : i = 0 := by omega
    exact (Blk.new W _ _).cell 0)
  exact this
set_option maxRecDepth 100000 in
set_option maxHeartbeats 4000000 in
theorem methodR_any (g : Nat) (B : Option Addr) (n c : Nat) (l : List Nat) (ad : Nat → Addr) (s : RS) (w : World) (h : RdAt w g B n c ad s) (hE : Env w g B n c l ad) :
    Calls Tryd.prog 45 #[.pointer (some ⟨g, 0, none⟩)] w (MPost w g B n c ad (methodR l s).1 (methodR l s).2) := by
  obtain ⟨i0, hi0, hz0, hz1, hz2⟩ := info_parts ins_info
  have hlt := hE.lt
  obtain ⟨x0, s0, e0⟩ : ∃ x st, (x, st) = lettersR l 12 s := ⟨_, _, rfl⟩
  have l0 : x0.length ≤ 12 := by have := letters_le l 12 s; rw [← e0] at this; exact this
  obtain ⟨x1, s1, e1⟩ : ∃ x st, (x, st) = lettersR l (12 - x0.length) s0 := ⟨_, _, rfl⟩
  obtain ⟨x2, s2, e2⟩ : ∃ x st, (x, st) = byteR l mRet s1 := ⟨_, _, rfl⟩
  have hx2 : x2 < 256 := by have := byteR_lt l mRet s1 hE.byte; rw [← e2] at this; exact this
  obtain ⟨m, s3, e3⟩ : ∃ x st, (x, st) = numberR l 1 120 s2 := ⟨_, _, rfl⟩
  have hm : m ≤ 120 := by
    have : (numberR l 1 120 s2).1 ≤ 120 := by
      unfold numberR
      split
      · exact Nat.zero_le _
      · rename_i h; omega
    rw [← e3] at this
    exact this
  have HMR : Hid (methodR l s = (⟨strB x0, strB x1, retL x2, (timesR (instrR l) m s3).1⟩, (timesR (instrR l) m s3).2)) := Lib.hid (by
    unfold methodR
    simp only []
    rw [← e0]
    simp only []
    rw [← e1]
    simp only []
    rw [← e2]
    simp only []
    rw [← e3])
  have E0 := Lib.hid e0
  have E1 := Lib.hid e1
  have E2 := Lib.hid e2
  have E3 := Lib.hid e3
  have HR : Hid (RdAt (w.alloc (.cells #[strV [], strV [], strV [], .slice none 0 0] 54)) g B n c ad s) := Lib.hid (h.but ((Below.refl _ _).alloc (Nat.le_refl _) _))
  have HB : Hid (But g w (w.alloc (.cells #[strV [], strV [], strV [], .slice none 0 0] 54))) := Lib.hid (But.refl.alloc _)
  have HE := Lib.hid hE
  have HX : Hid (Blk (w.alloc (.cells #[strV [], strV [], strV [], .slice none 0 0] 54)) w.heap.size 54 #[strV [], strV [], strV [], .slice none 0 0]) := Lib.hid (Blk.new _ _ _)
  obtain ⟨q0, hq0⟩ : ∃ q, q = (⟨(strB x0).toArray⟩ : ByteArray) := ⟨_, rfl⟩
  have hq0s : q0.size = x0.length := by rw [hq0]; simp [ByteArray.size, strB]
  obtain ⟨P0, hP0⟩ : ∃ P, P = x0.length := ⟨_, rfl⟩
  rw [← hP0] at hq0s l0
  have HP0 := Lib.hid hP0
  have HQ0 := Lib.hid hq0
  clear h hE e0 e1 e2 e3 hq0 hP0
  go_enter Tryd.func45, Tryd.ntmps45
  go_wp2_with fail
  refine (letters_is x0 s0 12 12 rfl (by decide) g B n c l ad s _ E0.out HR.out (HE.out.but HB.out)).mono ?_
  rintro e w1 ⟨rfl, u1, u2⟩
  have HX1 : Hid (Blk w1 w.heap.size 54 #[strV [], strV [], strV [], .slice none 0 0]) := Lib.hid (u2.blk HX.out (by omega))
  have HR1 := Lib.hid u1
  have HB1 : Hid (But g w w1) := Lib.hid (HB.out.trans u2)
  clear u1 u2
  have hs1 : w.heap.size < w1.heap.size := HX1.out.lt
  have HS : Hid (MS w (w1.alloc (.cells #[strV (strB x0), strV [], strV [], .slice none 0 0] 54)) g B n c ad s0 w1.heap.size w.heap.size (strB x0) [] [] (.slice none 0 0) 0 []) := Lib.hid
    ⟨HR1.out.but ((Below.refl _ _).alloc (Nat.le_refl _) _), HB1.out.alloc _, Blk.new _ _ _, HX1.out.alloc _, own_nil _ _, by omega, Nat.le_refl _, by omega, hlt⟩
  unfold strV
  unfold strV at HS
  rw [← HQ0.out] at HS ⊢
  go_wp2_with fail
  have hz12 : (12 : Int) - (P0 : Int) = ((12 - x0.length : Nat) : Int) := by have := HP0.out; omega
  refine (letters_is x1 s1 _ (12 - x0.length) hz12 (by omega) g B n c l ad s0 _ E1.out HS.out.rd (HE.out.but HS.out.bt)).mono ?_
  rintro e w2 ⟨rfl, u1, u2⟩
  have HS2 := Lib.hid (HS.out.call u1 u2)
  clear u1 u2 hz12
  obtain ⟨gm, hgm⟩ : ∃ gx, gx = w1.heap.size := ⟨_, rfl⟩
  obtain ⟨gr, hgr⟩ : ∃ gr, gr = w.heap.size := ⟨_, rfl⟩
  have hgrw : w.heap.size = gr := hgr.symm
  rw [← hgm] at HS2 ⊢
  rw [← hgr]
  have HS2 : Hid (MS w w2 g B n c ad s1 gm gr (strB x0) [] [] (.slice none 0 0) 0 []) := Lib.hid (by rw [hgr]; exact HS2.out)
  clear hgm HX1 HR1 HB1 HX HB HR hs1 hgr HS
  have HGR := Lib.hid hgrw
  clear hgrw
  have y1 : w2.cell? ⟨gm, 1, none⟩ = some (strV []) := HS2.out.bx.cell 1
  have f1 := HS2.out.bx.frozen 1
  have hgm2 : gm < w2.heap.size := HS2.out.bx.lt
  unfold strV
  unfold strV at y1
  go_wp2_with fail
  have HS3 := Lib.hid (HS2.out.set1 (strB x1))
  obtain ⟨W3, hW3⟩ : ∃ W, W = w2.setCell ⟨gm, 1, none⟩ (strV (strB x1)) := ⟨_, rfl⟩
  have hW3' : w2.setCell ⟨gm, 1, none⟩ (.string ⟨(strB x1).toArray⟩) = W3 := hW3.symm
  rw [hW3']
  rw [← hW3] at HS3
  clear hW3 hW3' y1 f1 hgm2
  refine (byteret_is x2 s2 g B n c l ad s1 _ E2.out HS3.out.rd (HE.out.but HS3.out.bt)).mono ?_
  rintro e w4 ⟨rfl, u1, u2⟩
  have HS4 := Lib.hid (HS3.out.call u1 u2)
  clear u1 u2
  have hgm4 : gm < w4.heap.size := HS4.out.bx.lt
  obtain ⟨W5, HS5, HG⟩ : ∃ W5, Hid (MS w W5 g B n c ad s2 gm gr (strB x0) (strB x1) (retL x2) (.slice none 0 0) 0 []) ∧ Hid (W5 = if x2 = 0 then w4 else (w4.setCell ⟨gm, 2, none⟩ (strV (retL x2))).alloc (.cells #[.int .u8 (x2 : Int)] 5)) := by
    by_cases hz : x2 = 0
    · refine ⟨w4, Lib.hid ?_, Lib.hid (by rw [if_pos hz])⟩
      have : retL x2 = [] := by unfold retL; rw [if_pos hz]
      rw [this]
      exact HS4.out
    · exact ⟨_, Lib.hid ((HS4.out.set2 (retL x2)).alloc (.cells #[.int .u8 (x2 : Int)] 5)), Lib.hid (by rw [if_neg hz])⟩
  by_cases hz : x2 = 0
  · have t1 : ((x2 : Int) == 0) = true := by simp [hz]
    have t2 : ((x2 : Int) != 0) = false := by simp [hz]
    have hG := HG.out
    rw [if_pos hz] at hG
    clear hz HG
    subst hG
    go_wp2_with fail
    have hx := number_is (m, s3) 1 120 (by decide) (by decide) g B n c l ad s2 W5 E3.out HS5.out.rd (HE.out.but HS5.out.bt)
    refine hx.mono ?_
    clear hx
    rintro e w6 ⟨rfl, u1, u2⟩
    have HS6 := Lib.hid (HS5.out.call u1 u2)
    clear u1 u2
    go_wp2_with fail
    go_loopw [25] (fun si wr => MRel w g B n c l ad s3 m gm gr (strB x0) (strB x1) (retL x2) si wr) (fun si _ => m - (intOf si).toNat)
    case atStart => exact ⟨0, _, Nat.zero_le _, rfl, HS6.out⟩
    case round =>
      obtain ⟨k, v, hk, rfl, hms⟩ := hrel
      have HMS := Lib.hid hms
      clear hms
      by_cases hlt' : k < m
      · have hkm : (k : Int) < (m : Int) := by omega
        obtain ⟨y, st, ey⟩ : ∃ y st, (y, st) = instrR l (timesR (instrR l) k s3).2 := ⟨_, _, rfl⟩
        have EY := Lib.hid ey
        have hown := HMS.out.own
        obtain ⟨A, cc, hv, _⟩ := own_reads hown
        have HV := Lib.hid hv
        have hc3 : wr.cell? ⟨gm, 3, none⟩ = some v := HMS.out.bx.cell 3
        have hf3 := HMS.out.bx.frozen 3
        have hgmr : gm < wr.heap.size := HMS.out.bx.lt
        have HMSD : Hid (MS w wr.drew g B n c ad (timesR (instrR l) k s3).2 gm gr (strB x0) (strB x1) (retL x2) v k (timesR (instrR l) k s3).1) := Lib.hid (HMS.out.call HMS.out.rd.drew But.refl.drew)
        clear ey hown hv
        go_wp2_with fail
        go_region_law ((first
          | (have HRX := HM7.out; refine step_append_any _ (by rfl) (.tmp 28) (.tmp 31) _ (by rfl) w.heap.size 56 i0 _ 4 32 Tryd.underlying52 hi0 hz0 hz1 hz2 rfl (by omega) v k (insL (timesR (instrR l) k s3).1) (by rfl) (by exact own_below HRX.own ((Below.refl _ _).alloc (Nat.le_refl _) _)) _ (some ⟨w7.heap.size, 0, none⟩) 1 1 (insC y) (by rfl) (by exact reads_newS _ _ _ 4 1 _ rfl rfl) (insC_one _) (by unfold maxLen; omega) (by omega) (by have := HRX.bt.size; simp; omega) ?_; intro v2 w8 hown2 hg2 hat2; obtain ⟨A2, c2, hv2, hrr2⟩ := own_reads hown2; clear hrr2; subst hv2; have HX8 : Hid (Blk w8 gm 54 #[strV (strB x0), strV (strB x1), strV (retL x2), v]) := Lib.hid ((HM7.out.bx.alloc _).grown hg2 (fun e => own_blk_ne HM7.out.own HM7.out.bx (by decide) e.symm)); have hc8 : w8.cell? ⟨gm, 3, none⟩ = some v := HX8.out.cell 3; have hf8 := HX8.out.frozen 3; have hl8 : gm < w8.heap.size := HX8.out.lt)
          | (go_simp; go_at_call 66; refine (instr_is y st g B n c l ad (timesR (instrR l) k s3).2 _ EY.out HMSD.out.rd (HE.out.but HMSD.out.bt)).mono ?_; rintro e w7 ⟨rfl, u1, u2⟩; have HM7 := Lib.hid (HMSD.out.call u1 u2); have hc7 : w7.cell? ⟨gm, 3, none⟩ = some v := HM7.out.bx.cell 3; have hl7 : gm < w7.heap.size := HM7.out.bx.lt)))
        all_goals (
          have HQ : Hid ((timesR (instrR l) (k + 1) s3) = ((timesR (instrR l) k s3).1 ++ [y], st)) := Lib.hid (by show (_, _) = _; rw [← EY.out])
          have HNX := Lib.hid (HM7.out.app _ hown2 hg2 hat2 rfl)
          clear HX8 hc8 hf8 hc7 hown2 hg2 hat2
          go_wp2
          go_roundw)
        case' rel => exact ⟨k + 1, _, by omega, by go_num, by rw [HQ.out]; exact HNX.out⟩
        all_goals (first | (case rel => exact ⟨k + 1, _, by omega, by go_num, by rw [HQ.out]; exact HNX.out⟩) | (simp [intOf]; omega))
      · obtain rfl : k = m := by omega
        obtain ⟨A, cc, hv, _⟩ := own_reads HMS.out.own
        subst hv
        have HLM : Hid (methodR l s = (⟨strB x0, strB x1, retL x2, (timesR (instrR l) k s3).1⟩, (timesR (instrR l) k s3).2)) := HMR
        have p0 : wr.cell? ⟨gm, 0, none⟩ = some (strV (strB x0)) := HMS.out.bx.cell 0
        have p1 : wr.cell? ⟨gm, 1, none⟩ = some (strV (strB x1)) := HMS.out.bx.cell 1
        have p2 : wr.cell? ⟨gm, 2, none⟩ = some (strV (retL x2)) := HMS.out.bx.cell 2
        have p3 : wr.cell? ⟨gm, 3, none⟩ = some (.slice A k cc) := HMS.out.bx.cell 3
        have y0 : wr.cell? ⟨gr, 0, none⟩ = some (strV []) := HMS.out.br.cell 0
        have y1 : wr.cell? ⟨gr, 1, none⟩ = some (strV []) := HMS.out.br.cell 1
        have y2 : wr.cell? ⟨gr, 2, none⟩ = some (strV []) := HMS.out.br.cell 2
        have y3 : wr.cell? ⟨gr, 3, none⟩ = some (.slice none 0 0) := HMS.out.br.cell 3
        have z0 := HMS.out.br.frozen 0
        have z1 := HMS.out.br.frozen 1
        have z2 := HMS.out.br.frozen 2
        have z3 := HMS.out.br.frozen 3
        have hgr' : gr < wr.heap.size := HMS.out.br.lt
        have hgm' : gm < wr.heap.size := HMS.out.bx.lt
        have hlen := times_len (instrR l) k s3
        unfold strV at p0 p1 p2 y0 y1 y2
        go_wp2
        rw [HLM.out]
        refine bodyPost_ret (v := .agg #[strV (strB x0), strV (strB x1), strV (retL x2), .slice A k cc]) ?_ rfl (HMS.out.fin hlen _ _ _ _ _ rfl rfl rfl rfl rfl)
        simp [results, Tryd.results45, go_sem, y0, y1, y2, y3, strV]
  · have t1 : ((x2 : Int) == 0) = false := by simp; omega
    have t2 : ((x2 : Int) != 0) = true := by rw [bne_iff_ne]; omega
    have hG := HG.out
    rw [if_neg hz] at hG
    have hcv := conv_one w4 x2
    have hre : strV (retL x2) = .string ⟨#[UInt8.ofNat x2]⟩ := by unfold retL; rw [if_neg hz]; rfl
    rw [hre] at hG
    clear hz HG
    have y2 : w4.cell? ⟨gm, 2, none⟩ = some (strV []) := HS4.out.bx.cell 2
    have f2 := HS4.out.bx.frozen 2
    unfold strV at y2
    go_wp2_with fail
    rw [← hG]
    clear hG hcv hre y2 f2
    have hx := number_is (m, s3) 1 120 (by decide) (by decide) g B n c l ad s2 W5 E3.out HS5.out.rd (HE.out.but HS5.out.bt)
    refine hx.mono ?_
    clear hx
    rintro e w6 ⟨rfl, u1, u2⟩
    have HS6 := Lib.hid (HS5.out.call u1 u2)
    clear u1 u2
    go_wp2_with fail
    go_loopw [25] (fun si wr => MRel w g B n c l ad s3 m gm gr (strB x0) (strB x1) (retL x2) si wr) (fun si _ => m - (intOf si).toNat)
    case atStart => exact ⟨0, _, Nat.zero_le _, rfl, HS6.out⟩
    case round =>
      obtain ⟨k, v, hk, rfl, hms⟩ := hrel
      have HMS := Lib.hid hms
      clear hms
      by_cases hlt' : k < m
      · have hkm : (k : Int) < (m : Int) := by omega
        obtain ⟨y, st, ey⟩ : ∃ y st, (y, st) = instrR l (timesR (instrR l) k s3).2 := ⟨_, _, rfl⟩
        have EY := Lib.hid ey
        have hown := HMS.out.own
        obtain ⟨A, cc, hv, _⟩ := own_reads hown
        have HV := Lib.hid hv
        have hc3 : wr.cell? ⟨gm, 3, none⟩ = some v := HMS.out.bx.cell 3
        have hf3 := HMS.out.bx.frozen 3
        have hgmr : gm < wr.heap.size := HMS.out.bx.lt
        have HMSD : Hid (MS w wr.drew g B n c ad (timesR (instrR l) k s3).2 gm gr (strB x0) (strB x1) (retL x2) v k (timesR (instrR l) k s3).1) := Lib.hid (HMS.out.call HMS.out.rd.drew But.refl.drew)
        clear ey hown hv
        go_wp2_with fail
        go_region_law ((first
          | (have HRX := HM7.out; refine step_append_any _ (by rfl) (.tmp 28) (.tmp 31) _ (by rfl) w.heap.size 56 i0 _ 4 32 Tryd.underlying52 hi0 hz0 hz1 hz2 rfl (by omega) v k (insL (timesR (instrR l) k s3).1) (by rfl) (by exact own_below HRX.own ((Below.refl _ _).alloc (Nat.le_refl _) _)) _ (some ⟨w7.heap.size, 0, none⟩) 1 1 (insC y) (by rfl) (by exact reads_newS _ _ _ 4 1 _ rfl rfl) (insC_one _) (by unfold maxLen; omega) (by omega) (by have := HRX.bt.size; simp; omega) ?_; intro v2 w8 hown2 hg2 hat2; obtain ⟨A2, c2, hv2, hrr2⟩ := own_reads hown2; clear hrr2; subst hv2; have HX8 : Hid (Blk w8 gm 54 #[strV (strB x0), strV (strB x1), strV (retL x2), v]) := Lib.hid ((HM7.out.bx.alloc _).grown hg2 (fun e => own_blk_ne HM7.out.own HM7.out.bx (by decide) e.symm)); have hc8 : w8.cell? ⟨gm, 3, none⟩ = some v := HX8.out.cell 3; have hf8 := HX8.out.frozen 3; have hl8 : gm < w8.heap.size := HX8.out.lt)
          | (go_simp; go_at_call 66; refine (instr_is y st g B n c l ad (timesR (instrR l) k s3).2 _ EY.out HMSD.out.rd (HE.out.but HMSD.out.bt)).mono ?_; rintro e w7 ⟨rfl, u1, u2⟩; have HM7 := Lib.hid (HMSD.out.call u1 u2); have hc7 : w7.cell? ⟨gm, 3, none⟩ = some v := HM7.out.bx.cell 3; have hl7 : gm < w7.heap.size := HM7.out.bx.lt)))
        all_goals (
          have HQ : Hid ((timesR (instrR l) (k + 1) s3) = ((timesR (instrR l) k s3).1 ++ [y], st)) := Lib.hid (by show (_, _) = _; rw [← EY.out])
          have HNX := Lib.hid (HM7.out.app _ hown2 hg2 hat2 rfl)
          clear HX8 hc8 hf8 hc7 hown2 hg2 hat2
          go_wp2
          go_roundw)
        case' rel => exact ⟨k + 1, _, by omega, by go_num, by rw [HQ.out]; exact HNX.out⟩
        all_goals (first | (case rel => exact ⟨k + 1, _, by omega, by go_num, by rw [HQ.out]; exact HNX.out⟩) | (simp [intOf]; omega))
      · obtain rfl : k = m := by omega
        obtain ⟨A, cc, hv, _⟩ := own_reads HMS.out.own
        subst hv
        have HLM : Hid (methodR l s = (⟨strB x0, strB x1, retL x2, (timesR (instrR l) k s3).1⟩, (timesR (instrR l) k s3).2)) := HMR
        have p0 : wr.cell? ⟨gm, 0, none⟩ = some (strV (strB x0)) := HMS.out.bx.cell 0
        have p1 : wr.cell? ⟨gm, 1, none⟩ = some (strV (strB x1)) := HMS.out.bx.cell 1
        have p2 : wr.cell? ⟨gm, 2, none⟩ = some (strV (retL x2)) := HMS.out.bx.cell 2
        have p3 : wr.cell? ⟨gm, 3, none⟩ = some (.slice A k cc) := HMS.out.bx.cell 3
        have y0 : wr.cell? ⟨gr, 0, none⟩ = some (strV []) := HMS.out.br.cell 0
        have y1 : wr.cell? ⟨gr, 1, none⟩ = some (strV []) := HMS.out.br.cell 1
        have y2 : wr.cell? ⟨gr, 2, none⟩ = some (strV []) := HMS.out.br.cell 2
        have y3 : wr.cell? ⟨gr, 3, none⟩ = some (.slice none 0 0) := HMS.out.br.cell 3
        have z0 := HMS.out.br.frozen 0
        have z1 := HMS.out.br.frozen 1
        have z2 := HMS.out.br.frozen 2
        have z3 := HMS.out.br.frozen 3
        have hgr' : gr < wr.heap.size := HMS.out.br.lt
        have hgm' : gm < wr.heap.size := HMS.out.bx.lt
        have hlen := times_len (instrR l) k s3
        unfold strV at p0 p1 p2 y0 y1 y2
        go_wp2
        rw [HLM.out]
        refine bodyPost_ret (v := .agg #[strV (strB x0), strV (strB x1), strV (retL x2), .slice A k cc]) ?_ rfl (HMS.out.fin hlen _ _ _ _ _ rfl rfl rfl rfl rfl)
        simp [results, Tryd.results45, go_sem, y0, y1, y2, y3, strV]
end Go.Proofs.YtnojejplckhifaaDoor
