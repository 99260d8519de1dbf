/- The contract of codec.Decode (printed by mkdec.py). -/
import Derived.Test.YtnojejplckhifaaDoorDecS
namespace Go.Proofs.YtnojejplckhifaaDoor
open Go.RowKit
set_option linter.unusedVariables false

theorem method_is (m : Met) (st : RS) (g : Nat) (B : Option Addr) (n c : Nat) (l : List Nat) (ad : Nat → Addr) (s : RS) (w : World) (hq : (m, st) = methodR l s) (h : RdAt w g B n c ad s) (hE : Env w g B n c l ad) :
    Calls Tryd.prog 45 #[.pointer (some ⟨g, 0, none⟩)] w (MPost w g B n c ad m st) := by
  have := methodR_any g B n c l ad s w h hE
  rw [← hq] at this
  exact this
theorem num_le (l : List Nat) (a b : Nat) (s : RS) : (numberR l a b s).1 ≤ b := by
  unfold numberR
  split
  · exact Nat.zero_le _
  · rename_i h; omega
def HdRel (W1 : World) (g : Nat) (B : Option Addr) (n c : Nat) (l : List Nat) (ad : Nat → Addr) (si : Value) (wr : World) : Prop := ∃ k : Nat, k ≤ 3 ∧ si = .int .i64 (k : Int) ∧ RdAt wr g B n c ad (hdR l k) ∧ But g W1 wr
def ClRel (W1 : World) (g : Nat) (B : Option Addr) (n c : Nat) (l : List Nat) (ad : Nat → Addr) (s1 : RS) (m gp gr : Nat) (si : Value) (wr : World) : Prop := ∃ (k : Nat) (v : Value), k ≤ m ∧ si = .int .i64 (k : Int) ∧ DS W1 wr g B n c ad (timesR (classR l) k s1).2 gp gr v (.slice none 0 0) (timesR (classR l) k s1).1 []
def MtRel (W1 : World) (g : Nat) (B : Option Addr) (n c : Nat) (l : List Nat) (ad : Nat → Addr) (s3 : RS) (m gp gr : Nat) (cls : List (List UInt8)) (v1 : Value) (si : Value) (wr : World) : Prop := ∃ (k : Nat) (v : Value) (ms : List MV), k ≤ m ∧ si = .int .i64 (k : Int) ∧ ms.map (·.m) = (timesR (methodR l) k s3).1 ∧ DS W1 wr g B n c ad (timesR (methodR l) k s3).2 gp gr v1 v cls ms
set_option maxRecDepth 100000 in
set_option maxHeartbeats 4000000 in
theorem decode_long (A : Option Addr) (n c : Nat) (l : List Nat) (ad : Nat → Addr) (w : World) (hl : l.length = n) (hn : 16384 < n) (hE : Errs w ad) :
    Calls Tryd.prog 17 #[.slice A n c] w (DPost w ad (decP l)) := by
  have hd : decP l = (none, some (0, [])) := by unfold decP; rw [if_pos (by omega)]
  rw [hd]
  have t1 : decide ((16384 : Int) < (n : Int)) = true := by simp; omega
  have hbig : 14 ≤ w.heap.size := by have := hE.big 13 (by decide); have e : gnum 13 = 13 := rfl; omega
  have k0 : w.cell? ⟨0, 0, none⟩ = some (eV (ad 0)) := hE.cell 0 (by decide)
  have hb0 : 0 < w.heap.size := by omega
  unfold eV at k0
  clear hE hd
  go_enter Tryd.func17, Tryd.ntmps17
  go_wp2_with fail
  go_region
  all_goals go_wp2
  all_goals (
    refine bodyPost_ret (v := .tuple #[.agg #[.slice none 0 0, .slice none 0 0], eV (ad 0)]) ?_ rfl ⟨?_, .inr ⟨(0, []), _, rfl, rfl, rfl⟩⟩
    · simp [results, Tryd.results17, go_sem, eV]
    · repeat' (first | exact Below.refl _ _ | apply Below.drew | (refine Below.setCell ?_ (by simp) _) | (refine Below.alloc ?_ (by simp) _)))
set_option maxRecDepth 100000 in
set_option maxHeartbeats 8000000 in
theorem decode_any (A : Option Addr) (n c : Nat) (l : List Nat) (ad : Nat → Addr) (w : World) (ha : Reads w w.heap.size 1 A n (l.map bv)) (hby : ∀ x ∈ l, x < 256) (hc : n ≤ c) (hcm : c ≤ maxLen) (hE : Errs w ad) :
    Calls Tryd.prog 17 #[.slice A n c] w (DPost w ad (decP l)) := by
  have hl : l.length = n := by have := ha.1; simpa using this
  by_cases hn : 16384 < n
  · exact decode_long A n c l ad w hl hn hE
  obtain ⟨j0, hj0, hy0, hy1, hy2⟩ := info_parts cls_info
  obtain ⟨i0, hi0, hz0, hz1, hz2⟩ := info_parts met_info
  have t1 : decide ((16384 : Int) < (n : Int)) = false := by simp; omega
  have hbig : 14 ≤ w.heap.size := by have := hE.big 13 (by decide); have e : gnum 13 = 13 := rfl; omega
  obtain ⟨W1, hW1⟩ : ∃ W, W = (w.alloc (.cells #[.slice none 0 0, .slice none 0 0] 25)).alloc (.cells #[.slice A n c, .int .i64 0, .nilIface] 78) := ⟨_, rfl⟩
  have hbw : Below w.heap.size w W1 := by rw [hW1]; exact ((Below.refl _ _).alloc (Nat.le_refl _) _).alloc (by simp) _
  have hs1 : W1.heap.size = w.heap.size + 1 + 1 := by rw [hW1]; simp
  have hE1 := hE.below hbw
  have HENV : Hid (Env W1 (w.heap.size + 1) A n c l ad) := Lib.hid
    ⟨(ha.below hbw).more (by omega), hby, by omega, hc, hcm, hE1.cell 5 (by decide), hE1.cell 6 (by decide), by omega, by omega⟩
  have HKE : Hid (KeepsE W1 ad) := Lib.hid hE1.keeps
  have HRD : Hid (RdAt W1 (w.heap.size + 1) A n c ad ⟨0, none⟩) := Lib.hid (by
    refine ⟨⟨.nilIface, ?_, rfl⟩, Nat.zero_le _⟩
    rw [hW1]
    have := Blk.new (w.alloc (.cells #[.slice none 0 0, .slice none 0 0] 25)) 78 #[.slice A n c, .int .i64 0, .nilIface]
    simpa using this)
  have HBR : Hid (Blk W1 w.heap.size 25 #[.slice none 0 0, .slice none 0 0]) := Lib.hid (by rw [hW1]; exact (Blk.new _ _ _).alloc _)
  have HBW := Lib.hid hbw
  have HL := Lib.hid hl
  have HDP : Hid (decP l = match (progR l).2.err with
    | some e => (none, some (e.1, [(e.2 : Int)]))
    | none => match mayP (progR l).1 with
      | some f => (none, some f)
      | none => (some (progR l).1, none)) := Lib.hid (by unfold decP; rw [if_neg (by omega)]; rfl)
  clear hbw hE1 hE ha hby hl
  go_enter Tryd.func17, Tryd.ntmps17
  go_wp2_with fail
  rw [← hW1]
  obtain ⟨g, hg⟩ : ∃ g, g = w.heap.size + 1 := ⟨_, rfl⟩
  obtain ⟨gr, hgr⟩ : ∃ g, g = w.heap.size := ⟨_, rfl⟩
  rw [← hg] at HENV HRD ⊢
  rw [← hgr] at HBR ⊢
  have hgW : g < W1.heap.size := by omega
  have hrW : gr < W1.heap.size := by omega
  have hrg : gr ≠ g := by omega
  have hgw : w.heap.size ≤ g := by omega
  have hgrw : w.heap.size ≤ gr := by omega
  have hg14 : 14 ≤ g := by omega
  have hW14 : 14 ≤ W1.heap.size := by omega
  clear hW1 hgr hg hs1 hbig t1
  go_loopw [16] (fun si wr => HdRel W1 g A n c l ad si wr) (fun si _ => 3 - (intOf si).toNat)
  case atStart => exact ⟨0, by omega, rfl, HRD.out, But.refl⟩
  case round =>
    obtain ⟨k, hk0, rfl, hrd, hbt⟩ := hrel
    have HRK := Lib.hid hrd
    have HBK := Lib.hid hbt
    clear hrd hbt
    by_cases hk3 : k < 3
    · have hk3' : (k : Int) < 3 := by omega
      have hgk : g < wr.heap.size := HRK.out.lt
      have HCB : Hid (Blk (wr.alloc (.cells #[.int .i64 (k : Int)] 3)) wr.heap.size 3 #[.int .i64 (k : Int)]) := Lib.hid (Blk.new _ _ _)
      have HRA : Hid (RdAt (wr.alloc (.cells #[.int .i64 (k : Int)] 3)) g A n c ad (hdR l k)) := Lib.hid (HRK.out.but ((Below.refl _ _).alloc (Nat.le_refl _) _))
      have HBA : Hid (But g W1 (wr.alloc (.cells #[.int .i64 (k : Int)] 3))) := Lib.hid (HBK.out.alloc _)
      go_wp2_with fail
      refine (byte_hd wr.heap.size (hk k) g A n c l ad (hdR l k) _ HRA.out (HENV.out.but HBA.out) (fun x W hW => may_hd x k wr.heap.size hk3 W ((hW.blk HCB.out (by omega)).cell 0))).mono ?_
      rintro e w2 ⟨rfl, q1, q2⟩
      have HN : Hid (RdAt w2 g A n c ad (hdR l (k + 1)) ∧ But g W1 w2) := Lib.hid ⟨q1, HBA.out.trans q2⟩
      clear q1 q2 HCB HRA HBA
      go_wp2
      go_roundw
      case rel => exact ⟨k + 1, by omega, by go_num, HN.out.1, HN.out.2⟩
      case measure => simp [intOf]; omega
    · obtain rfl : k = 3 := by omega
      have HR3 : Hid (RdAt wr g A n c ad (headR l)) := Lib.hid HRK.out
      have t5 : decide (((3 : Nat) : Int) < 3) = false := by decide
      obtain ⟨m1, s1, e1⟩ : ∃ x st, (x, st) = numberR l 0 12 (headR l) := ⟨_, _, rfl⟩
      have hm1 : m1 ≤ 12 := by have := num_le l 0 12 (headR l); rw [← e1] at this; exact this
      have E1 := Lib.hid e1
      have HD0 : Hid (DS W1 (wr.alloc (.cells #[.slice none 0 0, .slice none 0 0] 25)) g A n c ad (headR l) wr.heap.size gr (.slice none 0 0) (.slice none 0 0) [] []) := Lib.hid
        ⟨HR3.out.but ((Below.refl _ _).alloc (Nat.le_refl _) _), HBK.out.alloc _, Blk.new _ _ _, (HBK.out.blk HBR.out hrg).alloc _, ⟨rfl, .inl ⟨rfl, rfl⟩⟩, ⟨rfl, .inl ⟨rfl, rfl⟩⟩, (fun x hx => by cases hx), HBK.out.size, hrg, hrW, hgW⟩
      clear e1
      go_wp2_with fail
      refine (number_is (m1, s1) 0 12 (by decide) (by decide) g A n c l ad (headR l) _ E1.out HD0.out.rd (HENV.out.but HD0.out.bt)).mono ?_
      rintro e w3 ⟨rfl, q1, q2⟩
      obtain ⟨gp, hgp⟩ : ∃ g, g = wr.heap.size := ⟨_, rfl⟩
      rw [← hgp] at HD0 ⊢
      have HD3 := Lib.hid (HD0.out.call q1 q2)
      clear q1 q2 HD0 hgp HRK HBK HR3 hk0 hk3
      go_wp2_with fail
      go_loopw [25] (fun si wr => ClRel W1 g A n c l ad s1 m1 gp gr si wr) (fun si _ => m1 - (intOf si).toNat)
      case atStart => exact ⟨0, _, Nat.zero_le _, rfl, HD3.out⟩
      case round =>
        clear HD3
        obtain ⟨j, v, hj, rfl, hds⟩ := hrel
        have HDS := Lib.hid hds
        clear hds
        by_cases hjm : j < m1
        · have hjm' : (j : Int) < (m1 : Int) := by omega
          obtain ⟨xs, st, ey⟩ : ∃ y st, (y, st) = lettersR l 10 (timesR (classR l) j s1).2 := ⟨_, _, rfl⟩
          have EY := Lib.hid ey
          have hlen : (timesR (classR l) j s1).1.length ≤ 12 := by rw [times_len]; omega
          obtain ⟨A0, cc, hv, _⟩ := own_reads HDS.out.o1
          have HV := Lib.hid hv
          have hc0 : wr.cell? ⟨gp, 0, none⟩ = some v := HDS.out.bp.cell 0
          have hgpr : gp < wr.heap.size := HDS.out.bp.lt
          have HDD : Hid (DS W1 wr.drew g A n c ad (timesR (classR l) j s1).2 gp gr v (.slice none 0 0) (timesR (classR l) j s1).1 []) := Lib.hid (HDS.out.call HDS.out.rd.drew But.refl.drew)
          clear ey hv
          go_wp2_with fail
          go_region_law ((first
            | (have HRX := HD7.out; refine step_append_any _ (by rfl) (.tmp 28) (.tmp 32) _ (by rfl) W1.heap.size 65 j0 _ 1 16 Tryd.underlying22 hj0 hy0 hy1 hy2 rfl (by omega) v (timesR (classR l) j s1).1.length ((timesR (classR l) j s1).1.map strV) (by rfl) (by exact own_below HRX.o1 ((Below.refl _ _).alloc (Nat.le_refl _) _)) _ (some ⟨w7.heap.size, 0, none⟩) 1 1 [strV (strB xs)] (by rfl) (by exact reads_newS _ _ _ 1 1 _ rfl rfl) (by intro u hu; rw [List.mem_singleton] at hu; subst hu; rfl) (by unfold maxLen; omega) (by omega) (by have := HRX.bt.size; simp; omega) ?_; intro v2 w8 hown2 hg2 hat2; clear HRX; obtain ⟨A2, c2, hv2, hrr2⟩ := own_reads hown2; clear hrr2; subst hv2; have HP8 : Hid (Blk w8 gp 25 #[v, .slice none 0 0]) := Lib.hid ((HD7.out.bp.alloc _).grown hg2 (fun e => own_blk_ne HD7.out.o1 HD7.out.bp (by decide) e.symm)); have hc8 : w8.cell? ⟨gp, 0, none⟩ = some v := HP8.out.cell 0; have hf8 := HP8.out.frozen 0; have hl8 : gp < w8.heap.size := HP8.out.lt)
            | (go_simp; go_at_call 44; refine (letters_is xs st 10 10 rfl (by decide) g A n c l ad (timesR (classR l) j s1).2 _ EY.out HDD.out.rd (HENV.out.but HDD.out.bt)).mono ?_; rintro e w7 ⟨rfl, u1, u2⟩; unfold strV; have HD7 := Lib.hid (HDD.out.call u1 u2); have hc7 : w7.cell? ⟨gp, 0, none⟩ = some v := HD7.out.bp.cell 0; have hl7 : gp < w7.heap.size := HD7.out.bp.lt)))
          all_goals (
            have HQ : Hid ((timesR (classR l) (j + 1) s1) = ((timesR (classR l) j s1).1 ++ [strB xs], st)) := Lib.hid (by have ec : classR l (timesR (classR l) j s1).2 = (strB xs, st) := (by show (strB (lettersR l 10 (timesR (classR l) j s1).2).1, (lettersR l 10 (timesR (classR l) j s1).2).2) = _; rw [← EY.out]); show ((timesR (classR l) j s1).1 ++ [(classR l (timesR (classR l) j s1).2).1], (classR l (timesR (classR l) j s1).2).2) = _; rw [ec])
            have HNX := Lib.hid (HD7.out.app1 _ (strB xs) hown2 hg2 rfl)
            clear HP8 hc8 hf8 hc7 hown2 hg2 hat2
            go_wp2
            go_roundw)
          all_goals (first | (case rel => exact ⟨j + 1, _, by omega, by go_num, by rw [HQ.out]; exact HNX.out⟩) | (simp [intOf]; omega))
        · obtain rfl : j = m1 := by omega
          have t6 : decide ((j : Int) < (j : Int)) = false := by simp
          clear hjm hj
          obtain ⟨cls, hcls⟩ : ∃ x, x = (timesR (classR l) j s1).1 := ⟨_, rfl⟩
          obtain ⟨s2, hs2⟩ : ∃ x, x = (timesR (classR l) j s1).2 := ⟨_, rfl⟩
          have hcl12 : cls.length = j := by rw [hcls]; exact times_len _ _ _
          rw [← hcls, ← hs2] at HDS
          obtain ⟨m3, s3, e3⟩ : ∃ x st, (x, st) = numberR l 1 12 s2 := ⟨_, _, rfl⟩
          have hm3 : m3 ≤ 12 := by have := num_le l 1 12 s2; rw [← e3] at this; exact this
          have HPR : Hid (progR l = (⟨cls, (timesR (methodR l) m3 s3).1⟩, if (timesR (methodR l) m3 s3).2.at_ < l.length then failR (timesR (methodR l) m3 s3).2 6 (timesR (methodR l) m3 s3).2.at_ else (timesR (methodR l) m3 s3).2)) := Lib.hid (by
            unfold progR
            simp only []
            rw [← E1.out]
            simp only []
            rw [← hcls, ← hs2, ← e3])
          have E3 := Lib.hid e3
          have HC12 := Lib.hid hcl12
          have HCA : Hid (∀ y ∈ cls, y.length ≤ 10) := Lib.hid (by rw [hcls]; exact times_all (P := fun y : List UInt8 => y.length ≤ 10) (classR l) (fun s => class_len l s) j s1)
          clear e3 hcls hs2 hcl12
          go_wp2_with fail
          refine (number_is (m3, s3) 1 12 (by decide) (by decide) g A n c l ad s2 _ E3.out HDS.out.rd (HENV.out.but HDS.out.bt)).mono ?_
          rintro e w4 ⟨rfl, q1, q2⟩
          have HD4 := Lib.hid (HDS.out.call q1 q2)
          clear q1 q2 HDS
          go_wp2_with fail
          go_loopw [38] (fun si wr => MtRel W1 g A n c l ad s3 m3 gp gr cls v si wr) (fun si _ => m3 - (intOf si).toNat)
          case atStart => exact ⟨0, _, [], Nat.zero_le _, rfl, rfl, HD4.out⟩
          case round =>
            clear HD4
            obtain ⟨i, v2, ms, hi, rfl, hmap, hds⟩ := hrel
            have HDS := Lib.hid hds
            have HMAP := Lib.hid hmap
            clear hds hmap
            by_cases him : i < m3
            · have him' : (i : Int) < (m3 : Int) := by omega
              obtain ⟨mm, st, ey⟩ : ∃ y st, (y, st) = methodR l (timesR (methodR l) i s3).2 := ⟨_, _, rfl⟩
              have EY := Lib.hid ey
              have hlen : ms.length ≤ 12 := by
                have := times_len (methodR l) i s3
                rw [← HMAP.out] at this
                simp at this
                omega
              obtain ⟨A0, cc, hv, _⟩ := own_reads HDS.out.o2
              have hc1 : wr.cell? ⟨gp, 1, none⟩ = some v2 := HDS.out.bp.cell 1
              have hgpr : gp < wr.heap.size := HDS.out.bp.lt
              have HDD : Hid (DS W1 wr.drew g A n c ad (timesR (methodR l) i s3).2 gp gr v v2 cls ms) := Lib.hid (HDS.out.call HDS.out.rd.drew But.refl.drew)
              clear ey hv
              go_wp2_with fail
              go_region_law ((first
                | (have HRX := HD7.out; refine step_append_any _ (by rfl) (.tmp 41) (.tmp 44) _ (by rfl) W1.heap.size 54 i0 _ 4 72 Tryd.underlying23 hi0 hz0 hz1 hz2 rfl (by omega) v2 ms.length (ms.flatMap mvC) (by rfl) (by exact own_below HRX.o2 ((Below.refl _ _).alloc (Nat.le_refl _) _)) _ (some ⟨w7.heap.size, 0, none⟩) 1 1 (mvC ⟨mm, Am, cm⟩) (by rfl) (by exact reads_newS _ _ _ 4 1 _ rfl rfl) (mvC_one _) (by unfold maxLen; omega) (by omega) (by have := HRX.bt.size; simp; omega) ?_; intro v3 w8 hown2 hg2 hat2; clear HRX; obtain ⟨A2, c2, hv2, hrr2⟩ := own_reads hown2; clear hrr2; subst hv2; have HP8 : Hid (Blk w8 gp 25 #[v, v2]) := Lib.hid ((HD7.out.bp.alloc _).grown hg2 (fun e => own_blk_ne HD7.out.o2 HD7.out.bp (by decide) e.symm)); have hc8 : w8.cell? ⟨gp, 1, none⟩ = some v2 := HP8.out.cell 1; have hf8 := HP8.out.frozen 1; have hl8 : gp < w8.heap.size := HP8.out.lt)
                | (go_simp; go_at_call 45; refine (method_is mm st g A n c l ad (timesR (methodR l) i s3).2 _ EY.out HDD.out.rd (HENV.out.but HDD.out.bt)).mono ?_; rintro e w7 ⟨Am, cm, rfl, u1, u2, u3⟩; have HOX : Hid (codeOwn w7 W1.heap.size ⟨mm, Am, cm⟩) := Lib.hid (own_base u3 HDD.out.bt.size); unfold strV; have HD7 := Lib.hid (HDD.out.call u1 u2); clear u1 u2 u3; have hc7 : w7.cell? ⟨gp, 1, none⟩ = some v2 := HD7.out.bp.cell 1; have hl7 : gp < w7.heap.size := HD7.out.bp.lt)))
              all_goals (
                have HQ : Hid ((timesR (methodR l) (i + 1) s3) = ((timesR (methodR l) i s3).1 ++ [mm], st)) := Lib.hid (by show ((timesR (methodR l) i s3).1 ++ [(methodR l (timesR (methodR l) i s3).2).1], (methodR l (timesR (methodR l) i s3).2).2) = _; rw [← EY.out])
                have HNX := Lib.hid (HD7.out.app2 _ ⟨mm, Am, cm⟩ HOX.out hown2 hg2 rfl)
                have HMP : Hid ((ms ++ [(⟨mm, Am, cm⟩ : MV)]).map (·.m) = (timesR (methodR l) (i + 1) s3).1) := Lib.hid (by rw [HQ.out, List.map_append, HMAP.out]; rfl)
                clear HP8 hc8 hf8 hc7 hown2 hg2 hat2
                go_wp2
                go_roundw)
              all_goals (first | (case rel => exact ⟨i + 1, _, _, by omega, by go_num, HMP.out, by rw [HQ.out]; exact HNX.out⟩) | (simp [intOf]; omega))
            · obtain rfl : i = m3 := by omega
              have t7 : decide ((i : Int) < (i : Int)) = false := by simp
              clear him hi
              obtain ⟨s4, hs4⟩ : ∃ x, x = (timesR (methodR l) i s3).2 := ⟨_, rfl⟩
              rw [← hs4] at HDS
              have hms : ms.length = i := by
                have := times_len (methodR l) i s3
                rw [← HMAP.out] at this
                simpa using this
              have HMS := Lib.hid hms
              have HALL : Hid ((∀ y ∈ cls, y.length ≤ 10) ∧ ∀ x ∈ ms, x.m.par.length ≤ 12 ∧ x.m.loc.length ≤ 12 ∧ x.m.code.length ≤ 120) := Lib.hid ⟨HCA.out, fun x hx => by
                have := times_all (P := fun m : Met => m.par.length ≤ 12 ∧ m.loc.length ≤ 12 ∧ m.code.length ≤ 120) (methodR l) (fun s => method_len l s) i s3 x.m (by rw [← HMAP.out]; exact List.mem_map_of_mem hx)
                exact this⟩
              have HPQ : Hid (progR l = (⟨cls, ms.map (·.m)⟩, if s4.at_ < n then failR s4 6 s4.at_ else s4)) := Lib.hid (by rw [HPR.out, HMAP.out, ← hs4, HL.out])
              clear hms hs4 HPR HMAP
              have c1 := HDS.out.rd.c1
              by_cases hat : s4.at_ < n
              · have t8 : decide (s4.at_ < n) = true := by simpa using hat
                have t8' : decide ((s4.at_ : Int) < (n : Int)) = true := by simp; omega
                obtain ⟨s5, hs5⟩ : ∃ x, x = failR s4 6 s4.at_ := ⟨_, rfl⟩
                have HPS : Hid (progR l = (⟨cls, ms.map (·.m)⟩, s5)) := Lib.hid (by rw [HPQ.out, if_pos hat, hs5])
                have H5 := Lib.hid hs5
                have hEV := HENV.out.but HDS.out.bt
                have eb := hEV.eb
                have HEV := Lib.hid hEV
                have hb1 : 1 < wr.heap.size := by have := hEV.big; have := hEV.lt; omega
                have hb2 : g < wr.heap.size := hEV.lt
                have HDD : Hid (DS W1 wr.drew g A n c ad s4 gp gr v v2 cls ms) := Lib.hid (HDS.out.call HDS.out.rd.drew But.refl.drew)
                clear hat hs5 hEV HPQ
                go_wp2_with fail
                go_region_held3 (fun w' => w'.cell? ⟨g, 1, none⟩ = some (.int .i64 (s4.at_ : Int)) ∧ w'.cell? ⟨1, 0, none⟩ = some (.iface 147 (.pointer (some (ad 6))))) (go_keep) ((go_at_call 46; refine (fail_any g A n c ad s4 6 s4.at_ _ HDD.out.rd).mono ?_; rintro e w6 ⟨rfl, q1, q2⟩; have HD6 := Lib.hid (HDD.out.call q1 q2); have c1'' := HD6.out.rd.c1; rw [failR_at] at c1''; have eb' := (HENV.out.but HD6.out.bt).eb))
                have HW := HD6
                rw [← H5.out] at HW
                clear HD6 c1 eb hb1 hb2 HDS HDD HEV c1'' eb'
                obtain ⟨ev, hblk, herr⟩ := HW.out.rd.blk
                have c2 : w6.cell? ⟨g, 2, none⟩ = some ev := hblk.cell 2
                have y0 : w6.cell? ⟨gr, 0, none⟩ = some (.slice none 0 0) := HW.out.br.cell 0
                have y1 : w6.cell? ⟨gr, 1, none⟩ = some (.slice none 0 0) := HW.out.br.cell 1
                have z0 := HW.out.br.frozen 0
                have z1 := HW.out.br.frozen 1
                have hgr6 : gr < w6.heap.size := HW.out.br.lt
                have hg6 : g < w6.heap.size := hblk.lt
                cases her : s5.err with
                | some kp =>
                  rw [her] at herr
                  obtain ⟨pp, he, hp, hpb⟩ := herr
                  subst he
                  have HF : Hid (decP l = (none, some (kp.1, [(kp.2 : Int)]))) := Lib.hid (by rw [HDP.out, HPS.out]; simp only []; rw [her])
                  have HFL : Hid (FltV w6 ad (.iface 104 (.pointer (some ⟨pp, 0, none⟩))) (some (kp.1, [(kp.2 : Int)]))) := Lib.hid ⟨pp, rfl, hpb⟩
                  have HWD : Hid (DS W1 w6.drew g A n c ad s5 gp gr v v2 cls ms) := Lib.hid (HW.out.call HW.out.rd.drew But.refl.drew)
                  clear hblk hp hpb her
                  go_wp2_with fail
                  go_region
                  all_goals go_wp2
                  all_goals (
                    refine bodyPost_ret (v := .tuple #[.agg #[.slice none 0 0, .slice none 0 0], .iface 104 (.pointer (some ⟨pp, 0, none⟩))]) ?_ rfl ?_
                    · simp [results, Tryd.results17, go_sem, y0, y1]
                    · rw [HF.out]
                      have k := HW.out.fin HBW.out hgw hgrw (.slice none 0 0) (.slice none 0 0)
                      have kd := HWD.out.fin HBW.out hgw hgrw (.slice none 0 0) (.slice none 0 0)
                      first
                        | exact ⟨k.1, .inr ⟨_, _, rfl, rfl, k.2.2 _ _ HFL.out⟩⟩
                        | exact ⟨kd.1, .inr ⟨_, _, rfl, rfl, kd.2.2 _ _ HFL.out⟩⟩
                        | exact ⟨k.1.drew, .inr ⟨_, _, rfl, rfl, k.2.2 _ _ HFL.out⟩⟩)
                | none =>
                  rw [her] at herr
                  have he : ev = .nilIface := herr
                  subst he
                  have HF : Hid (decP l = match mayP ⟨cls, ms.map (·.m)⟩ with
                      | some f => (none, some f)
                      | none => (some ⟨cls, ms.map (·.m)⟩, none)) := Lib.hid (by rw [HDP.out, HPS.out]; simp only []; rw [her])
                  obtain ⟨pv, hv1, hv2, hcls, hms, hpat⟩ := HW.out.pat
                  have x0 : w6.cell? ⟨gp, 0, none⟩ = some (.slice pv.A cls.length pv.c) := (HW.out.bp.cell 0).trans (by rw [hv1]; rfl)
                  have x1 : w6.cell? ⟨gp, 1, none⟩ = some (.slice pv.B ms.length pv.d) := (HW.out.bp.cell 1).trans (by rw [hv2]; rfl)
                  have hgp6 : gp < w6.heap.size := HW.out.bp.lt
                  have HMAY : Hid (Calls Tryd.prog 27 #[.agg #[.slice pv.A cls.length pv.c, .slice pv.B ms.length pv.d]] w6 (FPst w6 ad (mayP ⟨cls, ms.map (·.m)⟩))) := Lib.hid (by
                    have h2 : ∀ x ∈ pv.ms, x.m.par.length ≤ 12 ∧ x.m.loc.length ≤ 12 ∧ x.m.code.length ≤ 120 := by rw [hms]; exact HALL.out.2
                    have := pmay_any pv ad w6 (keeps_but HKE.out HW.out.bt hg14 hW14) hpat (fun y hy => by have := HALL.out.1 y (by rw [← hcls]; exact hy); unfold maxLen; omega) (by rw [hcls]; unfold maxLen; have := HC12.out; omega) (by rw [hms]; unfold maxLen; have := HMS.out; omega) (fun x hx => by have := h2 x hx; unfold maxLen; omega) (fun x hx => by have := h2 x hx; unfold maxLen; omega)
                    unfold PV.val PV.prg at this
                    rw [hcls, hms] at this
                    exact this)
                  have HV1 := Lib.hid hv1
                  have HV2 := Lib.hid hv2
                  clear hblk her herr hv1 hv2 hcls hms hpat
                  go_wp2_with fail
                  refine HMAY.out.mono ?_
                  rintro e w7 ⟨vv, rfl, hf, hb7⟩
                  have HW7 := Lib.hid (HW.out.call (HW.out.rd.but hb7) (But.of hb7))
                  have HFV := Lib.hid hf
                  clear x0 x1 y0 y1 z0 z1 hgr6 hg6 hgp6 hf hb7 c2
                  have x0 : w7.cell? ⟨gp, 0, none⟩ = some (.slice pv.A cls.length pv.c) := (HW7.out.bp.cell 0).trans (by rw [HV1.out]; rfl)
                  have x1 : w7.cell? ⟨gp, 1, none⟩ = some (.slice pv.B ms.length pv.d) := (HW7.out.bp.cell 1).trans (by rw [HV2.out]; rfl)
                  have y0 : w7.cell? ⟨gr, 0, none⟩ = some (.slice none 0 0) := HW7.out.br.cell 0
                  have y1 : w7.cell? ⟨gr, 1, none⟩ = some (.slice none 0 0) := HW7.out.br.cell 1
                  have z0 := HW7.out.br.frozen 0
                  have z1 := HW7.out.br.frozen 1
                  have hgr7 : gr < w7.heap.size := HW7.out.br.lt
                  have hgp7 : gp < w7.heap.size := HW7.out.bp.lt
                  cases hmp : mayP ⟨cls, ms.map (·.m)⟩ with
                  | none =>
                    have hvv := HFV.out
                    rw [hmp] at hvv
                    have hvv' : vv = .nilIface := hvv
                    subst hvv'
                    have HFF : Hid (decP l = (some ⟨cls, ms.map (·.m)⟩, none)) := Lib.hid (by rw [HF.out, hmp])
                    clear hmp HFV hvv
                    go_wp2
                    obtain ⟨k1, ⟨p2, j1, j2, j3, j4, j5⟩, k3⟩ := HW7.out.fin HBW.out hgw hgrw (.slice pv.A cls.length pv.c) (.slice pv.B ms.length pv.d)
                    refine bodyPost_ret (v := .tuple #[.agg #[.slice pv.A cls.length pv.c, .slice pv.B ms.length pv.d], .nilIface]) ?_ rfl ?_
                    · simp [results, Tryd.results17, go_sem, y0, y1]
                    · rw [HFF.out]
                      refine ⟨k1, .inl ⟨p2, ?_, ?_, j5⟩⟩
                      · unfold PV.prg
                        rw [j3, j4]
                      · unfold PV.val
                        rw [j3, j4, ← j1, ← j2, HV1.out, HV2.out]
                  | some f =>
                    have hff := HFV.out
                    rw [hmp] at hff
                    obtain ⟨tt, uu, hvv⟩ := flt_iface hff
                    subst hvv
                    have HFG := Lib.hid hff
                    have HFF : Hid (decP l = (none, some f)) := Lib.hid (by rw [HF.out, hmp])
                    clear hmp HFV hff
                    go_wp2
                    refine bodyPost_ret (v := .tuple #[.agg #[.slice none 0 0, .slice none 0 0], .iface tt uu]) ?_ rfl ?_
                    · simp [results, Tryd.results17, go_sem, y0, y1]
                    · rw [HFF.out]
                      have k := HW7.out.fin HBW.out hgw hgrw (.slice none 0 0) (.slice none 0 0)
                      exact ⟨k.1, .inr ⟨_, _, rfl, rfl, k.2.2 _ _ HFG.out⟩⟩
              · have t8 : decide (s4.at_ < n) = false := by simpa using hat
                have t8' : decide ((s4.at_ : Int) < (n : Int)) = false := by simp; omega
                obtain ⟨s5, hs5⟩ : ∃ x, x = s4 := ⟨_, rfl⟩
                have HPS : Hid (progR l = (⟨cls, ms.map (·.m)⟩, s5)) := Lib.hid (by rw [HPQ.out, if_neg hat, hs5])
                have HW := HDS
                rw [← hs5] at HW
                obtain ⟨w6, hw6⟩ : ∃ x, x = wr := ⟨_, rfl⟩
                rw [← hw6] at HW c1 ⊢
                clear hat hs5 HPQ HDS hw6
                obtain ⟨ev, hblk, herr⟩ := HW.out.rd.blk
                have c2 : w6.cell? ⟨g, 2, none⟩ = some ev := hblk.cell 2
                have y0 : w6.cell? ⟨gr, 0, none⟩ = some (.slice none 0 0) := HW.out.br.cell 0
                have y1 : w6.cell? ⟨gr, 1, none⟩ = some (.slice none 0 0) := HW.out.br.cell 1
                have z0 := HW.out.br.frozen 0
                have z1 := HW.out.br.frozen 1
                have hgr6 : gr < w6.heap.size := HW.out.br.lt
                have hg6 : g < w6.heap.size := hblk.lt
                cases her : s5.err with
                | some kp =>
                  rw [her] at herr
                  obtain ⟨pp, he, hp, hpb⟩ := herr
                  subst he
                  have HF : Hid (decP l = (none, some (kp.1, [(kp.2 : Int)]))) := Lib.hid (by rw [HDP.out, HPS.out]; simp only []; rw [her])
                  have HFL : Hid (FltV w6 ad (.iface 104 (.pointer (some ⟨pp, 0, none⟩))) (some (kp.1, [(kp.2 : Int)]))) := Lib.hid ⟨pp, rfl, hpb⟩
                  have HWD : Hid (DS W1 w6.drew g A n c ad s5 gp gr v v2 cls ms) := Lib.hid (HW.out.call HW.out.rd.drew But.refl.drew)
                  clear hblk hp hpb her
                  go_wp2_with fail
                  go_region
                  all_goals go_wp2
                  all_goals (
                    refine bodyPost_ret (v := .tuple #[.agg #[.slice none 0 0, .slice none 0 0], .iface 104 (.pointer (some ⟨pp, 0, none⟩))]) ?_ rfl ?_
                    · simp [results, Tryd.results17, go_sem, y0, y1]
                    · rw [HF.out]
                      have k := HW.out.fin HBW.out hgw hgrw (.slice none 0 0) (.slice none 0 0)
                      have kd := HWD.out.fin HBW.out hgw hgrw (.slice none 0 0) (.slice none 0 0)
                      first
                        | exact ⟨k.1, .inr ⟨_, _, rfl, rfl, k.2.2 _ _ HFL.out⟩⟩
                        | exact ⟨kd.1, .inr ⟨_, _, rfl, rfl, kd.2.2 _ _ HFL.out⟩⟩
                        | exact ⟨k.1.drew, .inr ⟨_, _, rfl, rfl, k.2.2 _ _ HFL.out⟩⟩)
                | none =>
                  rw [her] at herr
                  have he : ev = .nilIface := herr
                  subst he
                  have HF : Hid (decP l = match mayP ⟨cls, ms.map (·.m)⟩ with
                      | some f => (none, some f)
                      | none => (some ⟨cls, ms.map (·.m)⟩, none)) := Lib.hid (by rw [HDP.out, HPS.out]; simp only []; rw [her])
                  obtain ⟨pv, hv1, hv2, hcls, hms, hpat⟩ := HW.out.pat
                  have x0 : w6.cell? ⟨gp, 0, none⟩ = some (.slice pv.A cls.length pv.c) := (HW.out.bp.cell 0).trans (by rw [hv1]; rfl)
                  have x1 : w6.cell? ⟨gp, 1, none⟩ = some (.slice pv.B ms.length pv.d) := (HW.out.bp.cell 1).trans (by rw [hv2]; rfl)
                  have hgp6 : gp < w6.heap.size := HW.out.bp.lt
                  have HMAY : Hid (Calls Tryd.prog 27 #[.agg #[.slice pv.A cls.length pv.c, .slice pv.B ms.length pv.d]] w6 (FPst w6 ad (mayP ⟨cls, ms.map (·.m)⟩))) := Lib.hid (by
                    have h2 : ∀ x ∈ pv.ms, x.m.par.length ≤ 12 ∧ x.m.loc.length ≤ 12 ∧ x.m.code.length ≤ 120 := by rw [hms]; exact HALL.out.2
                    have := pmay_any pv ad w6 (keeps_but HKE.out HW.out.bt hg14 hW14) hpat (fun y hy => by have := HALL.out.1 y (by rw [← hcls]; exact hy); unfold maxLen; omega) (by rw [hcls]; unfold maxLen; have := HC12.out; omega) (by rw [hms]; unfold maxLen; have := HMS.out; omega) (fun x hx => by have := h2 x hx; unfold maxLen; omega) (fun x hx => by have := h2 x hx; unfold maxLen; omega)
                    unfold PV.val PV.prg at this
                    rw [hcls, hms] at this
                    exact this)
                  have HV1 := Lib.hid hv1
                  have HV2 := Lib.hid hv2
                  clear hblk her herr hv1 hv2 hcls hms hpat
                  go_wp2_with fail
                  refine HMAY.out.mono ?_
                  rintro e w7 ⟨vv, rfl, hf, hb7⟩
                  have HW7 := Lib.hid (HW.out.call (HW.out.rd.but hb7) (But.of hb7))
                  have HFV := Lib.hid hf
                  clear x0 x1 y0 y1 z0 z1 hgr6 hg6 hgp6 hf hb7 c2
                  have x0 : w7.cell? ⟨gp, 0, none⟩ = some (.slice pv.A cls.length pv.c) := (HW7.out.bp.cell 0).trans (by rw [HV1.out]; rfl)
                  have x1 : w7.cell? ⟨gp, 1, none⟩ = some (.slice pv.B ms.length pv.d) := (HW7.out.bp.cell 1).trans (by rw [HV2.out]; rfl)
                  have y0 : w7.cell? ⟨gr, 0, none⟩ = some (.slice none 0 0) := HW7.out.br.cell 0
                  have y1 : w7.cell? ⟨gr, 1, none⟩ = some (.slice none 0 0) := HW7.out.br.cell 1
                  have z0 := HW7.out.br.frozen 0
                  have z1 := HW7.out.br.frozen 1
                  have hgr7 : gr < w7.heap.size := HW7.out.br.lt
                  have hgp7 : gp < w7.heap.size := HW7.out.bp.lt
                  cases hmp : mayP ⟨cls, ms.map (·.m)⟩ with
                  | none =>
                    have hvv := HFV.out
                    rw [hmp] at hvv
                    have hvv' : vv = .nilIface := hvv
                    subst hvv'
                    have HFF : Hid (decP l = (some ⟨cls, ms.map (·.m)⟩, none)) := Lib.hid (by rw [HF.out, hmp])
                    clear hmp HFV hvv
                    go_wp2
                    obtain ⟨k1, ⟨p2, j1, j2, j3, j4, j5⟩, k3⟩ := HW7.out.fin HBW.out hgw hgrw (.slice pv.A cls.length pv.c) (.slice pv.B ms.length pv.d)
                    refine bodyPost_ret (v := .tuple #[.agg #[.slice pv.A cls.length pv.c, .slice pv.B ms.length pv.d], .nilIface]) ?_ rfl ?_
                    · simp [results, Tryd.results17, go_sem, y0, y1]
                    · rw [HFF.out]
                      refine ⟨k1, .inl ⟨p2, ?_, ?_, j5⟩⟩
                      · unfold PV.prg
                        rw [j3, j4]
                      · unfold PV.val
                        rw [j3, j4, ← j1, ← j2, HV1.out, HV2.out]
                  | some f =>
                    have hff := HFV.out
                    rw [hmp] at hff
                    obtain ⟨tt, uu, hvv⟩ := flt_iface hff
                    subst hvv
                    have HFG := Lib.hid hff
                    have HFF : Hid (decP l = (none, some f)) := Lib.hid (by rw [HF.out, hmp])
                    clear hmp HFV hff
                    go_wp2
                    refine bodyPost_ret (v := .tuple #[.agg #[.slice none 0 0, .slice none 0 0], .iface tt uu]) ?_ rfl ?_
                    · simp [results, Tryd.results17, go_sem, y0, y1]
                    · rw [HFF.out]
                      have k := HW7.out.fin HBW.out hgw hgrw (.slice none 0 0) (.slice none 0 0)
                      exact ⟨k.1, .inr ⟨_, _, rfl, rfl, k.2.2 _ _ HFG.out⟩⟩
end Go.Proofs.YtnojejplckhifaaDoor
