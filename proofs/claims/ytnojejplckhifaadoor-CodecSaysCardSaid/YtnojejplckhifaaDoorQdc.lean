/- The contract of overdriveref3.Decode (printed by mkqdc.py). -/
import Derived.Test.YtnojejplckhifaaDoorQdc0
namespace Go.Proofs.YtnojejplckhifaaDoor
open Go.RowKit
set_option linter.unusedVariables false

set_option maxRecDepth 100000 in
set_option maxHeartbeats 80000000 in
theorem rdecode_any (A : Option Addr) (n c : Nat) (l : List Nat) (w : World) (ha : Reads w w.heap.size 1 A n (l.map bv)) (hby : ∀ x ∈ l, x < 256) (hc : n ≤ c) (hcm : c ≤ maxLen) :
    Calls Tryd.prog 18 #[.slice A n c] w (RDPost w (decP l)) := by
  have hl : l.length = n := by have := ha.1; simpa using this
  by_cases hn : 16384 < n
  · exact rdecode_long A n c l w hl hn
  obtain ⟨j0, hj0, hy0, hy1, hy2⟩ := info_parts cls_info
  obtain ⟨i0, hi0, hz0, hz1, hz2⟩ := info_parts met_info
  obtain ⟨k0', hk0', hw0', hw1', hw2'⟩ := info_parts ins_info
  have t1 : decide ((16384 : Int) < (n : Int)) = false := by simp; omega
  obtain ⟨W1, hW1⟩ : ∃ W, W = ((w.alloc (.cells #[.slice none 0 0, .slice none 0 0] 25)).alloc (.cells #[.int .i64 0, .slice none 0 0] 35)).alloc (.cells #[.slice A n c, .int .i64 0, .int .i64 0, .slice none 0 0] 86) := ⟨_, rfl⟩
  have hbw : Below w.heap.size w W1 := by rw [hW1]; exact (((Below.refl _ _).alloc (Nat.le_refl _) _).alloc (by simp) _).alloc (by simp; omega) _
  have hs1 : W1.heap.size = w.heap.size + 1 + 1 + 1 := by rw [hW1]; simp
  obtain ⟨r0, hr0⟩ : ∃ r, r = w.heap.size := ⟨_, rfl⟩
  obtain ⟨r1, hr1⟩ : ∃ r, r = w.heap.size + 1 := ⟨_, rfl⟩
  obtain ⟨g, hg⟩ : ∃ r, r = w.heap.size + 1 + 1 := ⟨_, rfl⟩
  have HR0 : Hid (Blk W1 r0 25 #[.slice none 0 0, .slice none 0 0]) := Lib.hid (by rw [hW1, hr0]; exact ((Blk.new _ _ _).alloc _).alloc _)
  have HR1 : Hid (Blk W1 r1 35 #[.int .i64 0, .slice none 0 0]) := Lib.hid (by
    rw [hW1, hr1]
    have := Blk.new (w.alloc (.cells #[.slice none 0 0, .slice none 0 0] 25)) 35 #[.int .i64 0, .slice none 0 0]
    exact Blk.alloc (by simpa using this) _)
  have HRD : Hid (QAt W1 g A n c ⟨0, none⟩) := Lib.hid (QAt.mk0 rfl (by
    rw [hW1, hg]
    have := Blk.new ((w.alloc (.cells #[.slice none 0 0, .slice none 0 0] 25)).alloc (.cells #[.int .i64 0, .slice none 0 0] 35)) 86 #[.slice A n c, .int .i64 0, .int .i64 0, .slice none 0 0]
    simpa using this) (Nat.zero_le _))
  have HENV : Hid (QEnv W1 g A n c l) := Lib.hid ⟨(ha.below hbw).more (by omega), hby, by omega, hc, hcm, by omega⟩
  have HBW := Lib.hid hbw
  have HL := Lib.hid hl
  have HGG : Hid (w.heap.size ≤ r0 ∧ w.heap.size ≤ r1 ∧ r0 < g ∧ r1 < g ∧ g < W1.heap.size ∧ w.heap.size ≤ g) := Lib.hid (by omega)
  have HDP : Hid (decP l = match (progR l).2.err with
    | some e => (none, some (e.1, [(e.2 : Int)]))
    | none => match mayP (progR l).1 with
      | some f => (none, some f)
      | none => (some (progR l).1, none)) := Lib.hid (by unfold decP; rw [if_neg (by omega)]; rfl)
  clear hbw ha hby hl hcm
  go_enter Tryd.func18, Tryd.ntmps18
  go_upto_region 4 with fail
  rw [← hW1, ← hg, ← hr1, ← hr0]
  clear hW1 hs1 hr0 hr1 hg
  obtain ⟨WP, hWP⟩ : ∃ W, W = W1.alloc (.cells #[.slice none 0 0, .slice none 0 0] 25) := ⟨_, rfl⟩
  obtain ⟨gp, hgp⟩ : ∃ r, r = W1.heap.size := ⟨_, rfl⟩
  have HT0 : Hid (TS W1 WP g A n c ⟨0, none⟩ gp (.slice none 0 0) (.slice none 0 0) [] []) := Lib.hid (by
    rw [hWP]
    exact ⟨HRD.out.but ((Below.refl _ _).alloc (Nat.le_refl _) _), But.refl.alloc _, by rw [hgp]; exact Blk.new _ _ _, ⟨rfl, .inl ⟨rfl, rfl⟩⟩, ⟨rfl, .inl ⟨rfl, rfl⟩⟩, (fun x hx => by cases hx), by omega, HGG.out.2.2.2.2.1⟩)
  go_upto_region 5 with fail
  rw [← hWP, ← hgp]
  clear hWP hgp
  go_wp2_with fail
  have HX0 : Hid (Below WP.heap.size WP (WP.alloc (.cells #[.int .u8 79] 5))) := Lib.hid ((Below.refl _ _).alloc (Nat.le_refl _) _)
  refine (qbyte_any (mIs 79) false _ 1 1 [79] g A n c l ⟨0, none⟩ _ (fun x _ => by unfold mIs; rw [Bool.eq_iff_iff]; simp) (by exact reads_newS _ _ _ 1 1 _ rfl rfl) (by decide) (HT0.out.next HX0.out).rd (HENV.out.but (HT0.out.next HX0.out).bt)).mono ?_
  rintro e w0h ⟨rfl, u1, u2⟩
  have HT1 : Hid (TS W1 w0h g A n c (byteR l (mIs 79) ⟨0, none⟩).2 gp (.slice none 0 0) (.slice none 0 0) [] []) := Lib.hid ((HT0.out.next HX0.out).call u1 u2)
  clear u1 u2 HX0
  go_wp2_with fail
  have HX1 : Hid (Below w0h.heap.size w0h (w0h.alloc (.cells #[.int .u8 68] 5))) := Lib.hid ((Below.refl _ _).alloc (Nat.le_refl _) _)
  refine (qbyte_any (mIs 68) false _ 1 1 [68] g A n c l (byteR l (mIs 79) ⟨0, none⟩).2 _ (fun x _ => by unfold mIs; rw [Bool.eq_iff_iff]; simp) (by exact reads_newS _ _ _ 1 1 _ rfl rfl) (by decide) (HT1.out.next HX1.out).rd (HENV.out.but (HT1.out.next HX1.out).bt)).mono ?_
  rintro e w1h ⟨rfl, u1, u2⟩
  have HT2 : Hid (TS W1 w1h g A n c (byteR l (mIs 68) (byteR l (mIs 79) ⟨0, none⟩).2).2 gp (.slice none 0 0) (.slice none 0 0) [] []) := Lib.hid ((HT1.out.next HX1.out).call u1 u2)
  clear u1 u2 HX1
  go_wp2_with fail
  have HX2 : Hid (Below w1h.heap.size w1h (w1h.alloc (.cells #[.int .u8 1] 5))) := Lib.hid ((Below.refl _ _).alloc (Nat.le_refl _) _)
  refine (qbyte_any (mIs 1) false _ 1 1 [1] g A n c l (byteR l (mIs 68) (byteR l (mIs 79) ⟨0, none⟩).2).2 _ (fun x _ => by unfold mIs; rw [Bool.eq_iff_iff]; simp) (by exact reads_newS _ _ _ 1 1 _ rfl rfl) (by decide) (HT2.out.next HX2.out).rd (HENV.out.but (HT2.out.next HX2.out).bt)).mono ?_
  rintro e w2h ⟨rfl, u1, u2⟩
  have HT3 : Hid (TS W1 w2h g A n c (byteR l (mIs 1) (byteR l (mIs 68) (byteR l (mIs 79) ⟨0, none⟩).2).2).2 gp (.slice none 0 0) (.slice none 0 0) [] []) := Lib.hid ((HT2.out.next HX2.out).call u1 u2)
  clear u1 u2 HX2
  have HTH : Hid (TS W1 w2h g A n c (headR l) gp (.slice none 0 0) (.slice none 0 0) [] []) := HT3
  clear HT0 HT1 HT2 HT3
  obtain ⟨m1, s1, e1⟩ : ∃ x st, numberR l 0 12 (headR l) = (x, st) := ⟨_, _, rfl⟩
  have hm1 : m1 ≤ 12 := by have := num_le' l 0 12 (headR l); rw [e1] at this; exact this
  have E1 := Lib.hid e1
  clear e1
  go_wp2_with fail
  refine (qnumber_is 0 12 12 rfl _ (by decide) (by decide) g A n c l (headR l) _ E1.out HTH.out.rd (HENV.out.but HTH.out.bt)).mono ?_
  rintro e w3 ⟨rfl, u1, u2⟩
  have HT3 := Lib.hid (HTH.out.call u1 u2)
  clear u1 u2 HTH
  go_wp2_with fail
  go_loopw [7] (fun si wr => TCRel W1 g A n c l s1 m1 gp si wr) (fun si _ => m1 - (intOf si).toNat)
  case atStart => exact ⟨0, _, [], Nat.zero_le _, rfl, HT3.out, rfl, (fun y hy => by cases hy), fun _ => rfl⟩
  case round =>
    clear HT3
    obtain ⟨k, v, cls, hk, rfl, hts, hcl, hc10, hd⟩ := hrel
    have HTS := Lib.hid hts
    have HCL := Lib.hid hcl
    have HC10 := Lib.hid hc10
    have HD := Lib.hid hd
    obtain ⟨sk, hsk⟩ : ∃ x, x = (timesR (classR l) k s1).2 := ⟨_, rfl⟩
    have HSK := Lib.hid hsk
    rw [← hsk] at HTS
    obtain ⟨t, ht⟩ : ∃ t, t = (decide (k < m1) && sk.err.isNone) := ⟨_, rfl⟩
    have HTT := Lib.hid ht
    clear hts hcl hc10 hd hsk ht
    go_upto_region 10 with fail
    go_cut [43] from 36 to 44 (fun u wx => u = .bool t ∧ wr = wx)
    case first =>
      as_aux_lemma =>
        by_cases hlt : k < m1
        · have hlt' : (k : Int) < (m1 : Int) := by omega
          cases he : sk.err with
          | some kp =>
            have HV : Hid (t = false) := Lib.hid (by rw [HTT.out, he]; simp)
            have HEE : Hid (sk.err.isSome = true) := Lib.hid (by rw [he]; rfl)
            clear he
            go_wp2_with fail
            refine (qbad_is g A n c sk true _ HTS.out.rd HEE.out).mono ?_
            rintro e wb ⟨rfl, hwb⟩
            rw [hwb]
            clear hwb
            go_wp2_with fail
            go_meet
            case rel => exact ⟨by rw [HV.out], rfl⟩
          | none =>
            have HV : Hid (t = true) := Lib.hid (by rw [HTT.out, he]; simp [hlt])
            have HEE : Hid (sk.err.isSome = false) := Lib.hid (by rw [he]; rfl)
            clear he
            go_wp2_with fail
            refine (qbad_is g A n c sk false _ HTS.out.rd HEE.out).mono ?_
            rintro e wb ⟨rfl, hwb⟩
            rw [hwb]
            clear hwb
            go_wp2_with fail
            go_meet
            case rel => exact ⟨by rw [HV.out], rfl⟩
        · have HV : Hid (t = false) := Lib.hid (by rw [HTT.out]; simp [hlt])
          have t3 : decide ((k : Int) < (m1 : Int)) = false := by simp; omega
          go_wp2_with fail
          go_meet
          case rel => exact ⟨by rw [HV.out], rfl⟩
    case rest =>
    obtain ⟨rfl, rfl⟩ := hcut
    cases t
    case true =>
      as_aux_lemma =>
        have htt := HTT.out.symm
        rw [Bool.and_eq_true, decide_eq_true_eq] at htt
        have hkm := htt.1
        have HEE : Hid (sk.err = none) := Lib.hid (by simpa using htt.2)
        obtain ⟨kk, st, ey⟩ : ∃ y st, numberR l 0 10 sk = (y, st) := ⟨_, _, rfl⟩
        have EY := Lib.hid ey
        have hkk : kk ≤ 10 := by have := num_le' l 0 10 sk; rw [ey] at this; exact this
        have hlen : cls.length ≤ 12 := by have := HCL.out; omega
        clear htt ey
        go_wp2_with fail
        refine (qnumber_is 0 10 10 rfl _ (by decide) (by decide) g A n c l sk _ EY.out HTS.out.rd (HENV.out.but HTS.out.bt)).mono ?_
        rintro e w4 ⟨rfl, u1, u2⟩
        have HT4 := Lib.hid (HTS.out.call u1 u2)
        clear u1 u2 HTS
        have hc0 : w4.cell? ⟨gp, 0, none⟩ = some v := HT4.out.bp.cell 0
        have hgpr : gp < w4.heap.size := HT4.out.bp.lt
        obtain ⟨Av, cv, hvv, hvr⟩ := own_reads HT4.out.o1
        have HVV := Lib.hid hvv
        have HDD : Hid (TS W1 w4.drew g A n c st gp v (.slice none 0 0) cls []) := Lib.hid (HT4.out.next (Below.refl _ _).drew)
        clear hvv hvr
        go_wp2_with fail
        go_region_law ((first
          | (have HRX := HD7.out; refine step_append_any _ (by rfl) (.tmp 49) (.tmp 54) _ (by rfl) W1.heap.size 65 j0 _ 1 16 Tryd.underlying22 hj0 hy0 hy1 hy2 rfl (by omega) v cls.length (cls.map strV) (by rfl) (by exact own_below HRX.o1 ((Below.refl _ _).alloc (Nat.le_refl _) _)) _ (some ⟨w7.heap.size, 0, none⟩) 1 1 [.string q] (by rfl) (by exact reads_newS _ _ _ 1 1 _ rfl rfl) (by intro u hu; simp at hu; subst hu; rfl) (by unfold maxLen; omega) (by omega) (by have := HRX.bt.size; simp; omega) ?_; intro v2 w8 hown2 hg2 hat2; clear HRX; obtain ⟨A2, c2, hv2, hrr2⟩ := own_reads hown2; clear hrr2; subst hv2; have HP8 : Hid (Blk w8 gp 25 #[v, .slice none 0 0]) := Lib.hid ((HD7.out.bp.alloc _).grown hg2 (fun e => own_blk_ne HD7.out.o1 HD7.out.bp (by decide) e.symm)); have hc8 : w8.cell? ⟨gp, 0, none⟩ = some v := HP8.out.cell 0; have hf8 := HP8.out.frozen 0; have hl8 : gp < w8.heap.size := HP8.out.lt)
          | (go_simp; go_at_call 50; refine (qletters_any kk (by omega) g A n c l st _ HDD.out.rd (HENV.out.but HDD.out.bt)).mono ?_; rintro e w7 ⟨q, rfl, hqs, u1, hqd, u2⟩; have HQS := Lib.hid hqs; have HQD := Lib.hid hqd; have HD7 := Lib.hid (HDD.out.call u1 u2); clear u1 u2 hqs hqd; have hc7 : w7.cell? ⟨gp, 0, none⟩ = some v := HD7.out.bp.cell 0; have hl7 : gp < w7.heap.size := HD7.out.bp.lt)))
        all_goals (
          have HCR : Hid (classR l sk = (strB (timesR (byteR l mIR) kk st).1, (timesR (byteR l mIR) kk st).2)) := Lib.hid (by show (strB (timesR (byteR l mIR) (numberR l 0 10 sk).1 (numberR l 0 10 sk).2).1, (timesR (byteR l mIR) (numberR l 0 10 sk).1 (numberR l 0 10 sk).2).2) = _; rw [EY.out])
          have HTN : Hid (timesR (classR l) (k + 1) s1 = ((timesR (classR l) k s1).1 ++ [(classR l sk).1], (classR l sk).2)) := Lib.hid (by show ((timesR (classR l) k s1).1 ++ [(classR l (timesR (classR l) k s1).2).1], (classR l (timesR (classR l) k s1).2).2) = _; rw [← HSK.out])
          have HNX : Hid (TS W1 (w8.setCell ⟨gp, 0, none⟩ (.slice A2 (cls.length + 1) c2)) g A n c (timesR (classR l) (k + 1) s1).2 gp (.slice A2 (cls.length + 1) c2) (.slice none 0 0) (cls ++ [q.toList]) []) := Lib.hid (by rw [HTN.out, HCR.out]; exact HD7.out.app1 _ q.toList (by rw [strV_toList]; exact hown2) hg2 rfl)
          have HDN : Hid ((timesR (classR l) (k + 1) s1).2.err = none → cls ++ [q.toList] = (timesR (classR l) (k + 1) s1).1) := Lib.hid (fun h0 => by
            rw [HTN.out, HCR.out] at h0 ⊢
            have h1 := HD.out (by rw [← HSK.out]; exact HEE.out)
            rw [HQD.out h0, ← h1])
          have HQL : Hid (q.toList.length ≤ 10) := Lib.hid (by have := HQS.out; simp [ByteArray.toList_eq]; omega)
          clear HP8 hc8 hf8 hc7 hown2 hg2 hat2
          go_wp2
          go_roundw)
        all_goals (first | (case rel => exact ⟨k + 1, _, _, by omega, by go_num, HNX.out, by rw [List.length_append, HCL.out]; rfl, fun y hy => by (rcases List.mem_append.1 hy with hy | hy); (exact HC10.out y hy); (rw [List.mem_singleton.1 hy]; exact HQL.out), HDN.out⟩) | (simp [intOf]; omega))
    case false =>
      as_aux_lemma =>
        have htt := HTT.out.symm
        have HS2 : Hid ((timesR (classR l) m1 s1).2 = sk ∧ (sk.err = none → cls = (timesR (classR l) m1 s1).1)) := Lib.hid (by
          cases he : sk.err with
          | none =>
            rw [he] at htt
            have hkm : k = m1 := by simp at htt; omega
            subst hkm
            exact ⟨HSK.out.symm, fun _ => HD.out (by rw [← HSK.out]; exact he)⟩
          | some kp => exact ⟨by rw [HSK.out]; exact times_to class_stay l s1 hk (by rw [← HSK.out, he]; simp), fun h0 => by cases h0⟩)
        have hcl12 : cls.length ≤ 12 := by have := HCL.out; omega
        obtain ⟨m3, s3, e3⟩ : ∃ x st, numberR l 1 12 sk = (x, st) := ⟨_, _, rfl⟩
        have hm3 : m3 ≤ 12 := by have := num_le' l 1 12 sk; rw [e3] at this; exact this
        have E3 := Lib.hid e3
        have HPR : Hid ((progR l).2 = (if (timesR (methodR l) m3 s3).2.at_ < l.length then failR (timesR (methodR l) m3 s3).2 6 (timesR (methodR l) m3 s3).2.at_ else (timesR (methodR l) m3 s3).2) ∧ (progR l).1 = ⟨(timesR (classR l) m1 s1).1, (timesR (methodR l) m3 s3).1⟩) := Lib.hid (by
          unfold progR
          simp only []
          rw [E1.out]
          simp only []
          rw [HS2.out.1, e3]
          exact ⟨rfl, rfl⟩)
        have HS3 : Hid (s3.err = none → sk.err = none) := Lib.hid (by
          intro h0
          cases he : sk.err with
          | none => rfl
          | some kp =>
            have := numberR_bad l 1 12 sk (by rw [he]; simp)
            rw [e3] at this
            have h2 := congrArg Prod.snd this
            simp only at h2
            rw [h2, he] at h0
            cases h0)
        clear htt e3 HD HTT hk
        go_wp2_with fail
        refine (qnumber_is 1 12 12 rfl _ (by decide) (by decide) g A n c l sk _ E3.out HTS.out.rd (HENV.out.but HTS.out.bt)).mono ?_
        rintro e w4 ⟨rfl, u1, u2⟩
        have HT4 := Lib.hid (HTS.out.call u1 u2)
        clear u1 u2 HTS
        go_wp2_with fail
        go_loopw [9] (fun si wr => TMRel W1 g A n c l s3 m3 gp cls v si wr) (fun si _ => m3 - (intOf si).toNat)
        case atStart => exact ⟨0, _, [], Nat.zero_le _, rfl, HT4.out, rfl, (fun y hy => by cases hy), fun _ => rfl⟩
        case round =>
          clear HT4
          obtain ⟨i, v2, ms, hi, rfl, hts, hml, hmb, hd⟩ := hrel
          have HTS := Lib.hid hts
          have HML := Lib.hid hml
          have HMB := Lib.hid hmb
          have HD := Lib.hid hd
          obtain ⟨si, hsi⟩ : ∃ x, x = (timesR (methodR l) i s3).2 := ⟨_, rfl⟩
          have HSI := Lib.hid hsi
          rw [← hsi] at HTS
          obtain ⟨t, ht⟩ : ∃ t, t = (decide (i < m3) && si.err.isNone) := ⟨_, rfl⟩
          have HTT := Lib.hid ht
          clear hts hml hmb hd hsi ht
          go_upto_region 16 with fail
          go_cut [66] from 59 to 67 (fun u wx => u = .bool t ∧ wr = wx)
          case first =>
            as_aux_lemma =>
              by_cases hlt : i < m3
              · have hlt' : (i : Int) < (m3 : Int) := by omega
                cases he : si.err with
                | some kp =>
                  have HV : Hid (t = false) := Lib.hid (by rw [HTT.out, he]; simp)
                  have HEE : Hid (si.err.isSome = true) := Lib.hid (by rw [he]; rfl)
                  clear he
                  go_wp2_with fail
                  refine (qbad_is g A n c si true _ HTS.out.rd HEE.out).mono ?_
                  rintro e wb ⟨rfl, hwb⟩
                  rw [hwb]
                  clear hwb
                  go_wp2_with fail
                  go_meet
                  case rel => exact ⟨by rw [HV.out], rfl⟩
                | none =>
                  have HV : Hid (t = true) := Lib.hid (by rw [HTT.out, he]; simp [hlt])
                  have HEE : Hid (si.err.isSome = false) := Lib.hid (by rw [he]; rfl)
                  clear he
                  go_wp2_with fail
                  refine (qbad_is g A n c si false _ HTS.out.rd HEE.out).mono ?_
                  rintro e wb ⟨rfl, hwb⟩
                  rw [hwb]
                  clear hwb
                  go_wp2_with fail
                  go_meet
                  case rel => exact ⟨by rw [HV.out], rfl⟩
              · have HV : Hid (t = false) := Lib.hid (by rw [HTT.out]; simp [hlt])
                have t3 : decide ((i : Int) < (m3 : Int)) = false := by simp; omega
                go_wp2_with fail
                go_meet
                case rel => exact ⟨by rw [HV.out], rfl⟩
          case rest =>
          obtain ⟨rfl, rfl⟩ := hcut
          cases t
          case true =>
            as_aux_lemma =>
              have htt := HTT.out.symm
              rw [Bool.and_eq_true, decide_eq_true_eq] at htt
              have him := htt.1
              have HEE : Hid (si.err = none) := Lib.hid (by simpa using htt.2)
              have hml12 : ms.length ≤ 12 := by have := HML.out; omega
              obtain ⟨WR, hWRe⟩ : ∃ W, W = wr := ⟨_, rfl⟩
              subst hWRe
              obtain ⟨k0, s0, e0⟩ : ∃ y st, numberR l 0 12 si = (y, st) := ⟨_, _, rfl⟩
              have hk0 : k0 ≤ 12 := by have := num_le' l 0 12 si; rw [e0] at this; exact this
              have E0 := Lib.hid e0
              obtain ⟨x0, st0, h0⟩ : ∃ y st, timesR (byteR l mIR) k0 s0 = (y, st) := ⟨_, _, rfl⟩
              have H0 := Lib.hid h0
              obtain ⟨WM, hWM⟩ : ∃ W, W = WR.alloc (.cells #[.string ⟨#[]⟩, .string ⟨#[]⟩, .string ⟨#[]⟩, .slice none 0 0] 54) := ⟨_, rfl⟩
              obtain ⟨gm, hgm⟩ : ∃ x, x = WR.heap.size := ⟨_, rfl⟩
              have HU0 : Hid (US WR WM g A n c si gm ⟨#[]⟩ ⟨#[]⟩ ⟨#[]⟩ (.slice none 0 0) []) := Lib.hid (by
                rw [hWM, hgm]
                exact ⟨HTS.out.rd.but ((Below.refl _ _).alloc (Nat.le_refl _) _), But.refl.alloc _, Blk.new _ _ _, ⟨rfl, .inl ⟨rfl, rfl⟩⟩, Nat.le_refl _, by have := HGG.out; have := HTS.out.bt.size; omega⟩)
              clear htt e0 h0 HTT
              go_upto_region 19 with fail
              rw [← hWM, ← hgm]
              clear hWM hgm
              go_wp2_with fail
              refine (qnumber_is 0 12 12 rfl _ (by decide) (by decide) g A n c l si _ E0.out HU0.out.rd (HENV.out.but (HTS.out.bt.trans HU0.out.bt))).mono ?_
              rintro e wa ⟨rfl, u1, u2⟩
              have HU1 := Lib.hid (HU0.out.call u1 u2)
              clear u1 u2 HU0
              go_wp2_with fail
              refine (qletters_any k0 (by omega) g A n c l s0 _ HU1.out.rd (HENV.out.but (HTS.out.bt.trans HU1.out.bt))).mono ?_
              rintro e wb ⟨q0, rfl, hqs0, u1, hqd0, u2⟩
              rw [H0.out] at u1 hqd0
              have HU2 := Lib.hid (HU1.out.call u1 u2)
              have HQD0 := Lib.hid hqd0
              obtain ⟨P0, hP0⟩ : ∃ P, P = q0.size := ⟨_, rfl⟩
              have hP12 : P0 ≤ 12 := by omega
              have HPX : Hid (st0.err = none → P0 = x0.length) := Lib.hid (fun h => by
                rw [hP0, ← size_toL, HQD0.out h]
                simp [strB])
              have hq0s : q0.size = P0 := hP0.symm
              clear u1 u2 hqd0 HU1 hqs0 hP0
              have y0 : wb.cell? ⟨gm, 0, none⟩ = some (.string ⟨#[]⟩) := HU2.out.bm.cell 0
              have yf0 := HU2.out.bm.frozen 0
              have gml := HU2.out.bm.lt
              go_upto_region 21 with fail
              have HU3 := Lib.hid (HU2.out.set0 q0)
              obtain ⟨W3, hW3⟩ : ∃ W, W = wb.setCell ⟨gm, 0, none⟩ (.string q0) := ⟨_, rfl⟩
              rw [← hW3]
              rw [← hW3] at HU3
              clear hW3 y0 yf0 gml HU2
              have y0 : W3.cell? ⟨gm, 0, none⟩ = some (.string q0) := HU3.out.bm.cell 0
              have gml := HU3.out.bm.lt
              obtain ⟨k1, s1', e1'⟩ : ∃ y st, numberR l 0 (12 - P0) st0 = (y, st) := ⟨_, _, rfl⟩
              have hk1 : k1 ≤ 12 := by have := num_le' l 0 (12 - P0) st0; rw [e1'] at this; simp only at this; omega
              have F1 := Lib.hid e1'
              obtain ⟨x1, st1, h1⟩ : ∃ y st, timesR (byteR l mIR) k1 s1' = (y, st) := ⟨_, _, rfl⟩
              have H1 := Lib.hid h1
              clear e1' h1
              have hz12 : (12 : Int) - (P0 : Int) = ((12 - P0 : Nat) : Int) := by omega
              have HZ12 := Lib.hid hz12
              clear hz12
              go_wp2_with fail
              refine (qnumber_is 0 (12 - P0) _ HZ12.out _ (by omega) (by decide) g A n c l st0 _ F1.out HU3.out.rd (HENV.out.but (HTS.out.bt.trans HU3.out.bt))).mono ?_
              rintro e wd ⟨rfl, u1, u2⟩
              have HU4 := Lib.hid (HU3.out.call u1 u2)
              clear u1 u2 HU3 y0 gml
              go_wp2_with fail
              refine (qletters_any k1 (by omega) g A n c l s1' _ HU4.out.rd (HENV.out.but (HTS.out.bt.trans HU4.out.bt))).mono ?_
              rintro e we ⟨q1, rfl, hqs1, u1, hqd1, u2⟩
              rw [H1.out] at u1 hqd1
              have HU5 := Lib.hid (HU4.out.call u1 u2)
              have HQD1 := Lib.hid hqd1
              have HQS1 := Lib.hid hqs1
              clear u1 u2 hqd1 HU4 hqs1
              have y1 : we.cell? ⟨gm, 1, none⟩ = some (.string ⟨#[]⟩) := HU5.out.bm.cell 1
              have yf1 := HU5.out.bm.frozen 1
              have gml := HU5.out.bm.lt
              go_upto_region 23 with fail
              have HU6 := Lib.hid (HU5.out.set1 q1)
              obtain ⟨W6, hW6⟩ : ∃ W, W = we.setCell ⟨gm, 1, none⟩ (.string q1) := ⟨_, rfl⟩
              rw [← hW6]
              rw [← hW6] at HU6
              clear hW6 y1 yf1 gml HU5
              obtain ⟨x, st2, e2'⟩ : ∃ y st, byteR l mRet st1 = (y, st) := ⟨_, _, rfl⟩
              have F2 := Lib.hid e2'
              have hx256 : x < 256 := by have := byteR_lt l mRet st1 HENV.out.byte; rw [e2'] at this; exact this
              clear e2'
              go_wp2_with fail
              have HX6 : Hid (Below W6.heap.size W6 (W6.alloc (.cells #[.int .u8 0, .int .u8 73, .int .u8 82] 5))) := Lib.hid ((Below.refl _ _).alloc (Nat.le_refl _) _)
              refine (qbyte_any mRet false _ 3 3 [0, 73, 82] g A n c l st1 _ (fun y _ => by unfold mRet; rw [Bool.eq_iff_iff]; simp) (by exact reads_newS _ _ _ 1 3 _ rfl rfl) (by decide) (HU6.out.next HX6.out).rd (HENV.out.but (HTS.out.bt.trans (HU6.out.next HX6.out).bt))).mono ?_
              rintro e w7 ⟨rfl, u1, u2⟩
              rw [F2.out] at u1 ⊢
              have HU7 := Lib.hid ((HU6.out.next HX6.out).call u1 u2)
              clear u1 u2 HU6 HX6
              obtain ⟨k3, st3, e3'⟩ : ∃ y st, numberR l 1 120 st2 = (y, st) := ⟨_, _, rfl⟩
              have hk3 : k3 ≤ 120 := by have := num_le' l 1 120 st2; rw [e3'] at this; exact this
              have F3 := Lib.hid e3'
              clear e3'
              have HMR : Hid (methodR l si = (⟨strB x0, strB x1, retL x, (timesR (instrR l) k3 st3).1⟩, (timesR (instrR l) k3 st3).2)) := Lib.hid (method_steps E0.out H0.out HPX.out F1.out H1.out F2.out F3.out)
              have HMC : Hid ((timesR (instrR l) k3 st3).2.err = none → st0.err = none ∧ st1.err = none) := Lib.hid (method_clean F1.out H1.out F2.out F3.out)
              clear E0 H0 HPX F1 H1 F2 HZ12
              go_upto_if 89 with fail
              go_cut [] from 90 to 94 (fun wx => RetC WR g A n c st2 gm q0 q1 x wx)
              case first =>
                as_aux_lemma =>
                  by_cases hx0 : x = 0
                  · have t1 : ((x : Int) != 0) = false := by rw [hx0]; rfl
                    have HX0 := Lib.hid hx0
                    clear hx0
                    go_wp2_with fail
                    go_meet
                    case rel => exact ⟨⟨#[]⟩, by rw [HX0.out, ByteArray.toList_eq]; rfl, HU7.out⟩
                  · have t1 : ((x : Int) != 0) = true := by rw [bne_iff_ne]; omega
                    have HX0 := Lib.hid hx0
                    have y2 : w7.cell? ⟨gm, 2, none⟩ = some (.string ⟨#[]⟩) := HU7.out.bm.cell 2
                    have yf2 := HU7.out.bm.frozen 2
                    have gml := HU7.out.bm.lt
                    have hcv := conv_one w7 x 9 Tryd.underlying9
                    clear hx0
                    go_wp2_with fail
                    go_meet
                    case rel =>
                      refine ⟨⟨#[UInt8.ofNat x]⟩, by unfold retL; rw [if_neg HX0.out, ByteArray.toList_eq], ?_⟩
                      first
                        | exact (HU7.out.next ((Below.refl _ _).alloc (Nat.le_refl _) _)).set2 _
                        | exact (HU7.out.set2 _).next ((Below.refl _ _).alloc (Nat.le_refl _) _)
              case rest =>
              obtain ⟨q2, hq2, hu⟩ := hcut
              have HQ2 := Lib.hid hq2
              have HU8 := Lib.hid hu
              clear hq2 hu HU7
              go_wp2_with fail
              refine (qnumber_is 1 120 120 rfl _ (by decide) (by decide) g A n c l st2 _ F3.out HU8.out.rd (HENV.out.but (HTS.out.bt.trans HU8.out.bt))).mono ?_
              rintro e w9 ⟨rfl, u1, u2⟩
              have HU9 := Lib.hid (HU8.out.call u1 u2)
              clear u1 u2 HU8 F3
              go_wp2_with fail
              go_loopw [13] (fun si wr => TIRel WR g A n c l st3 k3 gm q0 q1 q2 si wr) (fun si _ => k3 - (intOf si).toNat)
              case atStart => exact ⟨0, _, [], Nat.zero_le _, rfl, HU9.out, rfl, fun _ => rfl⟩
              case round =>
                clear HU9
                obtain ⟨j, vc, code, hj, rfl, hus, hcl, hdc⟩ := hrel
                have HUS := Lib.hid hus
                have HCD := Lib.hid hcl
                have HDC := Lib.hid hdc
                obtain ⟨sj, hsj⟩ : ∃ x, x = (timesR (instrR l) j st3).2 := ⟨_, rfl⟩
                have HSJ := Lib.hid hsj
                rw [← hsj] at HUS
                obtain ⟨t, ht⟩ : ∃ t, t = (decide (j < k3) && sj.err.isNone) := ⟨_, rfl⟩
                have HTT := Lib.hid ht
                clear hus hcl hdc hsj ht
                go_upto_region 28 with fail
                go_cut [103] from 96 to 104 (fun u wx => u = .bool t ∧ wr = wx)
                case first =>
                  as_aux_lemma =>
                    by_cases hlt : j < k3
                    · have hlt' : (j : Int) < (k3 : Int) := by omega
                      cases he : sj.err with
                      | some kp =>
                        have HV : Hid (t = false) := Lib.hid (by rw [HTT.out, he]; simp)
                        have HEE : Hid (sj.err.isSome = true) := Lib.hid (by rw [he]; rfl)
                        clear he
                        go_wp2_with fail
                        refine (qbad_is g A n c sj true _ HUS.out.rd HEE.out).mono ?_
                        rintro e wb ⟨rfl, hwb⟩
                        rw [hwb]
                        clear hwb
                        go_wp2_with fail
                        go_meet
                        case rel => exact ⟨by rw [HV.out], rfl⟩
                      | none =>
                        have HV : Hid (t = true) := Lib.hid (by rw [HTT.out, he]; simp [hlt])
                        have HEE : Hid (sj.err.isSome = false) := Lib.hid (by rw [he]; rfl)
                        clear he
                        go_wp2_with fail
                        refine (qbad_is g A n c sj false _ HUS.out.rd HEE.out).mono ?_
                        rintro e wb ⟨rfl, hwb⟩
                        rw [hwb]
                        clear hwb
                        go_wp2_with fail
                        go_meet
                        case rel => exact ⟨by rw [HV.out], rfl⟩
                    · have HV : Hid (t = false) := Lib.hid (by rw [HTT.out]; simp [hlt])
                      have t3 : decide ((j : Int) < (k3 : Int)) = false := by simp; omega
                      go_wp2_with fail
                      go_meet
                      case rel => exact ⟨by rw [HV.out], rfl⟩
                case rest =>
                obtain ⟨rfl, rfl⟩ := hcut
                cases t
                case true =>
                  as_aux_lemma =>
                    have htt := HTT.out.symm
                    rw [Bool.and_eq_true, decide_eq_true_eq] at htt
                    have hjk := htt.1
                    have hej : sj.err = none := by simpa using htt.2
                    have HEJ := Lib.hid hej
                    have hcl120 : code.length ≤ 120 := by have := HCD.out; omega
                    have HBU : Hid (But g W1 wr) := Lib.hid (HTS.out.bt.trans HUS.out.bt)
                    obtain ⟨WX, hWX⟩ : ∃ W, W = wr.alloc (.cells #[.int .i64 0, .int .i64 0, .int .i64 0, .int .i64 0] 56) := ⟨_, rfl⟩
                    obtain ⟨gi, hgi⟩ : ∃ x, x = wr.heap.size := ⟨_, rfl⟩
                    have HV0 : Hid (VS wr WX g A n c sj gi #[.int .i64 0, .int .i64 0, .int .i64 0, .int .i64 0]) := Lib.hid (by
                      rw [hWX, hgi]
                      exact ⟨HUS.out.rd.but ((Below.refl _ _).alloc (Nat.le_refl _) _), But.refl.alloc _, Blk.new _ _ _, Nat.le_refl _, by have := HGG.out; have := HBU.out.size; omega⟩)
                    obtain ⟨at_, hat_⟩ : ∃ a, a = sj.at_ := ⟨_, rfl⟩
                    have HAT := Lib.hid hat_
                    have HRK : Hid (Blk WX g 86 #[.slice A n c, .int .i64 (at_ : Int), .int .i64 0, .slice none 0 0]) := Lib.hid (by rw [hat_]; exact HV0.out.rd.open_ hej)
                    clear htt hej HTT hat_
                    go_upto_region 31 with fail
                    rw [← hWX, ← hgi]
                    clear hWX hgi
                    have x1' : WX.cell? ⟨g, 1, none⟩ = some (.int .i64 (at_ : Int)) := HRK.out.cell 1
                    have hgl := HRK.out.lt
                    obtain ⟨cB, sB, eB⟩ : ∃ y st, byteR l (fun _ => true) sj = (y, st) := ⟨_, _, rfl⟩
                    have EB := Lib.hid eB
                    have hcB : cB < 256 := by have := byteR_lt l (fun _ => true) sj HENV.out.byte; rw [eB] at this; exact this
                    clear eB
                    go_wp2_with fail
                    refine (qbyte_any (fun _ => true) true none 0 0 [] g A n c l sj _ (fun _ _ => rfl) Reads.none_ (by decide) HV0.out.rd (HENV.out.but (HBU.out.trans HV0.out.bt))).mono ?_
                    rintro e wy ⟨rfl, u1, u2⟩
                    rw [EB.out] at u1 ⊢
                    have HV1 := Lib.hid (HV0.out.call u1 u2)
                    clear u1 u2 HV0 x1' hgl HRK
                    have y0 : wy.cell? ⟨gi, 0, none⟩ = some (.int .i64 0) := HV1.out.bx.cell 0
                    have yf := HV1.out.bx.frozen 0
                    have gil := HV1.out.bx.lt
                    go_upto_region 33 with fail
                    obtain ⟨W2, hW2⟩ : ∃ W, W = wy.setCell ⟨gi, 0, none⟩ (.int .i64 (cB : Int)) := ⟨_, rfl⟩
                    rw [← hW2]
                    have HV2 : Hid (VS wr W2 g A n c sB gi #[.int .i64 (cB : Int), .int .i64 0, .int .i64 0, .int .i64 0]) := Lib.hid (by rw [hW2]; have := HV1.out.set 0 (.int .i64 (cB : Int)); simpa using this)
                    clear hW2 y0 yf gil HV1
                    have y0 : W2.cell? ⟨gi, 0, none⟩ = some (.int .i64 (cB : Int)) := HV2.out.bx.cell 0
                    have gil := HV2.out.bx.lt
                    obtain ⟨t8, ht8⟩ : ∃ t, t = (sB.err.isNone && !(mOp cB)) := ⟨_, rfl⟩
                    have HT8 := Lib.hid ht8
                    clear ht8
                    go_cut [126] from 114 to 127 (fun u wx => u = .bool t8 ∧ W2 = wx)
                    case first =>
                      as_aux_lemma =>
                        cases he : sB.err with
                        | some kp =>
                          have HV : Hid (t8 = false) := Lib.hid (by rw [HT8.out, he]; rfl)
                          have HB : Hid (sB.err.isSome = true) := Lib.hid (by rw [he]; rfl)
                          clear he
                          go_wp2_with fail
                          refine (qbad_is g A n c sB true _ HV2.out.rd HB.out).mono ?_
                          rintro e wz ⟨rfl, hwz⟩
                          rw [hwz]
                          clear hwz
                          go_wp2_with fail
                          go_meet
                          case rel => exact ⟨by rw [HV.out], rfl⟩
                        | none =>
                          have HB : Hid (sB.err.isSome = false) := Lib.hid (by rw [he]; rfl)
                          have HN : Hid (sB.err.isNone = true) := Lib.hid (by rw [he]; rfl)
                          clear he
                          by_cases hc1 : cB < 1
                          · have t1 : decide ((cB : Int) < 1) = true := by simp; omega
                            have HV : Hid (t8 = true) := Lib.hid (by rw [HT8.out, HN.out]; unfold mOp; simp; omega)
                            go_wp2_with fail
                            refine (qbad_is g A n c sB false _ HV2.out.rd HB.out).mono ?_
                            rintro e wz ⟨rfl, hwz⟩
                            rw [hwz]
                            clear hwz
                            go_wp2_with fail
                            go_meet
                            case rel => exact ⟨by rw [HV.out], rfl⟩
                          · have t1 : decide ((cB : Int) < 1) = false := by simp; omega
                            by_cases hc2 : 35 < cB
                            · have t2 : decide ((35 : Int) < (cB : Int)) = true := by simp; omega
                              have HV : Hid (t8 = true) := Lib.hid (by rw [HT8.out, HN.out]; unfold mOp; simp; omega)
                              go_wp2_with fail
                              refine (qbad_is g A n c sB false _ HV2.out.rd HB.out).mono ?_
                              rintro e wz ⟨rfl, hwz⟩
                              rw [hwz]
                              clear hwz
                              go_wp2_with fail
                              go_meet
                              case rel => exact ⟨by rw [HV.out], rfl⟩
                            · have t2 : decide ((35 : Int) < (cB : Int)) = false := by simp; omega
                              have HV : Hid (t8 = false) := Lib.hid (by rw [HT8.out, HN.out]; unfold mOp; simp; omega)
                              go_wp2_with fail
                              refine (qbad_is g A n c sB false _ HV2.out.rd HB.out).mono ?_
                              rintro e wz ⟨rfl, hwz⟩
                              rw [hwz]
                              clear hwz
                              go_wp2_with fail
                              go_meet
                              case rel => exact ⟨by rw [HV.out], rfl⟩
                    case rest =>
                    obtain ⟨rfl, rfl⟩ := hcut
                    obtain ⟨co, so, eo⟩ : ∃ y st, byteR l mOp sj = (y, st) := ⟨_, _, rfl⟩
                    have EO := Lib.hid eo
                    have HOR := Lib.hid (op_read HEJ.out EB.out eo)
                    have HOL := Lib.hid (op_like HOR.out)
                    clear eo
                    go_upto_if 126 with fail
                    go_cut [] from 127 to 130 (fun wx => VS wr wx g A n c so gi #[.int .i64 (cB : Int), .int .i64 0, .int .i64 0, .int .i64 0])
                    case first =>
                      as_aux_lemma =>
                        cases t8
                        case true =>
                          have HSB : Hid (sB.err = none ∧ mOp cB = false) := Lib.hid (by have := HT8.out.symm; simpa using this)
                          have HSO : Hid ((failR sB 6 at_).err = so.err ∧ (failR sB 6 at_).err ≠ none) := Lib.hid (by
                            have hf : (failR sB 6 at_).err = some (6, at_) := by unfold failR; rw [HSB.out.1]
                            rcases HOR.out with h | h | h
                            · exact absurd HSB.out.1 h.1
                            · rw [hf, h.2.2.2, HAT.out]; exact ⟨rfl, by simp⟩
                            · have := h.2.1; rw [HSB.out.2] at this; cases this)
                          go_wp2_with fail
                          refine (qfail_any g A n c sB 6 at_ 107 rfl _ HV2.out.rd).mono ?_
                          rintro e wf ⟨rfl, u1, u2⟩
                          have HVF := Lib.hid (HV2.out.call u1 u2)
                          clear u1 u2 y0 gil
                          go_wp2_with fail
                          go_meet
                          case rel => exact ⟨HVF.out.rd.same HSO.out.1 HSO.out.2, HVF.out.bt, HVF.out.bx, HVF.out.hx, HVF.out.hg⟩
                        case false =>
                          have HSO : Hid (so = sB) := Lib.hid (by
                            have h0 := HT8.out.symm
                            rcases HOR.out with h | h | h
                            · exact h.2.1
                            · rw [h.1, h.2.1] at h0; cases h0
                            · exact h.2.2.2)
                          go_wp2_with fail
                          go_meet
                          case rel => rw [HSO.out]; exact HV2.out
                    case rest =>
                    obtain ⟨WO, hWO⟩ : ∃ W, W = wc := ⟨_, rfl⟩
                    subst hWO
                    have HV3 := Lib.hid hcut
                    clear hcut HV2 y0 gil HT8 HOR
                    obtain ⟨aV, sA, eA⟩ : ∃ y st, insA l co so = (y, st) := ⟨_, _, rfl⟩
                    have EA := Lib.hid eA
                    obtain ⟨tA, hA⟩ : ∃ t, hasA (cB : Int) = t := ⟨_, rfl⟩
                    have HTA := Lib.hid hA
                    have y0 : WO.cell? ⟨gi, 0, none⟩ = some (.int .i64 (cB : Int)) := HV3.out.bx.cell 0
                    have gil := HV3.out.bx.lt
                    clear eA hA
                    go_wp2_with fail
                    refine (rusesA_is (cB : Int) tA HTA.out _).mono ?_
                    rintro e wz ⟨rfl, hwz⟩
                    rw [hwz]
                    clear hwz
                    go_upto_if 132 with fail
                    go_cut [] from 133 to 136 (fun wx => VS wr wx g A n c sA gi #[.int .i64 (cB : Int), .int .i64 (aV : Int), .int .i64 0, .int .i64 0])
                    case first =>
                      as_aux_lemma =>
                        cases tA
                        case true =>
                          have hh : hasA (co : Int) = true := by rw [← HOL.out.1]; exact HTA.out
                          have HNM : Hid (numberR l 0 1048576 so = (aV, sA)) := Lib.hid (by have := EA.out; unfold insA at this; rw [if_pos hh] at this; exact this)
                          clear hh
                          go_wp2_with fail
                          refine (qnumber_is 0 1048576 1048576 rfl _ (by decide) (by decide) g A n c l so _ HNM.out HV3.out.rd (HENV.out.but (HBU.out.trans HV3.out.bt))).mono ?_
                          rintro e wl ⟨rfl, u1, u2⟩
                          have HVF := Lib.hid (HV3.out.call u1 u2)
                          clear u1 u2 y0 gil
                          have y1 : wl.cell? ⟨gi, 1, none⟩ = some (.int .i64 0) := HVF.out.bx.cell 1
                          have yf := HVF.out.bx.frozen 1
                          have gil := HVF.out.bx.lt
                          go_wp2_with fail
                          go_meet
                          case rel => have := HVF.out.set 1 (.int .i64 (aV : Int)); simpa using this
                        case false =>
                          have hh : ¬ hasA (co : Int) = true := by rw [← HOL.out.1, HTA.out]; simp
                          have HNM : Hid (aV = 0 ∧ so = sA) := Lib.hid (by have := EA.out; unfold insA at this; rw [if_neg hh] at this; exact ⟨(congrArg Prod.fst this).symm, congrArg Prod.snd this⟩)
                          clear hh
                          go_wp2_with fail
                          go_meet
                          case rel => rw [← HNM.out.2, HNM.out.1]; exact HV3.out
                    case rest =>
                    obtain ⟨WA, hWc⟩ : ∃ W, W = wc := ⟨_, rfl⟩
                    subst hWc
                    have HV4 := Lib.hid hcut
                    clear hcut HV3 y0 gil HTA
                    obtain ⟨bV, sB', eB⟩ : ∃ y st, insB l co sA = (y, st) := ⟨_, _, rfl⟩
                    have EBB := Lib.hid eB
                    obtain ⟨tB, hB⟩ : ∃ t, hasB (cB : Int) = t := ⟨_, rfl⟩
                    have HTB := Lib.hid hB
                    have y0 : WA.cell? ⟨gi, 0, none⟩ = some (.int .i64 (cB : Int)) := HV4.out.bx.cell 0
                    have gil := HV4.out.bx.lt
                    clear eB hB
                    go_wp2_with fail
                    refine (rusesB_is (cB : Int) tB HTB.out _).mono ?_
                    rintro e wz ⟨rfl, hwz⟩
                    rw [hwz]
                    clear hwz
                    go_upto_if 138 with fail
                    go_cut [] from 139 to 142 (fun wx => VS wr wx g A n c sB' gi #[.int .i64 (cB : Int), .int .i64 (aV : Int), .int .i64 (bV : Int), .int .i64 0])
                    case first =>
                      as_aux_lemma =>
                        cases tB
                        case true =>
                          have hh : hasB (co : Int) = true := by rw [← HOL.out.2.1]; exact HTB.out
                          have HNM : Hid (numberR l 0 1048576 sA = (bV, sB')) := Lib.hid (by have := EBB.out; unfold insB at this; rw [if_pos hh] at this; exact this)
                          clear hh
                          go_wp2_with fail
                          refine (qnumber_is 0 1048576 1048576 rfl _ (by decide) (by decide) g A n c l sA _ HNM.out HV4.out.rd (HENV.out.but (HBU.out.trans HV4.out.bt))).mono ?_
                          rintro e wl ⟨rfl, u1, u2⟩
                          have HVF := Lib.hid (HV4.out.call u1 u2)
                          clear u1 u2 y0 gil
                          have y1 : wl.cell? ⟨gi, 2, none⟩ = some (.int .i64 0) := HVF.out.bx.cell 2
                          have yf := HVF.out.bx.frozen 2
                          have gil := HVF.out.bx.lt
                          go_wp2_with fail
                          go_meet
                          case rel => have := HVF.out.set 2 (.int .i64 (bV : Int)); simpa using this
                        case false =>
                          have hh : ¬ hasB (co : Int) = true := by rw [← HOL.out.2.1, HTB.out]; simp
                          have HNM : Hid (bV = 0 ∧ sA = sB') := Lib.hid (by have := EBB.out; unfold insB at this; rw [if_neg hh] at this; exact ⟨(congrArg Prod.fst this).symm, congrArg Prod.snd this⟩)
                          clear hh
                          go_wp2_with fail
                          go_meet
                          case rel => rw [← HNM.out.2, HNM.out.1]; exact HV4.out
                    case rest =>
                    obtain ⟨WB, hWc⟩ : ∃ W, W = wc := ⟨_, rfl⟩
                    subst hWc
                    have HV5 := Lib.hid hcut
                    clear hcut HV4 y0 gil HTB
                    obtain ⟨nV, sN, eN⟩ : ∃ y st, insN l co sB' = (y, st) := ⟨_, _, rfl⟩
                    have EN := Lib.hid eN
                    obtain ⟨zV, hzV⟩ : ∃ z : Int, z = if co = 1 then zag (nV : Int) else 0 := ⟨_, rfl⟩
                    have HZV := Lib.hid hzV
                    have y0 : WB.cell? ⟨gi, 0, none⟩ = some (.int .i64 (cB : Int)) := HV5.out.bx.cell 0
                    have gil := HV5.out.bx.lt
                    clear eN hzV
                    go_upto_if 144 with fail
                    go_cut [] from 145 to 149 (fun wx => VS wr wx g A n c sN gi #[.int .i64 (cB : Int), .int .i64 (aV : Int), .int .i64 (bV : Int), .int .i64 zV])
                    case first =>
                      as_aux_lemma =>
                        by_cases hc1 : cB = 1
                        · have hco : co = 1 := HOL.out.2.2.1.1 hc1
                          have t1 : ((cB : Int) == 1) = true := by rw [hc1]; rfl
                          have HWN : Hid (wholeR l sB' = (nV, sN)) := Lib.hid (by have := EN.out; unfold insN at this; rw [if_pos hco] at this; exact this)
                          have HZ : Hid (zV = zag (nV : Int)) := Lib.hid (by rw [HZV.out, if_pos hco])
                          have HUN : Hid (U64 nV) := Lib.hid (by have := whole_u64 l sB' HENV.out.byte; rw [HWN.out] at this; exact this)
                          clear hco
                          subst hc1
                          go_wp2_with fail
                          refine (qlong_any g A n c l sB' _ HV5.out.rd (HENV.out.but (HBU.out.trans HV5.out.bt))).mono ?_
                          rintro e wl ⟨rfl, u1, u2⟩
                          rw [HWN.out] at u1 ⊢
                          have HV6 := Lib.hid (HV5.out.call u1 u2)
                          clear u1 u2 y0 gil
                          go_wp2_with fail
                          refine (rzag_any nV HUN.out _).mono ?_
                          rintro e wz ⟨rfl, hwz⟩
                          rw [← hwz]
                          clear hwz
                          rw [← HZ.out]
                          have y3 : wl.cell? ⟨gi, 3, none⟩ = some (.int .i64 0) := HV6.out.bx.cell 3
                          have yf := HV6.out.bx.frozen 3
                          have gil := HV6.out.bx.lt
                          go_wp2_with fail
                          go_meet
                          case rel => have := HV6.out.set 3 (.int .i64 zV); simpa using this
                        · have hco : ¬ co = 1 := fun h => hc1 (HOL.out.2.2.1.2 h)
                          have t1 : ((cB : Int) == 1) = false := by rw [beq_eq_false_iff_ne]; omega
                          have HWN : Hid (sB' = sN ∧ zV = 0) := Lib.hid ⟨by have := EN.out; unfold insN at this; rw [if_neg hco] at this; exact congrArg Prod.snd this, by rw [HZV.out, if_neg hco]⟩
                          clear hco
                          go_wp2_with fail
                          go_meet
                          case rel => rw [← HWN.out.1, HWN.out.2]; exact HV5.out
                    case rest =>
                    obtain ⟨WN, hWN⟩ : ∃ W, W = wc := ⟨_, rfl⟩
                    subst hWN
                    have HV6 := Lib.hid hcut
                    clear hcut HV5 y0 gil
                    have HIR : Hid (instrR l sj = (⟨(co : Int), (aV : Int), (bV : Int), zV⟩, sN)) := Lib.hid (by
                      rw [instr_good l sj so co EO.out, EA.out]
                      simp only []
                      rw [EBB.out]
                      simp only []
                      rw [EN.out, HZV.out])
                    have HIC : Hid (sN.err = none → cB = co) := Lib.hid (fun h => HOL.out.2.2.2 (ins_clean EA.out EBB.out EN.out h))
                    have HUN : Hid (US WR WN g A n c sN gm q0 q1 q2 vc code) := Lib.hid (HUS.out.call HV6.out.rd HV6.out.bt)
                    have y0 : WN.cell? ⟨gi, 0, none⟩ = some (.int .i64 (cB : Int)) := HV6.out.bx.cell 0
                    have y1 : WN.cell? ⟨gi, 1, none⟩ = some (.int .i64 (aV : Int)) := HV6.out.bx.cell 1
                    have y2 : WN.cell? ⟨gi, 2, none⟩ = some (.int .i64 (bV : Int)) := HV6.out.bx.cell 2
                    have y3 : WN.cell? ⟨gi, 3, none⟩ = some (.int .i64 zV) := HV6.out.bx.cell 3
                    have gil := HV6.out.bx.lt
                    have m3' : WN.cell? ⟨gm, 3, none⟩ = some vc := HUN.out.bm.cell 3
                    have gml := HUN.out.bm.lt
                    clear EA EBB EN HZV EO HOL EB
                    go_wp2_with (at_builtin
                                 go_must (refine wpList_append_any _ rfl (.tmp 150) (.tmp 152) _ rfl WR.heap.size 56 k0' _ 4 32 Tryd.underlying52 hk0' hw0' hw1' hw2' rfl (by omega) vc code.length (insL code) rfl (by exact own_below HUN.out.oi ((Below.refl _ _).alloc (Nat.le_refl _) _)) _ (some ⟨WN.heap.size, 0, none⟩) 1 1 (insC ⟨(cB : Int), (aV : Int), (bV : Int), zV⟩) rfl (by exact reads_newS _ _ _ 4 1 _ rfl rfl) (insC_one _) (by unfold maxLen; omega) (by omega) (by have := HUN.out.bt.size; simp; omega) ?_)
                                 intro v3 w8 hown2 hg2 hat2
                                 obtain ⟨A2, c2, hv2, hrr2⟩ := own_reads hown2
                                 clear hrr2 hat2
                                 subst hv2
                                 have HX8 : Hid (Blk w8 gm 54 #[.string q0, .string q1, .string q2, vc]) := Lib.hid ((HUN.out.bm.alloc _).grown hg2 (fun e => own_blk_ne HUN.out.oi HUN.out.bm (by decide) e.symm))
                                 have hc8 : w8.cell? ⟨gm, 3, none⟩ = some vc := HX8.out.cell 3
                                 have hf8 := HX8.out.frozen 3
                                 have hl8 : gm < w8.heap.size := HX8.out.lt)
                    have HTN : Hid (timesR (instrR l) (j + 1) st3 = ((timesR (instrR l) j st3).1 ++ [⟨(co : Int), (aV : Int), (bV : Int), zV⟩], sN)) := Lib.hid (by show ((timesR (instrR l) j st3).1 ++ [(instrR l (timesR (instrR l) j st3).2).1], (instrR l (timesR (instrR l) j st3).2).2) = _; rw [← HSJ.out, HIR.out])
                    have HNX : Hid (US WR (w8.setCell ⟨gm, 3, none⟩ (.slice A2 (code.length + 1) c2)) g A n c (timesR (instrR l) (j + 1) st3).2 gm q0 q1 q2 (.slice A2 (code.length + 1) c2) (code ++ [⟨(cB : Int), (aV : Int), (bV : Int), zV⟩])) := Lib.hid (by rw [HTN.out]; exact HUN.out.app _ ⟨(cB : Int), (aV : Int), (bV : Int), zV⟩ hown2 hg2 rfl)
                    have HDN : Hid ((timesR (instrR l) (j + 1) st3).2.err = none → code ++ [⟨(cB : Int), (aV : Int), (bV : Int), zV⟩] = (timesR (instrR l) (j + 1) st3).1) := Lib.hid (fun h0 => by
                      rw [HTN.out] at h0 ⊢
                      rw [HDC.out (by rw [← HSJ.out]; exact HEJ.out), HIC.out h0])
                    clear HX8 hc8 hf8 hl8 hown2 hg2 y0 y1 y2 y3 gil m3' gml
                    go_roundw
                    case rel => exact ⟨j + 1, _, _, by omega, by go_num, HNX.out, by rw [List.length_append, HCD.out]; rfl, HDN.out⟩
                    case measure => simp [intOf]; omega
                case false =>
                  as_aux_lemma =>
                    have htt := HTT.out.symm
                    have HS5 : Hid ((timesR (instrR l) k3 st3).2 = sj ∧ (sj.err = none → code = (timesR (instrR l) k3 st3).1)) := Lib.hid (by
                      cases he : sj.err with
                      | none =>
                        rw [he] at htt
                        have hjk : j = k3 := by simp at htt; omega
                        subst hjk
                        exact ⟨HSJ.out.symm, fun _ => HDC.out (by rw [← HSJ.out]; exact he)⟩
                      | some kp => exact ⟨by rw [HSJ.out]; exact times_to instr_stay l st3 hj (by rw [← HSJ.out, he]; simp), fun h0 => by cases h0⟩)
                    have hcl120 : code.length ≤ 120 := by have := HCD.out; omega
                    obtain ⟨Ac, cc, hvc, hrc⟩ := own_reads HUS.out.oi
                    clear hrc htt HTT
                    subst hvc
                    have HTZ : Hid (TS W1 wr g A n c sj gp v v2 cls ms) := Lib.hid (HTS.out.call HUS.out.rd HUS.out.bt)
                    have HCO : Hid (codeOwn wr W1.heap.size ⟨⟨q0.toList, q1.toList, q2.toList, code⟩, Ac, cc⟩) := Lib.hid (own_base HUS.out.oi HTS.out.bt.size)
                    have z1 : wr.cell? ⟨gp, 1, none⟩ = some v2 := HTZ.out.bp.cell 1
                    have gpl := HTZ.out.bp.lt
                    have y0 : wr.cell? ⟨gm, 0, none⟩ = some (.string q0) := HUS.out.bm.cell 0
                    have y1 : wr.cell? ⟨gm, 1, none⟩ = some (.string q1) := HUS.out.bm.cell 1
                    have y2 : wr.cell? ⟨gm, 2, none⟩ = some (.string q2) := HUS.out.bm.cell 2
                    have y3 : wr.cell? ⟨gm, 3, none⟩ = some (.slice Ac code.length cc) := HUS.out.bm.cell 3
                    have gml := HUS.out.bm.lt
                    go_wp2_with (at_builtin
                                 go_must (refine wpList_append_any _ rfl (.tmp 156) (.tmp 158) _ rfl W1.heap.size 54 i0 _ 4 72 Tryd.underlying23 hi0 hz0 hz1 hz2 rfl (by omega) v2 ms.length (ms.flatMap mvC) rfl (by exact own_below HTZ.out.o2 ((Below.refl _ _).alloc (Nat.le_refl _) _)) _ (some ⟨wr.heap.size, 0, none⟩) 1 1 (mvC ⟨⟨q0.toList, q1.toList, q2.toList, code⟩, Ac, cc⟩) rfl (by exact reads_newS _ _ _ 4 1 _ (by simp [mvC, strV_toList]) rfl) (mvC_one _) (by unfold maxLen; omega) (by omega) (by have := HTZ.out.bt.size; simp; omega) ?_)
                                 intro v3 w8 hown2 hg2 hat2
                                 obtain ⟨A2, c2, hv2, hrr2⟩ := own_reads hown2
                                 clear hrr2 hat2
                                 subst hv2
                                 have HP8 : Hid (Blk w8 gp 25 #[v, v2]) := Lib.hid ((HTZ.out.bp.alloc _).grown hg2 (fun e => own_blk_ne HTZ.out.o2 HTZ.out.bp (by decide) e.symm))
                                 have hc8 : w8.cell? ⟨gp, 1, none⟩ = some v2 := HP8.out.cell 1
                                 have hf8 := HP8.out.frozen 1
                                 have hl8 : gp < w8.heap.size := HP8.out.lt)
                    have HTN : Hid (timesR (methodR l) (i + 1) s3 = ((timesR (methodR l) i s3).1 ++ [⟨strB x0, strB x1, retL x, (timesR (instrR l) k3 st3).1⟩], sj)) := Lib.hid (by show ((timesR (methodR l) i s3).1 ++ [(methodR l (timesR (methodR l) i s3).2).1], (methodR l (timesR (methodR l) i s3).2).2) = _; rw [← HSI.out, HMR.out, HS5.out.1])
                    have HNX : Hid (TS W1 (w8.setCell ⟨gp, 1, none⟩ (.slice A2 (ms.length + 1) c2)) g A n c (timesR (methodR l) (i + 1) s3).2 gp v (.slice A2 (ms.length + 1) c2) cls (ms ++ [⟨⟨q0.toList, q1.toList, q2.toList, code⟩, Ac, cc⟩])) := Lib.hid (by rw [HTN.out]; exact HTZ.out.app2 _ ⟨⟨q0.toList, q1.toList, q2.toList, code⟩, Ac, cc⟩ HCO.out hown2 hg2 rfl)
                    have HDN : Hid ((timesR (methodR l) (i + 1) s3).2.err = none → (ms ++ [(⟨⟨q0.toList, q1.toList, q2.toList, code⟩, Ac, cc⟩ : MV)]).map (·.m) = (timesR (methodR l) (i + 1) s3).1) := Lib.hid (fun h0 => by
                      have h1 := HMC.out (by rw [HTN.out] at h0; rw [HS5.out.1]; exact h0)
                      have h2 := HS5.out.2 (by rw [HTN.out] at h0; exact h0)
                      rw [HTN.out, List.map_append, HD.out (by rw [← HSI.out]; exact HEE.out)]
                      simp only [List.map_cons, List.map_nil]
                      rw [HQD0.out h1.1, HQD1.out h1.2, HQ2.out, ← h2])
                    have HMBN : Hid (∀ y ∈ ms ++ [(⟨⟨q0.toList, q1.toList, q2.toList, code⟩, Ac, cc⟩ : MV)], y.m.par.length ≤ 12 ∧ y.m.loc.length ≤ 12 ∧ y.m.code.length ≤ 120) := Lib.hid (fun y hy => by
                      rcases List.mem_append.1 hy with hy | hy
                      · exact HMB.out y hy
                      · rw [List.mem_singleton.1 hy]
                        refine ⟨?_, ?_, hcl120⟩
                        · show q0.toList.length ≤ 12
                          rw [size_toL]; omega
                        · show q1.toList.length ≤ 12
                          rw [size_toL]; have := HQS1.out; omega)
                    clear HP8 hc8 hf8 hl8 hown2 hg2 y0 y1 y2 y3 gml gpl z1
                    go_roundw
                    case rel => exact ⟨i + 1, _, _, by omega, by go_num, HNX.out, by rw [List.length_append, HML.out]; rfl, HMBN.out, HDN.out⟩
                    case measure => simp [intOf]; omega
          case false =>
            as_aux_lemma =>
              have htt := HTT.out.symm
              have HS4 : Hid ((timesR (methodR l) m3 s3).2 = si ∧ (si.err = none → ms.map (·.m) = (timesR (methodR l) m3 s3).1)) := Lib.hid (by
                cases he : si.err with
                | none =>
                  rw [he] at htt
                  have him : i = m3 := by simp at htt; omega
                  subst him
                  exact ⟨HSI.out.symm, fun _ => HD.out (by rw [← HSI.out]; exact he)⟩
                | some kp => exact ⟨by rw [HSI.out]; exact times_to method_stay l s3 hi (by rw [← HSI.out, he]; simp), fun h0 => by cases h0⟩)
              have HS3E : Hid (si.err = none → s3.err = none) := Lib.hid (by
                intro h0
                cases he : s3.err with
                | none => rfl
                | some kp =>
                  have h1 : (timesR (methodR l) i s3).2 = s3 := times_stay method_stay l i s3 (by rw [he]; simp)
                  rw [HSI.out, h1, he] at h0
                  cases h0)
              have hml12 : ms.length ≤ 12 := by have := HML.out; omega
              have HPG : Hid (si.err = none → (progR l).1 = ⟨cls, ms.map (·.m)⟩) := Lib.hid (fun h0 => by rw [HPR.out.2, HS4.out.2 h0, HS2.out.2 (HS3.out (HS3E.out h0))])
              have HPS : Hid ((progR l).2 = if si.at_ < n then failR si 6 si.at_ else si) := Lib.hid (by rw [HPR.out.1, HS4.out.1, HL.out])
              clear htt HD HTT hi HPR HS4
              cases he : si.err with
              | some kp =>
                as_aux_lemma =>
                  have HEE : Hid (si.err = some kp) := Lib.hid he
                  have HF : Hid (decP l = (none, some (kp.1, [(kp.2 : Int)]))) := Lib.hid (by
                    have e : (progR l).2.err = some kp := by
                      rw [HPS.out]
                      split
                      · unfold failR; rw [he]; exact he
                      · exact he
                    rw [HDP.out, e])
                  clear he
                  go_wp2_with fail
                  refine (qbad_is g A n c si true _ HTS.out.rd (by rw [HEE.out]; rfl)).mono ?_
                  rintro e wb ⟨rfl, hwb⟩
                  rw [hwb]
                  clear hwb
                  go_wp2_with fail
                  refine (qbad_is g A n c si true _ HTS.out.rd (by rw [HEE.out]; rfl)).mono ?_
                  rintro e wb ⟨rfl, hwb⟩
                  rw [hwb]
                  clear hwb
                  obtain ⟨aq, bq, hgb, hkr, hki⟩ := HTS.out.rd.shut HEE.out
                  have HKR : Hid (Blk wr g 86 #[.slice A n c, .int .i64 aq, .int .i64 (101 + (kp.1 : Int)), .slice (some ⟨bq, 0, none⟩) 1 1]) := Lib.hid hkr
                  have HKI : Hid (Blk wr bq 3 #[.int .i64 (kp.2 : Int)]) := Lib.hid hki
                  have HGB := Lib.hid hgb
                  have q2 : wr.cell? ⟨g, 2, none⟩ = some (.int .i64 (101 + (kp.1 : Int))) := HKR.out.cell 2
                  have q3 : wr.cell? ⟨g, 3, none⟩ = some (.slice (some ⟨bq, 0, none⟩) 1 1) := HKR.out.cell 3
                  have gql := HKR.out.lt
                  have HQ0 : Hid (Blk wr r0 25 #[.slice none 0 0, .slice none 0 0]) := Lib.hid (HTS.out.bt.blk HR0.out (by have := HGG.out; omega))
                  have HQ1 : Hid (Blk wr r1 35 #[.int .i64 0, .slice none 0 0]) := Lib.hid (HTS.out.bt.blk HR1.out (by have := HGG.out; omega))
                  have HBF : Hid (Below w.heap.size w wr) := Lib.hid (HBW.out.trans (HTS.out.bt.below HGG.out.2.2.2.2.2 HBW.out.size))
                  have HRB : Hid (Reads wr wr.heap.size 1 (some ⟨bq, 0, none⟩) 1 [.int .i64 (kp.2 : Int)]) := Lib.hid (by exact reads_blk1 HKI.out)
                  have HAF : Hid (∀ a, (some ⟨bq, 0, none⟩ : Option Addr) = some a → a.block ≠ r0 ∧ a.block ≠ r1) := Lib.hid (fun a h => by cases h; have := HGB.out; have := HGG.out; exact ⟨fun e => by simp only at e; omega, fun e => by simp only at e; omega⟩)
                  clear hgb hkr hki
                  have c0 : wr.cell? ⟨r0, 0, none⟩ = some (.slice none 0 0) := HQ0.out.cell 0
                  have c1 : wr.cell? ⟨r0, 1, none⟩ = some (.slice none 0 0) := HQ0.out.cell 1
                  have c2 : wr.cell? ⟨r1, 0, none⟩ = some (.int .i64 0) := HQ1.out.cell 0
                  have c3 : wr.cell? ⟨r1, 1, none⟩ = some (.slice none 0 0) := HQ1.out.cell 1
                  have f0 := HQ0.out.frozen 0
                  have f1 := HQ0.out.frozen 1
                  have f2 := HQ1.out.frozen 0
                  have f3 := HQ1.out.frozen 1
                  have g0 := HQ0.out.lt
                  have g1 := HQ1.out.lt
                  have hne : r0 ≠ r1 := Blk.ne_ HQ0.out HQ1.out (by decide)
                  have hne2 : g ≠ r0 := by have := HGG.out; omega
                  have hne3 : g ≠ r1 := by have := HGG.out; omega
                  go_wp2_with fail
                  go_region
                  all_goals go_wp2
                  all_goals (
                    refine bodyPost_ret (v := .tuple #[.agg #[.slice none 0 0, .slice none 0 0], fV (101 + (kp.1 : Int)) (.slice (some ⟨bq, 0, none⟩) 1 1)]) ?_ rfl ?_
                    · simp [results, Tryd.results18, go_sem, fV, c0, c1, c2, c3]
                    · rw [HF.out]
                      first
                        | exact rfin (o := (none, some (kp.1, [(kp.2 : Int)]))) (p := ⟨[], none, 0, [], none, 0⟩) _ _ _ _ HBF.out HGG.out.1 HGG.out.2.1 HQ0.out HQ1.out ⟨Reads.none_, Reads.none_, fun x hx => by cases hx⟩ (fun a h => by cases h) (fun a h => by cases h) (fun x hx => by cases hx) HAF.out HRB.out rfl rfl rfl
                        | exact rfin (o := (none, some (kp.1, [(kp.2 : Int)]))) (p := ⟨[], none, 0, [], none, 0⟩) _ _ _ _ HBF.out.drew HGG.out.1 HGG.out.2.1 HQ0.out.drew HQ1.out.drew ⟨Reads.none_, Reads.none_, fun x hx => by cases hx⟩ (fun a h => by cases h) (fun a h => by cases h) (fun x hx => by cases hx) HAF.out HRB.out rfl rfl rfl)
              | none =>
                by_cases hat : si.at_ < n
                · as_aux_lemma =>
                    have HEE : Hid (si.err = none) := Lib.hid he
                    have t8' : decide ((si.at_ : Int) < (n : Int)) = true := by simp; omega
                    have t8'' : decide (si.at_ < n) = true := by simpa using hat
                    have HF : Hid (decP l = (none, some (6, [(si.at_ : Int)]))) := Lib.hid (by
                      have e : (progR l).2.err = some (6, si.at_) := by
                        rw [HPS.out, if_pos hat]
                        unfold failR
                        rw [he]
                      rw [HDP.out, e])
                    have HF2 : Hid ((failR si 6 si.at_).err = some (6, si.at_)) := Lib.hid (by unfold failR; rw [he])
                    have hbk := HTS.out.rd.open_ he
                    have x1 : wr.cell? ⟨g, 1, none⟩ = some (.int .i64 (si.at_ : Int)) := hbk.cell 1
                    have hgl := hbk.lt
                    clear he hbk hat
                    go_wp2_with fail
                    refine (qbad_is g A n c si false _ HTS.out.rd (by rw [HEE.out]; rfl)).mono ?_
                    rintro e wb ⟨rfl, hwb⟩
                    rw [hwb]
                    clear hwb
                    go_wp2_with fail
                    refine (qfail_any g A n c si 6 si.at_ 107 rfl _ HTS.out.rd).mono ?_
                    rintro e wf ⟨rfl, u1, u2⟩
                    have HTF := Lib.hid (HTS.out.call u1 u2)
                    clear u1 u2 x1 hgl
                    go_wp2_with fail
                    refine (qbad_is g A n c (failR si 6 si.at_) true _ HTF.out.rd (by rw [HF2.out]; rfl)).mono ?_
                    rintro e wb ⟨rfl, hwb⟩
                    rw [hwb]
                    clear hwb
                    obtain ⟨aq, bq, hgb, hkr, hki⟩ := HTF.out.rd.shut HF2.out
                    have HKR : Hid (Blk wf g 86 #[.slice A n c, .int .i64 aq, .int .i64 (101 + (6 : Int)), .slice (some ⟨bq, 0, none⟩) 1 1]) := Lib.hid hkr
                    have HKI : Hid (Blk wf bq 3 #[.int .i64 (si.at_ : Int)]) := Lib.hid hki
                    have HGB := Lib.hid hgb
                    have q2 : wf.cell? ⟨g, 2, none⟩ = some (.int .i64 (101 + (6 : Int))) := HKR.out.cell 2
                    have q3 : wf.cell? ⟨g, 3, none⟩ = some (.slice (some ⟨bq, 0, none⟩) 1 1) := HKR.out.cell 3
                    have gql := HKR.out.lt
                    have HQ0 : Hid (Blk wf r0 25 #[.slice none 0 0, .slice none 0 0]) := Lib.hid (HTF.out.bt.blk HR0.out (by have := HGG.out; omega))
                    have HQ1 : Hid (Blk wf r1 35 #[.int .i64 0, .slice none 0 0]) := Lib.hid (HTF.out.bt.blk HR1.out (by have := HGG.out; omega))
                    have HBF : Hid (Below w.heap.size w wf) := Lib.hid (HBW.out.trans (HTF.out.bt.below HGG.out.2.2.2.2.2 HBW.out.size))
                    have HRB : Hid (Reads wf wf.heap.size 1 (some ⟨bq, 0, none⟩) 1 [.int .i64 (si.at_ : Int)]) := Lib.hid (by exact reads_blk1 HKI.out)
                    have HAF : Hid (∀ a, (some ⟨bq, 0, none⟩ : Option Addr) = some a → a.block ≠ r0 ∧ a.block ≠ r1) := Lib.hid (fun a h => by cases h; have := HGB.out; have := HGG.out; exact ⟨fun e => by simp only at e; omega, fun e => by simp only at e; omega⟩)
                    clear hgb hkr hki
                    have c0 : wf.cell? ⟨r0, 0, none⟩ = some (.slice none 0 0) := HQ0.out.cell 0
                    have c1 : wf.cell? ⟨r0, 1, none⟩ = some (.slice none 0 0) := HQ0.out.cell 1
                    have c2 : wf.cell? ⟨r1, 0, none⟩ = some (.int .i64 0) := HQ1.out.cell 0
                    have c3 : wf.cell? ⟨r1, 1, none⟩ = some (.slice none 0 0) := HQ1.out.cell 1
                    have f0 := HQ0.out.frozen 0
                    have f1 := HQ0.out.frozen 1
                    have f2 := HQ1.out.frozen 0
                    have f3 := HQ1.out.frozen 1
                    have g0 := HQ0.out.lt
                    have g1 := HQ1.out.lt
                    have hne : r0 ≠ r1 := Blk.ne_ HQ0.out HQ1.out (by decide)
                    have hne2 : g ≠ r0 := by have := HGG.out; omega
                    have hne3 : g ≠ r1 := by have := HGG.out; omega
                    go_wp2_with fail
                    go_region
                    all_goals go_wp2
                    all_goals (
                      refine bodyPost_ret (v := .tuple #[.agg #[.slice none 0 0, .slice none 0 0], fV (101 + (6 : Int)) (.slice (some ⟨bq, 0, none⟩) 1 1)]) ?_ rfl ?_
                      · simp [results, Tryd.results18, go_sem, fV, c0, c1, c2, c3]
                      · rw [HF.out]
                        first
                          | exact rfin (o := (none, some (6, [(si.at_ : Int)]))) (p := ⟨[], none, 0, [], none, 0⟩) _ _ _ _ HBF.out HGG.out.1 HGG.out.2.1 HQ0.out HQ1.out ⟨Reads.none_, Reads.none_, fun x hx => by cases hx⟩ (fun a h => by cases h) (fun a h => by cases h) (fun x hx => by cases hx) HAF.out HRB.out rfl rfl rfl
                          | exact rfin (o := (none, some (6, [(si.at_ : Int)]))) (p := ⟨[], none, 0, [], none, 0⟩) _ _ _ _ HBF.out.drew HGG.out.1 HGG.out.2.1 HQ0.out.drew HQ1.out.drew ⟨Reads.none_, Reads.none_, fun x hx => by cases hx⟩ (fun a h => by cases h) (fun a h => by cases h) (fun x hx => by cases hx) HAF.out HRB.out rfl rfl rfl)
                · as_aux_lemma =>
                    have HEE : Hid (si.err = none) := Lib.hid he
                    have t8' : decide ((si.at_ : Int) < (n : Int)) = false := by simp; omega
                    have t8'' : decide (si.at_ < n) = false := by simpa using hat
                    have HF : Hid (decP l = match mayP ⟨cls, ms.map (·.m)⟩ with
                        | some f => (none, some f)
                        | none => (some ⟨cls, ms.map (·.m)⟩, none)) := Lib.hid (by
                      have e : (progR l).2.err = none := by
                        rw [HPS.out, if_neg hat]
                        exact he
                      rw [HDP.out, e, HPG.out he])
                    have hbk := HTS.out.rd.open_ he
                    have x1 : wr.cell? ⟨g, 1, none⟩ = some (.int .i64 (si.at_ : Int)) := hbk.cell 1
                    have hgl := hbk.lt
                    clear he hbk
                    go_wp2_with fail
                    refine (qbad_is g A n c si false _ HTS.out.rd (by rw [HEE.out]; rfl)).mono ?_
                    rintro e wb ⟨rfl, hwb⟩
                    rw [hwb]
                    clear hwb
                    go_wp2_with fail
                    refine (qbad_is g A n c si false _ HTS.out.rd (by rw [HEE.out]; rfl)).mono ?_
                    rintro e wb ⟨rfl, hwb⟩
                    rw [hwb]
                    clear hwb hat t8' t8'' x1
                    obtain ⟨Ac, cc, hv1, hr1⟩ := own_reads HTS.out.o1
                    obtain ⟨Am, cm, hv2, hr2⟩ := own_reads HTS.out.o2
                    subst hv1 hv2
                    obtain ⟨pv, hpv⟩ : ∃ pv : PV, pv = ⟨cls, Ac, cc, ms, Am, cm⟩ := ⟨_, rfl⟩
                    have hfar : PFar W1.heap.size pv := by
                      rw [hpv]
                      exact ⟨own_at HTS.out.o1, own_at HTS.out.o2, fun x hx => own_at (HTS.out.oc x hx)⟩
                    have hpat : PAt wr wr.heap.size pv := by rw [hpv]; exact ⟨hr1, hr2, fun x hx => Reads.of_own (HTS.out.oc x hx)⟩
                    have hval : pv.val = .agg #[.slice Ac cls.length cc, .slice Am ms.length cm] := by rw [hpv]; rfl
                    have hprg : pv.prg = ⟨cls, ms.map (·.m)⟩ := by rw [hpv]; rfl
                    have HMAY : Hid (Calls Tryd.prog 12 #[.agg #[.slice Ac cls.length cc, .slice Am ms.length cm]] wr (FaultPost wr (fltC (mayP ⟨cls, ms.map (·.m)⟩)) (fltL (mayP ⟨cls, ms.map (·.m)⟩)))) := Lib.hid (by
                      have := rmay_any pv wr hpat (fun y hy => by rw [hpv] at hy; have := HC10.out y hy; unfold maxLen; omega) (by rw [hpv]; show cls.length ≤ maxLen; unfold maxLen; omega) (by rw [hpv]; show ms.length ≤ maxLen; unfold maxLen; omega) (fun x hx => by rw [hpv] at hx; have := HMB.out x hx; unfold maxLen; omega)
                      rw [hval, hprg] at this
                      exact this)
                    have HPV := Lib.hid (show PFar W1.heap.size pv ∧ PAt wr wr.heap.size pv ∧ pv.val = .agg #[.slice Ac cls.length cc, .slice Am ms.length cm] ∧ pv.prg = ⟨cls, ms.map (·.m)⟩ from ⟨hfar, hpat, hval, hprg⟩)
                    have x0 : wr.cell? ⟨gp, 0, none⟩ = some (.slice Ac cls.length cc) := HTS.out.bp.cell 0
                    have x1 : wr.cell? ⟨gp, 1, none⟩ = some (.slice Am ms.length cm) := HTS.out.bp.cell 1
                    have gpl := HTS.out.bp.lt
                    clear hr1 hr2 hpv hfar hpat hval hprg hgl
                    go_wp2_with fail
                    refine HMAY.out.mono ?_
                    rintro e wm ⟨Af, df, rfl, hrf, hAf, hbm⟩
                    have HTM := Lib.hid (HTS.out.next hbm)
                    have HRF := Lib.hid hrf
                    have HPM : Hid (PAt wm wm.heap.size pv) := Lib.hid (HPV.out.2.1.next hbm)
                    have HAF : Hid (∀ a, Af = some a → a.block ≠ r0 ∧ a.block ≠ r1) := Lib.hid (fun a h => by have := hAf a h; have := HGG.out; have := HTS.out.bt.size; omega)
                    have HPF : Hid ((∀ a, pv.A = some a → a.block ≠ r0 ∧ a.block ≠ r1) ∧ (∀ a, pv.B = some a → a.block ≠ r0 ∧ a.block ≠ r1) ∧ ∀ x ∈ pv.ms, ∀ a, x.A = some a → a.block ≠ r0 ∧ a.block ≠ r1) := Lib.hid ⟨fun a h => by have := HPV.out.1.1 a h; have := HGG.out; omega, fun a h => by have := HPV.out.1.2.1 a h; have := HGG.out; omega, fun x hx a h => by have := HPV.out.1.2.2 x hx a h; have := HGG.out; omega⟩
                    obtain ⟨o, ho⟩ : ∃ o, o = mayP ⟨cls, ms.map (·.m)⟩ := ⟨_, rfl⟩
                    rw [← ho] at HRF HF ⊢
                    unfold fV
                    obtain ⟨cf, hcf⟩ : ∃ x, x = fltC o := ⟨_, rfl⟩
                    obtain ⟨nf, hnf⟩ : ∃ x, x = (fltL o).length := ⟨_, rfl⟩
                    rw [← hcf, ← hnf]
                    rw [← hnf] at HRF
                    have HCF := Lib.hid hcf
                    have HNF := Lib.hid hnf
                    obtain ⟨WF, hWF⟩ : ∃ W, W = wm.alloc (.cells #[.int .i64 cf, .slice Af nf df] 35) := ⟨_, rfl⟩
                    obtain ⟨gf, hgf⟩ : ∃ x, x = wm.heap.size := ⟨_, rfl⟩
                    have hbF : Below wm.heap.size wm WF := by rw [hWF]; exact (Below.refl _ _).alloc (Nat.le_refl _) _
                    have HTW := Lib.hid (HTM.out.next hbF)
                    have HFB : Hid (Blk WF gf 35 #[.int .i64 cf, .slice Af nf df]) := Lib.hid (by rw [hWF, hgf]; exact Blk.new _ _ _)
                    have HRW : Hid (Reads WF WF.heap.size 1 Af nf ((fltL o).map (Value.int .i64))) := Lib.hid ((HRF.out.below hbF).more hbF.size)
                    have HPW : Hid (PAt WF WF.heap.size pv) := Lib.hid (HPM.out.next hbF)
                    have HGF : Hid (gf ≠ r0 ∧ gf ≠ r1) := Lib.hid (by have := HGG.out; have := HTM.out.bt.size; omega)
                    clear ho hcf hnf hrf hAf hbm x0 x1 gpl hbF
                    go_upto_region 48 with fail
                    rw [← hWF, ← hgf]
                    clear hWF hgf
                    have x0 : WF.cell? ⟨gp, 0, none⟩ = some (.slice Ac cls.length cc) := HTW.out.bp.cell 0
                    have x1 : WF.cell? ⟨gp, 1, none⟩ = some (.slice Am ms.length cm) := HTW.out.bp.cell 1
                    have gpl := HTW.out.bp.lt
                    have y0 : WF.cell? ⟨gf, 0, none⟩ = some (.int .i64 cf) := HFB.out.cell 0
                    have y1 : WF.cell? ⟨gf, 1, none⟩ = some (.slice Af nf df) := HFB.out.cell 1
                    have gfl := HFB.out.lt
                    have HQ0 : Hid (Blk WF r0 25 #[.slice none 0 0, .slice none 0 0]) := Lib.hid (HTW.out.bt.blk HR0.out (by have := HGG.out; omega))
                    have HQ1 : Hid (Blk WF r1 35 #[.int .i64 0, .slice none 0 0]) := Lib.hid (HTW.out.bt.blk HR1.out (by have := HGG.out; omega))
                    have HBF : Hid (Below w.heap.size w WF) := Lib.hid (HBW.out.trans (HTW.out.bt.below HGG.out.2.2.2.2.2 HBW.out.size))
                    have c0 : WF.cell? ⟨r0, 0, none⟩ = some (.slice none 0 0) := HQ0.out.cell 0
                    have c1 : WF.cell? ⟨r0, 1, none⟩ = some (.slice none 0 0) := HQ0.out.cell 1
                    have c2 : WF.cell? ⟨r1, 0, none⟩ = some (.int .i64 0) := HQ1.out.cell 0
                    have c3 : WF.cell? ⟨r1, 1, none⟩ = some (.slice none 0 0) := HQ1.out.cell 1
                    have f0 := HQ0.out.frozen 0
                    have f1 := HQ0.out.frozen 1
                    have f2 := HQ1.out.frozen 0
                    have f3 := HQ1.out.frozen 1
                    have g0 := HQ0.out.lt
                    have g1 := HQ1.out.lt
                    have hne : r0 ≠ r1 := Blk.ne_ HQ0.out HQ1.out (by decide)
                    have hne2 : gp ≠ r0 := by have := HGG.out; have := HTW.out.hp; omega
                    have hne3 : gp ≠ r1 := by have := HGG.out; have := HTW.out.hp; omega
                    have hne4 : gf ≠ r0 := HGF.out.1
                    have hne5 : gf ≠ r1 := HGF.out.2
                    cases o with
                    | none =>
                      obtain rfl : cf = 0 := HCF.out
                      obtain rfl : nf = 0 := HNF.out
                      go_wp2_with fail
                      go_region
                      all_goals go_wp2
                      all_goals (
                        refine bodyPost_ret (v := .tuple #[.agg #[.slice Ac cls.length cc, .slice Am ms.length cm], fV 0 (.slice Af 0 df)]) ?_ rfl ?_
                        · simp [results, Tryd.results18, go_sem, fV, c0, c1, c2, c3]
                        · rw [HF.out, ← HPV.out.2.2.1]
                          first
                            | exact rfin (o := (some ⟨cls, ms.map (fun x : MV => x.m)⟩, none)) _ _ _ _ HBF.out HGG.out.1 HGG.out.2.1 HQ0.out HQ1.out HPW.out HPF.out.1 HPF.out.2.1 HPF.out.2.2 HAF.out HRW.out HPV.out.2.2.2 rfl rfl
                            | exact rfin (o := (some ⟨cls, ms.map (fun x : MV => x.m)⟩, none)) _ _ _ _ HBF.out.drew HGG.out.1 HGG.out.2.1 HQ0.out.drew HQ1.out.drew (HPW.out.next (Below.refl _ _).drew) HPF.out.1 HPF.out.2.1 HPF.out.2.2 HAF.out HRW.out HPV.out.2.2.2 rfl rfl)
                    | some f =>
                      have HC : Hid (cf = 101 + (f.1 : Int)) := Lib.hid HCF.out
                      have t9 : (cf != 0) = true := by rw [bne_iff_ne]; have := HC.out; omega
                      go_wp2_with fail
                      go_region
                      all_goals go_wp2
                      all_goals (
                        refine bodyPost_ret (v := .tuple #[.agg #[.slice none 0 0, .slice none 0 0], fV cf (.slice Af nf df)]) ?_ rfl ?_
                        · simp [results, Tryd.results18, go_sem, fV, c0, c1, c2, c3]
                        · rw [HF.out]
                          first
                            | exact rfin (o := (none, some f)) (p := ⟨[], none, 0, [], none, 0⟩) _ _ _ _ HBF.out HGG.out.1 HGG.out.2.1 HQ0.out HQ1.out ⟨Reads.none_, Reads.none_, fun x hx => by cases hx⟩ (fun a h => by cases h) (fun a h => by cases h) (fun x hx => by cases hx) HAF.out (by rw [← HNF.out]; exact HRW.out) rfl HCF.out HNF.out
                            | exact rfin (o := (none, some f)) (p := ⟨[], none, 0, [], none, 0⟩) _ _ _ _ HBF.out.drew HGG.out.1 HGG.out.2.1 HQ0.out.drew HQ1.out.drew ⟨Reads.none_, Reads.none_, fun x hx => by cases hx⟩ (fun a h => by cases h) (fun a h => by cases h) (fun x hx => by cases hx) HAF.out (by rw [← HNF.out]; exact HRW.out) rfl HCF.out HNF.out)
  end Go.Proofs.YtnojejplckhifaaDoor
