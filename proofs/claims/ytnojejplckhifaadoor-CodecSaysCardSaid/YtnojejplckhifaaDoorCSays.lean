/- CodecSays, the card: for every input the call returns true and each argument reads afterwards as it read before; no further conditions. -/
import Derived.Test.YtnojejplckhifaaDoorSaysP
import Derived.Test.YtnojejplckhifaaDoorDoor4
import Derived.Test.YtnojejplckhifaaDoorCards
import Derived.Test.YtnojejplckhifaaDoorTie
namespace Go.Proofs.YtnojejplckhifaaDoor.codecSays
open Go.RowKit Go.ChangeShapes Go.WideShapes Go.ChangeAt
set_option linter.unusedVariables false

theorem own : ownKnob Tryd.prog.godebug = none := by kernel_rfl
theorem kids : Kids Tryd.prog (· < Tryd.prog.types.size) := kids_rows (by kernel_rfl) (by kernel_rfl)
theorem full : ∀ t e, t < Tryd.prog.types.size → Tryd.prog.underlying t = some (.slice e) → 0 < Tryd.prog.cellsOf e := slices_full_of Tryd.prog (by kernel_rfl)

set_option maxRecDepth 100000 in
set_option maxHeartbeats 8000000 in
theorem walk (w : World) (ad : Nat → Addr) (hE : Errs w ad) (p0 : PV) (hp0 : PArg w p0) (A1 : Option Addr) (n1 c1 : Nat) (z1 : List Int) (hc1 : n1 ≤ c1) (hn1 : c1 ≤ maxLen) (hl1 : z1.length = n1) (hr1 : Reads w w.heap.size 1 A1 n1 (z1.map (Value.int .u8))) (hw1 : ∀ z ∈ z1, (Lit.int .u8 z).wf = true) :
    Calls Tryd.prog 3 #[p0.val, .slice A1 n1 c1] w fun e w' => e = .returned (.bool true) ∧ Below w.heap.size w w' := by
  obtain ⟨hb1, hb2⟩ := bytes_nat z1 hw1
  obtain ⟨l, hl⟩ : ∃ l, l = z1.map Int.toNat := ⟨_, rfl⟩
  rw [hb1] at hr1
  rw [← hl] at hr1 hb2
  have hln : l.length = n1 := by rw [hl]; simpa using hl1
  have HR := Lib.hid hr1
  have HL := Lib.hid hln
  have HBY := Lib.hid hb2
  have HE := Lib.hid hE
  have HPA := Lib.hid hp0
  obtain ⟨N1, hN1⟩ : ∃ n, n = p0.cls.length := ⟨_, rfl⟩
  obtain ⟨N2, hN2⟩ : ∃ n, n = p0.ms.length := ⟨_, rfl⟩
  have HV : Hid (p0.val = .agg #[.slice p0.A N1 p0.c, .slice p0.B N2 p0.d]) := Lib.hid (by unfold PV.val; rw [← hN1, ← hN2])
  rw [HV.out]
  clear hw1 hb1 hr1 hb2 hl hl1 hln hE hp0 hN1 hN2
  obtain ⟨W, hW⟩ : ∃ W, W = w.alloc (.cells #[.slice p0.A N1 p0.c, .slice p0.B N2 p0.d] 25) := ⟨_, rfl⟩
  have HBW : Hid (Below w.heap.size w W) := Lib.hid (by rw [hW]; exact (Below.refl _ _).alloc (Nat.le_refl _) _)
  have HK : Hid (Blk W w.heap.size 25 #[.slice p0.A N1 p0.c, .slice p0.B N2 p0.d]) := Lib.hid (by rw [hW]; exact Blk.new _ _ _)
  have HPW : Hid (PAt W W.heap.size p0) := Lib.hid (HPA.out.pat.next HBW.out)
  obtain ⟨gp, hgp⟩ : ∃ g, g = w.heap.size := ⟨_, rfl⟩
  go_enter Tryd.func3, Tryd.ntmps3
  go_wp2_with fail
  rw [← hW]
  clear hW
  rw [← hgp] at HK ⊢
  clear hgp
  refine (first_any ad _ (HE.out.below HBW.out)).mono ?_
  rintro e w1 ⟨rfl, hb1⟩
  have HB1 : Hid (Below w.heap.size w w1) := Lib.hid (HBW.out.trans (hb1.mono HBW.out.size))
  have HK1 := Lib.hid (HK.out.below hb1 HK.out.lt)
  have HP1 := Lib.hid (HPW.out.next hb1)
  have x0 : w1.cell? ⟨gp, 0, none⟩ = some (.slice p0.A N1 p0.c) := HK1.out.cell 0
  have x1 : w1.cell? ⟨gp, 1, none⟩ = some (.slice p0.B N2 p0.d) := HK1.out.cell 1
  have gpl := HK1.out.lt
  clear hb1 HK HPW HBW
  go_wp2_with fail
  refine (light_is p0 _ HV.out.symm _ HP1.out).mono ?_
  rintro e w2 ⟨⟨b, rfl, hli⟩, hb2⟩
  have HLI := Lib.hid hli
  have HB2 : Hid (Below w.heap.size w w2) := Lib.hid (HB1.out.trans (hb2.mono HB1.out.size))
  have HK2 := Lib.hid (HK1.out.below hb2 HK1.out.lt)
  have HP2 := Lib.hid (HP1.out.next hb2)
  clear x0 x1 gpl hli hb2 HB1 HK1 HP1
  cases b
  · go_wp2
    go_ret
    exact ⟨rfl, HB2.out⟩
  have HLP : Hid (LightP p0) := Lib.hid (HLI.out rfl)
  clear HLI
  by_cases hn : 20000 < n1
  · have t1 : decide ((20000 : Int) < (n1 : Int)) = true := by simp; omega
    go_wp2
    go_ret
    exact ⟨rfl, HB2.out⟩
  have t1 : decide ((20000 : Int) < (n1 : Int)) = false := by simp; omega
  have x0 : w2.cell? ⟨gp, 0, none⟩ = some (.slice p0.A N1 p0.c) := HK2.out.cell 0
  have x1 : w2.cell? ⟨gp, 1, none⟩ = some (.slice p0.B N2 p0.d) := HK2.out.cell 1
  have gpl := HK2.out.lt
  obtain ⟨oE, hoE⟩ : ∃ o, encO p0.prg = o := ⟨_, rfl⟩
  have HOE := Lib.hid hoE
  clear hoE
  go_wp2_with fail
  refine (encode_is p0 _ HV.out.symm _ rfl ad _ (HE.out.below HB2.out) HP2.out HPA.out.cl (Nat.le_trans HPA.out.cn.1 HPA.out.cn.2) (Nat.le_trans HPA.out.mn.1 HPA.out.mn.2) (fun x hx => ⟨(HPA.out.ml x hx).par, (HPA.out.ml x hx).loc, Nat.le_trans (HPA.out.ml x hx).code.1 (HPA.out.ml x hx).code.2⟩) (fun x hx => by have := HLP.out.2.2.2 x hx; unfold maxLen; omega) HPA.out.num).mono ?_
  rintro e w3 he
  obtain ⟨hb3, A3, n3, c3, v3, rfl, hf3, hE3, hE0⟩ := epost_any he
  rw [HOE.out] at hf3 hE3 hE0
  have HF3 := Lib.hid hf3
  have HE3 := Lib.hid hE3
  have HE0 := Lib.hid hE0
  have HB3 : Hid (Below w.heap.size w w3) := Lib.hid (HB2.out.trans (hb3.mono HB2.out.size))
  have HK3 := Lib.hid (HK2.out.below hb3 HK2.out.lt)
  have HP3 := Lib.hid (HP2.out.next hb3)
  clear he hb3 hf3 hE3 hE0 x0 x1 gpl HK2 HP2 t1
  have x0 : w3.cell? ⟨gp, 0, none⟩ = some (.slice p0.A N1 p0.c) := HK3.out.cell 0
  have x1 : w3.cell? ⟨gp, 1, none⟩ = some (.slice p0.B N2 p0.d) := HK3.out.cell 1
  have gpl := HK3.out.lt
  obtain ⟨oM, hoM⟩ : ∃ o, mayP p0.prg = o := ⟨_, rfl⟩
  have HOM := Lib.hid hoM
  have HMK : Hid (∀ f, oM = some f → f.1 < 14) := Lib.hid (fun f hf => by have := (may_err p0.prg f (by rw [hoM]; exact hf)).1; omega)
  clear hoM
  go_wp2_with fail
  refine (rmayS_arg p0 _ HV.out.symm oM HOM.out w _ HPA.out HP3.out).mono ?_
  rintro e w4 ⟨Af, df, rfl, hrf, _, hb4⟩
  have HRF := Lib.hid hrf
  have HB4 : Hid (Below w.heap.size w w4) := Lib.hid (HB3.out.trans (hb4.mono HB3.out.size))
  have HK4 := Lib.hid (HK3.out.below hb4 HK3.out.lt)
  have HP4 := Lib.hid (HP3.out.next hb4)
  have HF4 : Hid (FltV w4 ad v3 oE.2) := Lib.hid (HF3.out.below hb4)
  have HE4 : Hid (oE.2 = none → Enc5 w4 p0.prg A3 n3 c3) := Lib.hid (fun h => by
    obtain ⟨a1, a2, a3, a4, a5⟩ := HE3.out h
    exact ⟨a1, (a2.below hb4).more hb4.size, a3, a4, a5⟩)
  obtain ⟨cf, hcf⟩ : ∃ x, x = fltC oM := ⟨_, rfl⟩
  obtain ⟨nf, hnf⟩ : ∃ x, x = (fltL oM).length := ⟨_, rfl⟩
  unfold fV
  rw [← hcf, ← hnf]
  rw [← hnf] at HRF
  have HCF := Lib.hid hcf
  have HNF := Lib.hid hnf
  clear hrf hb4 hcf hnf x0 x1 gpl HK3 HP3 HF3 HE3
  obtain ⟨W5, hW5⟩ : ∃ W, W = w4.alloc (.cells #[.int .i64 cf, .slice Af nf df] 35) := ⟨_, rfl⟩
  obtain ⟨gf, hgf⟩ : ∃ x, x = w4.heap.size := ⟨_, rfl⟩
  have hb5 : Below w4.heap.size w4 W5 := by rw [hW5]; exact (Below.refl _ _).alloc (Nat.le_refl _) _
  have HB5 : Hid (Below w.heap.size w W5) := Lib.hid (HB4.out.trans (hb5.mono HB4.out.size))
  have HFB : Hid (Blk W5 gf 35 #[.int .i64 cf, .slice Af nf df]) := Lib.hid (by rw [hW5, hgf]; exact Blk.new _ _ _)
  have HR5 : Hid (Reads W5 W5.heap.size 1 Af nf ((fltL oM).map (Value.int .i64))) := Lib.hid ((HRF.out.below hb5).more hb5.size)
  have HK5 := Lib.hid (HK4.out.below hb5 HK4.out.lt)
  have HP5 := Lib.hid (HP4.out.next hb5)
  have HF5 : Hid (FltV W5 ad v3 oE.2) := Lib.hid (HF4.out.below hb5)
  have HE5 : Hid (oE.2 = none → Enc5 W5 p0.prg A3 n3 c3) := Lib.hid (fun h => by
    obtain ⟨a1, a2, a3, a4, a5⟩ := HE4.out h
    exact ⟨a1, (a2.below hb5).more hb5.size, a3, a4, a5⟩)
  clear hb5 HRF HK4 HP4 HF4 HE4 HB4 HB3
  go_upto_region 6 with fail
  rw [← hW5, ← hgf]
  clear hW5 hgf
  have y0 : W5.cell? ⟨gf, 0, none⟩ = some (.int .i64 cf) := HFB.out.cell 0
  have y1 : W5.cell? ⟨gf, 1, none⟩ = some (.slice Af nf df) := HFB.out.cell 1
  have gfl := HFB.out.lt
  go_upto_if 37 with fail
  go_cut [] from 9 to 68 (fun wx => Below w.heap.size w wx)
  case first =>
    as_aux_lemma =>
      cases oM with
      | some f =>
        as_aux_lemma =>
          have HOF : Hid (oE = (none, some f)) := Lib.hid (by rw [← HOE.out]; exact encO_err HOM.out)
          have HC : Hid (cf = 101 + (f.1 : Int)) := Lib.hid HCF.out
          have t9 : (cf != 0) = true := by rw [bne_iff_ne]; have := HC.out; omega
          have HFF : Hid (FltV W5 ad v3 (some f)) := Lib.hid (by have := HF5.out; rw [HOF.out] at this; exact this)
          obtain rfl : n3 = 0 := HE0.out (by rw [HOF.out]; simp)
          go_wp2_with fail
          have hs := Same_flt v3 ad (some f) cf (fltL (some f)) Af nf df W5 HFF.out (HE.out.below HB5.out) HMK.out HR5.out
          unfold fV at hs
          refine hs.mono ?_
          clear hs
          rintro e w6 ⟨rfl, hb6⟩
          rw [show fltIs (some f) cf (fltL (some f)) = true by rw [HCF.out]; exact fltS_self _]
          have HB6 : Hid (Below w.heap.size w w6) := Lib.hid (HB5.out.trans (hb6.mono HB5.out.size))
          clear hb6
          go_wp2_with fail
          go_meet
          case rel => exact HB6.out
      | none =>
        obtain rfl : cf = 0 := HCF.out
        have HOP : Hid (okP p0.prg) := Lib.hid (may_ok _ HOM.out HPA.out.num)
        have x0 : W5.cell? ⟨gp, 0, none⟩ = some (.slice p0.A N1 p0.c) := HK5.out.cell 0
        have x1 : W5.cell? ⟨gp, 1, none⟩ = some (.slice p0.B N2 p0.d) := HK5.out.cell 1
        have gpl := HK5.out.lt
        go_wp2_with fail
        refine (rencode_any p0 _ HV.out.symm _ HP5.out HOP.out).mono ?_
        rintro e w6 ⟨A6, c6, rfl, hr6, hb6⟩
        have HR6 : Hid (Reads w6 w6.heap.size 1 A6 (encP p0.prg).length ((encP p0.prg).map bv)) := Lib.hid (Reads.of_own hr6)
        have HB6 : Hid (Below w.heap.size w w6) := Lib.hid (HB5.out.trans (hb6.mono HB5.out.size))
        have HF6 : Hid (FltV w6 ad v3 oE.2) := Lib.hid (HF5.out.below hb6)
        have HE6 : Hid (oE.2 = none → Enc5 w6 p0.prg A3 n3 c3) := Lib.hid (fun h => by
          obtain ⟨a1, a2, a3, a4, a5⟩ := HE5.out h
          exact ⟨a1, (a2.below hb6).more hb6.size, a3, a4, a5⟩)
        obtain ⟨m6, hm6⟩ : ∃ x, x = (encP p0.prg).length := ⟨_, rfl⟩
        rw [← hm6] at HR6 ⊢
        have HM6 := Lib.hid hm6
        clear hr6 hb6 hm6 HF5 HE5 x0 x1 gpl y0 y1 gfl
        by_cases hbig : 16384 < m6
        · as_aux_lemma =>
            have t9 : decide ((16384 : Int) < (m6 : Int)) = true := by simp; omega
            have HOF : Hid (oE = (none, some (0, []))) := Lib.hid (by rw [← HOE.out]; exact encO_big HOM.out (by rw [← HM6.out]; exact hbig))
            have HFF : Hid (FltV w6 ad v3 (some (0, []))) := Lib.hid (by have := HF6.out; rw [HOF.out] at this; exact this)
            obtain rfl : n3 = 0 := HE0.out (by rw [HOF.out]; simp)
            go_wp2_with fail
            refine (Is_flt v3 ad (some (0, [])) 101 _ HFF.out (HE.out.below HB6.out) (fun f hf => by cases hf; decide)).mono ?_
            rintro e w7 ⟨rfl, hb7⟩
            rw [flt_many]
            have HB7 : Hid (Below w.heap.size w w7) := Lib.hid (HB6.out.trans (hb7.mono HB6.out.size))
            clear hb7
            go_wp2_with fail
            go_meet
            case rel => exact HB7.out
        · as_aux_lemma =>
            have t9 : decide ((16384 : Int) < (m6 : Int)) = false := by simp; omega
            have HOF : Hid (oE = (some (encP p0.prg), none)) := Lib.hid (by rw [← HOE.out]; exact encO_ok HOM.out (by rw [← HM6.out]; exact hbig))
            obtain rfl : v3 = .nilIface := by have := HF6.out; rw [HOF.out] at this; exact this
            have HEN := Lib.hid (HE6.out (by rw [HOF.out]))
            go_wp2_with fail
            refine (same_any A3 A6 n3 m6 c3 c6 (encP p0.prg) (encP p0.prg) _ HEN.out.rd HR6.out (by have := HEN.out.len; have := HEN.out.small; omega)).mono ?_
            rintro e w7 ⟨rfl, hb7⟩
            rw [show sameB (encP p0.prg) (encP p0.prg) = true by simp [sameB]]
            have HB7 : Hid (Below w.heap.size w w7) := Lib.hid (HB6.out.trans (hb7.mono HB6.out.size))
            clear hb7
            go_wp2_with fail
            go_meet
            case rel => exact HB7.out
  case rest =>
    as_aux_lemma =>
      have HBC := Lib.hid hcut
      clear HF5 HE5 HB5 HK5 HP5 HFB HR5 HOE HE0 HOM HMK HCF HNF y0 y1 gfl hcut HLP HB2
      obtain ⟨o, ho⟩ : ∃ o, decP l = o := ⟨_, rfl⟩
      have HO := Lib.hid ho
      have HDK : Hid (∀ f, o.2 = some f → f.1 < 14) := Lib.hid (fun f hf => (dec_err l f (by rw [ho]; exact hf)).1)
      clear ho
      go_wp2_with fail
      refine (decode_is A1 n1 c1 l o HO.out ad _ ((HR.out.below HBC.out).more HBC.out.size) HBY.out hc1 hn1 (HE.out.below HBC.out)).mono ?_
      rintro e w5 he
      obtain ⟨hb5, q, v5, hq, rfl, hpq, hf5⟩ := dpostS he
      obtain ⟨M1, hM1⟩ : ∃ n, n = q.cls.length := ⟨_, rfl⟩
      obtain ⟨M2, hM2⟩ : ∃ n, n = q.ms.length := ⟨_, rfl⟩
      have HVQ : Hid (q.val = .agg #[.slice q.A M1 q.c, .slice q.B M2 q.d]) := Lib.hid (by unfold PV.val; rw [← hM1, ← hM2])
      rw [HVQ.out]
      have HQ := Lib.hid hq
      obtain ⟨W6, hW6⟩ : ∃ W, W = w5.alloc (.cells #[.slice q.A M1 q.c, .slice q.B M2 q.d] 25) := ⟨_, rfl⟩
      obtain ⟨gq, hgq⟩ : ∃ x, x = w5.heap.size := ⟨_, rfl⟩
      have hb6 : Below w5.heap.size w5 W6 := by rw [hW6]; exact (Below.refl _ _).alloc (Nat.le_refl _) _
      have HB6 : Hid (Below w.heap.size w W6) := Lib.hid ((HBC.out.trans (hb5.mono HBC.out.size)).trans (hb6.mono (by have := HBC.out.size; have := hb5.size; omega)))
      have HKQ : Hid (Blk W6 gq 25 #[.slice q.A M1 q.c, .slice q.B M2 q.d]) := Lib.hid (by rw [hW6, hgq]; exact Blk.new _ _ _)
      have HPQ : Hid (PAt W6 W6.heap.size q) := Lib.hid (hpq.next hb6)
      have HF6 : Hid (FltV W6 ad v5 o.2) := Lib.hid (hf5.below hb6)
      clear he hb5 hq hpq hf5 hM1 hM2 hb6
      go_upto_region 16 with fail
      rw [← hW6, ← hgq]
      clear hW6 hgq
      go_wp2_with fail
      refine (show Calls Tryd.prog 18 #[.slice A1 n1 c1] W6 (RDPost W6 o) by rw [← HO.out]; exact rdecode_any A1 n1 c1 l W6 ((HR.out.below HB6.out).more HB6.out.size) HBY.out hc1 hn1).mono ?_
      rintro e w7 ⟨hb7, r, A7, d7, hr, rfl, hpr, hrf⟩
      obtain ⟨K1, hK1⟩ : ∃ n, n = r.cls.length := ⟨_, rfl⟩
      obtain ⟨K2, hK2⟩ : ∃ n, n = r.ms.length := ⟨_, rfl⟩
      have HVR : Hid (r.val = .agg #[.slice r.A K1 r.c, .slice r.B K2 r.d]) := Lib.hid (by unfold PV.val; rw [← hK1, ← hK2])
      rw [HVR.out]
      have HRR := Lib.hid hr
      obtain ⟨cf2, hcf⟩ : ∃ x, x = fltC o.2 := ⟨_, rfl⟩
      obtain ⟨nf2, hnf⟩ : ∃ x, x = (fltL o.2).length := ⟨_, rfl⟩
      unfold fV
      rw [← hcf, ← hnf]
      rw [← hnf] at hrf
      have HCF := Lib.hid hcf
      obtain ⟨W8, hW8⟩ : ∃ W, W = (w7.alloc (.cells #[.slice r.A K1 r.c, .slice r.B K2 r.d] 25)).alloc (.cells #[.int .i64 cf2, .slice A7 nf2 d7] 35) := ⟨_, rfl⟩
      obtain ⟨gr, hgr⟩ : ∃ x, x = w7.heap.size := ⟨_, rfl⟩
      obtain ⟨gh, hgh⟩ : ∃ x, x = w7.heap.size + 1 := ⟨_, rfl⟩
      have hb8 : Below w7.heap.size w7 W8 := by rw [hW8]; exact ((Below.refl _ _).alloc (Nat.le_refl _) _).alloc (by simp) _
      have HKR : Hid (Blk W8 gr 25 #[.slice r.A K1 r.c, .slice r.B K2 r.d]) := Lib.hid (by rw [hW8, hgr]; exact (Blk.new _ _ _).alloc _)
      have HKH : Hid (Blk W8 gh 35 #[.int .i64 cf2, .slice A7 nf2 d7]) := Lib.hid (by
        rw [hW8, hgh]
        have := Blk.new (w7.alloc (.cells #[.slice r.A K1 r.c, .slice r.B K2 r.d] 25)) 35 #[.int .i64 cf2, .slice A7 nf2 d7]
        simpa using this)
      have hb68 : Below W6.heap.size W6 W8 := hb7.trans (hb8.mono hb7.size)
      have HB8 : Hid (Below w.heap.size w W8) := Lib.hid (HB6.out.trans (hb68.mono HB6.out.size))
      have HKQ8 := Lib.hid (HKQ.out.below hb68 HKQ.out.lt)
      have HPQ8 := Lib.hid (HPQ.out.next hb68)
      have HF8 : Hid (FltV W8 ad v5 o.2) := Lib.hid (HF6.out.below hb68)
      have HPR8 : Hid (PAt W8 W8.heap.size r) := Lib.hid (hpr.next hb8)
      have HRF8 : Hid (Reads W8 W8.heap.size 1 A7 nf2 ((fltL o.2).map (Value.int .i64))) := Lib.hid ((hrf.below hb8).more hb8.size)
      clear hb7 hr hpr hrf hcf hnf hK1 hK2 hb8 hb68 HB6 HKQ HPQ HF6
      go_upto_region 17 with fail
      rw [← hW8, ← hgh, ← hgr]
      clear hW8 hgr hgh
      have y0 : W8.cell? ⟨gh, 0, none⟩ = some (.int .i64 cf2) := HKH.out.cell 0
      have y1 : W8.cell? ⟨gh, 1, none⟩ = some (.slice A7 nf2 d7) := HKH.out.cell 1
      have ghl := HKH.out.lt
      go_wp2_with fail
      have hs := Same_flt v5 ad o.2 cf2 (fltL o.2) A7 nf2 d7 W8 HF8.out (HE.out.below HB8.out) HDK.out HRF8.out
      unfold fV at hs
      refine hs.mono ?_
      clear hs
      rintro e w9 ⟨rfl, hb9⟩
      rw [show fltIs o.2 cf2 (fltL o.2) = true by rw [HCF.out]; exact fltS_self _]
      have HB9 : Hid (Below w.heap.size w w9) := Lib.hid (HB8.out.trans (hb9.mono HB8.out.size))
      have HKQ9 := Lib.hid (HKQ8.out.below hb9 HKQ8.out.lt)
      have HKR9 := Lib.hid (HKR.out.below hb9 HKR.out.lt)
      have HPQ9 := Lib.hid (HPQ8.out.next hb9)
      have HPR9 := Lib.hid (HPR8.out.next hb9)
      clear hb9 y0 y1 ghl HKQ8 HKR HPQ8 HPR8
      have y0 : w9.cell? ⟨gq, 0, none⟩ = some (.slice q.A M1 q.c) := HKQ9.out.cell 0
      have y1 : w9.cell? ⟨gq, 1, none⟩ = some (.slice q.B M2 q.d) := HKQ9.out.cell 1
      have gql := HKQ9.out.lt
      have z0 : w9.cell? ⟨gr, 0, none⟩ = some (.slice r.A K1 r.c) := HKR9.out.cell 0
      have z1' : w9.cell? ⟨gr, 1, none⟩ = some (.slice r.B K2 r.d) := HKR9.out.cell 1
      have grl := HKR9.out.lt
      go_wp2_with fail
      refine (sameQ_is q r _ _ HVQ.out.symm HVR.out.symm _ HPQ9.out HPR9.out (decS_pv HBY.out (by rw [HQ.out, HO.out])).1 (decS_pv HBY.out (by rw [HQ.out, HO.out])).2.1 (decS_pv HBY.out (by rw [HQ.out, HO.out])).2.2 (decS_pv HBY.out (by rw [HRR.out, HO.out])).2.2).mono ?_
      rintro e w10 ⟨⟨b, rfl, hbb⟩, hb10⟩
      obtain rfl : b = true := hbb.2 (by rw [HQ.out, HRR.out])
      have HB10 : Hid (Below w.heap.size w w10) := Lib.hid (HB9.out.trans (hb10.mono HB9.out.size))
      clear hbb hb10
      go_wp2
      go_ret
      exact ⟨rfl, HB10.out⟩

set_option maxRecDepth 100000 in
theorem contract (H : Type) (enc : TypeId × Value → H) (W : World) (base : Nat) (args : Array Value) (ds gs : List (DataW H)) (before : List MemPlace)
    (hval : ∀ (j : Nat) t v, Tryd.f3.params[j]? = some t → args[j]? = some v → Value.okWide Tryd.prog W .any base t v)
    (hW : DataW.Whole enc Tryd.prog Tryd.f3.params.toList Rows.codecSaysSpec.vars false W args.toList ds gs before) (hL : laidMetH Tryd.prog Rows.codecSaysRow.laid W) :
    Calls Tryd.prog 3 args W fun e W' => ∃ v, e = .returned v ∧ Rows.codecSaysSpec.post enc Tryd.prog Tryd.f3 false true false false W args v W' := by
  have hW' := hW
  obtain ⟨p, q, hA0, hV, rfl, hfz, hnd⟩ := hW
  have hA : DataW.TrodAll enc Tryd.prog W 0 (fun _ => true) true Tryd.f3.params.toList args.toList ds p := hA0
  rw [Tryd.params3] at hA hval
  obtain ⟨v0, vs0, d0, ds0, p0, q0, hargs, rfl, rfl, h0, r0⟩ := trodAll_cons hA
  obtain ⟨v1, vs1, d1, ds1, p1, q1, rfl, rfl, rfl, h1, r1⟩ := trodAll_cons r0
  obtain ⟨rfl, rfl, rfl⟩ := trodAll_nil r1
  obtain rfl : args = #[v0, v1] := by cases args; simp_all
  obtain ⟨rfl, rfl⟩ := trodVars_none hV
  obtain ⟨p0, rfl, hp0⟩ := open_prog (hval 0 25 v0 rfl rfl) h0
  obtain ⟨A1, n1, c1, z1, rfl, hc1, hn1, hl1, hr1, hw1⟩ := open_row_ints Tryd.underlying26 Tryd.underlying5 (by kernel_rfl) (hval 1 26 v1 rfl rfl) h1
  clear hA0
  obtain ⟨ad, hE⟩ := codecSays_errs hL
  refine (walk W ad hE p0 hp0 A1 n1 c1 z1 hc1 hn1 hl1 hr1 hw1).mono fun e W' ⟨he, hg⟩ => ?_
  subst he
  exact ⟨_, rfl, post_law kids full (by rw [Tryd.params3]; decide +kernel) rfl hW' rfl rfl rfl hg (by kernel_rfl) Tryd.underlying4⟩

theorem reads (os : Os) {H : Type} (enc : TypeId × Value → H) : ∃ places, DataW.whole enc Tryd.prog ((laidWorld os).forCall (fun _ _ => 0) ⟨#[], #[.agg #[.slice none 0 0, .slice none 0 0], .slice none 0 0], []⟩).memory Tryd.f3.params.toList Rows.codecSaysSpec.vars false #[.agg #[.slice none 0 0, .slice none 0 0], .slice none 0 0].toList 8 = some ([.agg [.nil, .nil], .nil], [], places) :=
  ⟨[], by kernel_rfl⟩

set_option maxRecDepth 100000 in
theorem lifted (os : Os) (started : os.Started) (H : Type) (enc : TypeId × Value → H) (F : Stop.Interp) :
    ReturnsInHanded {} Tryd.checked os 3 .any ((OpenSpec.ofChange Rows.codecSaysSpec).preRow enc Tryd.prog Tryd.f3 Rows.codecSaysRow.domain false Rows.codecSaysRow.laid) (((OpenSpec.ofChange Rows.codecSaysSpec).at F).post enc Tryd.prog Tryd.f3 false true false false) := by
  obtain ⟨places, hx⟩ := reads os enc
  refine returnsInHanded_of_row (C := Tryd.checked) (s := OpenSpec.ofChange Rows.codecSaysSpec) own started (by kernel_rfl) Tryd.func3
    (witness_row_atRef (enc := enc) (C := Tryd.checked) false (laidWorld os) #[.agg #[.slice none 0 0, .slice none 0 0], .slice none 0 0] rfl (by kernel_rfl) (by kernel_rfl) (by kernel_rfl)
      (OpenSpec.preRow_of_cond 8 hx (by kernel_rfl) (fun k hk => by cases hk) (by kernel_rfl) (codecSays_met os _))) ?_
  intro W base args ds gs before hval hW _ _ _ hL _ _
  exact contract H enc W base args ds gs before hval hW hL

theorem said : Rows.CodecSaysSaid :=
  OpenClaim.holds_of_cond 3 Tryd.f3 rfl rfl rfl rfl rfl rfl rfl ⟨rfl, rfl, rfl, rfl, rfl⟩ rfl rfl rfl rfl rfl (by kernel_rfl) Tryd.func3 (by kernel_rfl)
    (of_decide_eq_true (by kernel_rfl)) (by unfold Func.isWrapper; first | (rw [if_pos (by decide +kernel)]; kernel_rfl) | (rw [if_neg (by decide +kernel)]; exact ⟨rfl, rfl⟩))
    (fun os started H enc _ F => by rw [OpenClaim.pre_eq_preRow]; exact lifted os started H enc F)

theorem plain (f : FuncId) (fn : Func) (hf : Tryd.pinned.checked.prog.funcNamed "overdrive/overdrivelaw4.CodecSays" = some f) (hfn : Tryd.pinned.checked.prog.funcs[f]? = some fn) :
    true = Tryd.pinned.checked.prog.looks [] ∧ ∀ (j : Nat) t, fn.params[j]? = some t → Tryd.pinned.checked.prog.wantsStandIn t = false := by
  obtain rfl : f = 3 := Option.some.inj ((show Tryd.prog.funcNamed "overdrive/overdrivelaw4.CodecSays" = some 3 by kernel_rfl).symm.trans hf) |>.symm
  obtain rfl : fn = Tryd.f3 := (Option.some.inj (Tryd.func3.symm.trans hfn)).symm
  refine ⟨by kernel_rfl, fun j t ht => ?_⟩
  have hm := Array.mem_of_getElem? ht
  have hall : (Tryd.f3.params.toList.all fun t => Tryd.prog.wantsStandIn t == false) = true := by kernel_rfl
  have hw : Tryd.prog.wantsStandIn t = false := by simpa using List.all_eq_true.1 hall t (by simpa using hm)
  exact hw

theorem card : Rows.CodecSaysCardSaid :=
  Claim7.holds_tied_plain_at .later [] _ _ _ _ said (fun _ h => by cases h) (by kernel_rfl) (fun _ h => by cases h) codecSays_row_tie rfl ⟨rfl, rfl⟩ (by kernel_rfl) rfl plain (by kernel_rfl)
#print axioms card
end Go.Proofs.YtnojejplckhifaaDoor.codecSays
