/- CodecApart, the card: for every input the call returns true and each argument reads afterwards as it read before; no further conditions. -/
import Derived.Test.YtnojejplckhifaaDoorApartP
import Derived.Test.YtnojejplckhifaaDoorDoor4
import Derived.Test.YtnojejplckhifaaDoorCards
import Derived.Test.YtnojejplckhifaaDoorTie
namespace Go.Proofs.YtnojejplckhifaaDoor.codecApart
open Go.RowKit Go.ChangeShapes Go.WideShapes Go.ChangeAt
set_option linter.unusedVariables false

theorem own : ownKnob Tryd.prog.godebug = none := by kernel_rfl
theorem kids : Kids Tryd.prog (· < Tryd.prog.types.size) := kids_rows (by kernel_rfl) (by kernel_rfl)
theorem full : ∀ t e, t < Tryd.prog.types.size → Tryd.prog.underlying t = some (.slice e) → 0 < Tryd.prog.cellsOf e := slices_full_of Tryd.prog (by kernel_rfl)

set_option maxRecDepth 100000 in
set_option maxHeartbeats 80000000 in
theorem walk (w : World) (ad : Nat → Addr) (hE : Errs w ad) (p0 : PV) (hp0 : PArg w p0) (p1 : PV) (hp1 : PArg w p1) :
    Calls Tryd.prog 8 #[p0.val, p1.val] w fun e w' => e = .returned (.bool true) ∧ Below w.heap.size w w' := by
  obtain ⟨i0, hi0, hz0, hz1, hz2⟩ := info_parts byte_info
  have HE := Lib.hid hE
  have HPA := Lib.hid hp0
  have HQA := Lib.hid hp1
  obtain ⟨N1, hN1⟩ : ∃ n, n = p0.cls.length := ⟨_, rfl⟩
  obtain ⟨N2, hN2⟩ : ∃ n, n = p0.ms.length := ⟨_, rfl⟩
  obtain ⟨M1, hM1⟩ : ∃ n, n = p1.cls.length := ⟨_, rfl⟩
  obtain ⟨M2, hM2⟩ : ∃ n, n = p1.ms.length := ⟨_, rfl⟩
  have HV : Hid (p0.val = .agg #[.slice p0.A N1 p0.c, .slice p0.B N2 p0.d]) := Lib.hid (by unfold PV.val; rw [← hN1, ← hN2])
  have HU : Hid (p1.val = .agg #[.slice p1.A M1 p1.c, .slice p1.B M2 p1.d]) := Lib.hid (by unfold PV.val; rw [← hM1, ← hM2])
  rw [HV.out, HU.out]
  clear hE hp0 hp1 hN1 hN2 hM1 hM2
  obtain ⟨W, hW⟩ : ∃ W, W = (w.alloc (.cells #[.slice p0.A N1 p0.c, .slice p0.B N2 p0.d] 25)).alloc (.cells #[.slice p1.A M1 p1.c, .slice p1.B M2 p1.d] 25) := ⟨_, rfl⟩
  have HBW : Hid (Below w.heap.size w W) := Lib.hid (by rw [hW]; exact ((Below.refl _ _).alloc (Nat.le_refl _) _).alloc (by simp) _)
  have HK : Hid (Blk W w.heap.size 25 #[.slice p0.A N1 p0.c, .slice p0.B N2 p0.d]) := Lib.hid (by rw [hW]; exact (Blk.new _ _ _).alloc _)
  have HL : Hid (Blk W (w.heap.size + 1) 25 #[.slice p1.A M1 p1.c, .slice p1.B M2 p1.d]) := Lib.hid (by
    rw [hW]
    have := Blk.new (w.alloc (.cells #[.slice p0.A N1 p0.c, .slice p0.B N2 p0.d] 25)) 25 #[.slice p1.A M1 p1.c, .slice p1.B M2 p1.d]
    simpa using this)
  have HPW : Hid (PAt W W.heap.size p0) := Lib.hid (HPA.out.pat.next HBW.out)
  have HQW : Hid (PAt W W.heap.size p1) := Lib.hid (HQA.out.pat.next HBW.out)
  obtain ⟨gp, hgp⟩ : ∃ g, g = w.heap.size := ⟨_, rfl⟩
  obtain ⟨gq, hgq⟩ : ∃ g, g = w.heap.size + 1 := ⟨_, rfl⟩
  go_enter Tryd.func8, Tryd.ntmps8
  go_wp2_with fail
  rw [← hW]
  clear hW
  rw [← hgq] at HL ⊢
  rw [← hgp] at HK ⊢
  clear hgp hgq
  refine (first_any ad _ (HE.out.below HBW.out)).mono ?_
  rintro e w1 ⟨rfl, hb1⟩
  have HB1 : Hid (Below w.heap.size w w1) := Lib.hid (HBW.out.trans (hb1.mono HBW.out.size))
  have HK1 := Lib.hid (HK.out.below hb1 HK.out.lt)
  have HL1 := Lib.hid (HL.out.below hb1 HL.out.lt)
  have HP1 := Lib.hid (HPW.out.next hb1)
  have HQ1 := Lib.hid (HQW.out.next hb1)
  clear hb1 HK HL HPW HQW HBW
  have x0 : w1.cell? ⟨gp, 0, none⟩ = some (.slice p0.A N1 p0.c) := HK1.out.cell 0
  have x1 : w1.cell? ⟨gp, 1, none⟩ = some (.slice p0.B N2 p0.d) := HK1.out.cell 1
  have gpl := HK1.out.lt
  have z0 : w1.cell? ⟨gq, 0, none⟩ = some (.slice p1.A M1 p1.c) := HL1.out.cell 0
  have z1 : w1.cell? ⟨gq, 1, none⟩ = some (.slice p1.B M2 p1.d) := HL1.out.cell 1
  have gql := HL1.out.lt
  have hfl := fld35
  go_wp2_with fail
  cases hmp : mayP p0.prg with
  | some f =>
    as_aux_lemma =>
      refine (rmay_some p0 _ HV.out.symm w _ HPA.out HP1.out f hmp).mono ?_
      rintro e w2 ⟨A2, d2, rfl, _, _, hb2⟩
      have HB2 : Hid (Below w.heap.size w w2) := Lib.hid (HB1.out.trans (hb2.mono HB1.out.size))
      have t1 : ((101 + (f.1 : Int)) != 0) = true := by rw [bne_iff_ne]; omega
      unfold fV
      clear hb2 hmp
      go_wp2
      go_ret
      exact ⟨rfl, HB2.out⟩
  | none =>
  refine (rmay_none p0 _ HV.out.symm w _ HPA.out HP1.out hmp).mono ?_
  rintro e w2 ⟨A2, d2, rfl, _, _, hb2⟩
  unfold fV
  have HMP := Lib.hid hmp
  clear hmp x0 x1 gpl z0 z1 gql
  have HB2 := Lib.hid (HB1.out.trans (hb2.mono HB1.out.size))
  have HK2 := Lib.hid (HK1.out.below hb2 HK1.out.lt)
  have HL2 := Lib.hid (HL1.out.below hb2 HL1.out.lt)
  have HP2 := Lib.hid (HP1.out.next hb2)
  have HQ2 := Lib.hid (HQ1.out.next hb2)
  clear HB1 HK1 HL1 HP1 HQ1
  clear hb2
  have x0 : w2.cell? ⟨gp, 0, none⟩ = some (.slice p0.A N1 p0.c) := HK2.out.cell 0
  have x1 : w2.cell? ⟨gp, 1, none⟩ = some (.slice p0.B N2 p0.d) := HK2.out.cell 1
  have gpl := HK2.out.lt
  have z0 : w2.cell? ⟨gq, 0, none⟩ = some (.slice p1.A M1 p1.c) := HL2.out.cell 0
  have z1 : w2.cell? ⟨gq, 1, none⟩ = some (.slice p1.B M2 p1.d) := HL2.out.cell 1
  have gql := HL2.out.lt
  go_wp2_with fail
  cases hmq : mayP p1.prg with
  | some f =>
    as_aux_lemma =>
      refine (rmay_some p1 _ HU.out.symm w _ HQA.out HQ2.out f hmq).mono ?_
      rintro e w3 ⟨A3, d3, rfl, _, _, hb3⟩
      have HB3 : Hid (Below w.heap.size w w3) := Lib.hid (HB2.out.trans (hb3.mono HB2.out.size))
      have t1 : ((101 + (f.1 : Int)) != 0) = true := by rw [bne_iff_ne]; omega
      unfold fV
      clear hb3 hmq
      go_wp2
      go_ret
      exact ⟨rfl, HB3.out⟩
  | none =>
  refine (rmay_none p1 _ HU.out.symm w _ HQA.out HQ2.out hmq).mono ?_
  rintro e w3 ⟨A3, d3, rfl, _, _, hb3⟩
  unfold fV
  have HMQ := Lib.hid hmq
  have HOP : Hid (okP p0.prg) := Lib.hid (may_ok _ HMP.out HPA.out.num)
  have HOQ : Hid (okP p1.prg) := Lib.hid (may_ok _ HMQ.out HQA.out.num)
  clear hmq x0 x1 gpl z0 z1 gql
  have HB3 := Lib.hid (HB2.out.trans (hb3.mono HB2.out.size))
  have HK3 := Lib.hid (HK2.out.below hb3 HK2.out.lt)
  have HL3 := Lib.hid (HL2.out.below hb3 HL2.out.lt)
  have HP3 := Lib.hid (HP2.out.next hb3)
  have HQ3 := Lib.hid (HQ2.out.next hb3)
  clear HB2 HK2 HL2 HP2 HQ2
  clear hb3
  have x0 : w3.cell? ⟨gp, 0, none⟩ = some (.slice p0.A N1 p0.c) := HK3.out.cell 0
  have x1 : w3.cell? ⟨gp, 1, none⟩ = some (.slice p0.B N2 p0.d) := HK3.out.cell 1
  have gpl := HK3.out.lt
  have z0 : w3.cell? ⟨gq, 0, none⟩ = some (.slice p1.A M1 p1.c) := HL3.out.cell 0
  have z1 : w3.cell? ⟨gq, 1, none⟩ = some (.slice p1.B M2 p1.d) := HL3.out.cell 1
  have gql := HL3.out.lt
  go_wp2_with fail
  refine (program_any p0 _ HV.out.symm _ HP3.out (by have := (ok_pv HOP.out).1; omega) (by have := (ok_pv HOP.out).2.1; omega) (fun x hx => by have := (ok_pv HOP.out).2.2 x hx; omega)).mono ?_
  rintro e w4 ⟨hb4, pw, hpw, rfl, hat4⟩
  have HPWE := Lib.hid hpw
  obtain ⟨K1, hK1⟩ : ∃ n, n = pw.cls.length := ⟨_, rfl⟩
  obtain ⟨K2, hK2⟩ : ∃ n, n = pw.ms.length := ⟨_, rfl⟩
  have HVW : Hid (pw.val = .agg #[.slice pw.A K1 pw.c, .slice pw.B K2 pw.d]) := Lib.hid (by unfold PV.val; rw [← hK1, ← hK2])
  rw [HVW.out]
  obtain ⟨W5, hW5⟩ : ∃ W, W = w4.alloc (.cells #[.slice pw.A K1 pw.c, .slice pw.B K2 pw.d] 25) := ⟨_, rfl⟩
  have hb45 : Below w4.heap.size w4 W5 := by rw [hW5]; exact (Below.refl _ _).alloc (Nat.le_refl _) _
  have hb35 : Below w3.heap.size w3 W5 := hb4.trans (hb45.mono hb4.size)
  have HG5 : Hid (Blk W5 w4.heap.size 25 #[.slice pw.A K1 pw.c, .slice pw.B K2 pw.d]) := Lib.hid (by rw [hW5]; exact Blk.new _ _ _)
  have HW5 : Hid (PAt W5 W5.heap.size pw) := Lib.hid (hat4.next hb45)
  obtain ⟨g6, hg6⟩ : ∃ g, g = w4.heap.size := ⟨_, rfl⟩
  clear hpw hK1 hK2 hat4 x0 x1 gpl z0 z1 gql
  have HB5 := Lib.hid (HB3.out.trans (hb35.mono HB3.out.size))
  have HK5 := Lib.hid (HK3.out.below hb35 HK3.out.lt)
  have HL5 := Lib.hid (HL3.out.below hb35 HL3.out.lt)
  have HP5 := Lib.hid (HP3.out.next hb35)
  have HQ5 := Lib.hid (HQ3.out.next hb35)
  clear HB3 HK3 HL3 HP3 HQ3
  clear hb4 hb45 hb35
  go_upto_region 5 with fail
  rw [← hW5]
  clear hW5
  rw [← hg6] at HG5 ⊢
  clear hg6
  have x0 : W5.cell? ⟨gp, 0, none⟩ = some (.slice p0.A N1 p0.c) := HK5.out.cell 0
  have x1 : W5.cell? ⟨gp, 1, none⟩ = some (.slice p0.B N2 p0.d) := HK5.out.cell 1
  have gpl := HK5.out.lt
  have z0 : W5.cell? ⟨gq, 0, none⟩ = some (.slice p1.A M1 p1.c) := HL5.out.cell 0
  have z1 : W5.cell? ⟨gq, 1, none⟩ = some (.slice p1.B M2 p1.d) := HL5.out.cell 1
  have gql := HL5.out.lt
  go_wp2_with fail
  refine (encode_ok p0 _ HV.out.symm _ rfl ad _ (HE.out.below HB5.out) HP5.out HOP.out).mono ?_
  rintro e w6 he
  obtain ⟨hb6, A3, n3, c3, v3, rfl, hf3, hE3, _⟩ := epost_any he
  obtain ⟨o3, ho3⟩ : ∃ o, o = (encO p0.prg).2 := ⟨_, rfl⟩
  rw [← ho3] at hf3 hE3
  clear ho3 he x0 x1 gpl z0 z1 gql
  have HB6 := Lib.hid (HB5.out.trans (hb6.mono HB5.out.size))
  have HK6 := Lib.hid (HK5.out.below hb6 HK5.out.lt)
  have HL6 := Lib.hid (HL5.out.below hb6 HL5.out.lt)
  have HP6 := Lib.hid (HP5.out.next hb6)
  have HQ6 := Lib.hid (HQ5.out.next hb6)
  clear HB5 HK5 HL5 HP5 HQ5
  have HG6 := Lib.hid (HG5.out.below hb6 HG5.out.lt)
  have HW6 := Lib.hid (HW5.out.next hb6)
  have HF3 := Lib.hid hf3
  have HE3 := Lib.hid hE3
  clear hb6 hf3 hE3 HG5 HW5
  have x0 : w6.cell? ⟨gp, 0, none⟩ = some (.slice p0.A N1 p0.c) := HK6.out.cell 0
  have x1 : w6.cell? ⟨gp, 1, none⟩ = some (.slice p0.B N2 p0.d) := HK6.out.cell 1
  have gpl := HK6.out.lt
  have z0 : w6.cell? ⟨gq, 0, none⟩ = some (.slice p1.A M1 p1.c) := HL6.out.cell 0
  have z1 : w6.cell? ⟨gq, 1, none⟩ = some (.slice p1.B M2 p1.d) := HL6.out.cell 1
  have gql := HL6.out.lt
  go_wp2_with fail
  refine (encode_ok p1 _ HU.out.symm _ rfl ad _ (HE.out.below HB6.out) HQ6.out HOQ.out).mono ?_
  rintro e w7 he
  obtain ⟨hb7, A4, n4, c4, v4, rfl, hf4, hE4, _⟩ := epost_any he
  obtain ⟨o4, ho4⟩ : ∃ o, o = (encO p1.prg).2 := ⟨_, rfl⟩
  rw [← ho4] at hf4 hE4
  clear ho4 he x0 x1 gpl z0 z1 gql
  have HB7 := Lib.hid (HB6.out.trans (hb7.mono HB6.out.size))
  have HK7 := Lib.hid (HK6.out.below hb7 HK6.out.lt)
  have HL7 := Lib.hid (HL6.out.below hb7 HL6.out.lt)
  have HP7 := Lib.hid (HP6.out.next hb7)
  have HQ7 := Lib.hid (HQ6.out.next hb7)
  clear HB6 HK6 HL6 HP6 HQ6
  have HG7 := Lib.hid (HG6.out.below hb7 HG6.out.lt)
  have HW7 := Lib.hid (HW6.out.next hb7)
  have HF4 := Lib.hid hf4
  have HE4 := Lib.hid hE4
  have HF37 := Lib.hid (HF3.out.below hb7)
  have HE37 : Hid (o3 = none → Enc5 w7 p0.prg A3 n3 c3) := Lib.hid (fun h => (HE3.out h).next hb7)
  clear hb7 hf4 hE4 HF3 HE3 HG6 HW6
  cases o3 with
  | some f =>
    as_aux_lemma =>
      obtain ⟨tt, uu, hvv⟩ := flt_iface HF37.out
      subst hvv
      go_wp2
      go_ret
      exact ⟨rfl, HB7.out⟩
  | none =>
  obtain rfl : v3 = .nilIface := HF37.out
  have HEN := Lib.hid (HE37.out rfl)
  clear HF37 HE37
  cases o4 with
  | some f =>
    as_aux_lemma =>
      obtain ⟨tt, uu, hvv⟩ := flt_iface HF4.out
      subst hvv
      go_wp2
      go_ret
      exact ⟨rfl, HB7.out⟩
  | none =>
  obtain rfl : v4 = .nilIface := HF4.out
  have HEM := Lib.hid (HE4.out rfl)
  clear HF4 HE4
  obtain ⟨L3, hL3⟩ : ∃ L, L = encP p0.prg := ⟨_, rfl⟩
  obtain ⟨L4, hL4⟩ : ∃ L, L = encP p1.prg := ⟨_, rfl⟩
  have HLL3 := Lib.hid hL3
  have HLL4 := Lib.hid hL4
  have HN3 : Hid (L3.length = n3) := Lib.hid (by rw [hL3]; exact HEN.out.len.symm)
  have HN4 : Hid (L4.length = n4) := Lib.hid (by rw [hL4]; exact HEM.out.len.symm)
  have HRA : Hid (Reads w7 w7.heap.size 1 A3 n3 (L3.map bv)) := Lib.hid (by rw [hL3]; exact HEN.out.rd)
  have HRB : Hid (Reads w7 w7.heap.size 1 A4 n4 (L4.map bv)) := Lib.hid (by rw [hL4]; exact HEM.out.rd)
  have hs3 : n3 ≤ 16384 := HEN.out.small
  have hs4 : n4 ≤ 16384 := HEM.out.small
  have HLT : Hid (∀ c ∈ L3, c < 256) := Lib.hid (by rw [hL3]; exact encP_lt _ HOP.out)
  have HDE : Hid (decP L3 = (some p0.prg, none)) := Lib.hid (by rw [hL3]; exact dec_enc _ HOP.out HMP.out (by have := HEN.out.len; omega))
  have HSE : Hid (L3 = L4 ↔ p0.prg = p1.prg) := Lib.hid (by rw [hL3, hL4]; exact encP_inj HOP.out HOQ.out HMP.out HMQ.out (by have := HEN.out.len; omega) (by have := HEM.out.len; omega))
  clear hL3 hL4 HEN HEM
  go_wp2_with fail
  refine (bytes_any A3 n3 c3 L3 _ HRA.out (by omega)).mono ?_
  rintro e w8 ⟨A8, c8, rfl, hown8, hb8⟩
  rw [HN3.out] at hown8 ⊢
  have HO8 := Lib.hid hown8
  have HB8 := Lib.hid hb8
  clear hown8 hb8
  go_wp2_with (at_builtin
               go_must (refine wpList_append_any _ rfl (.tmp 50) (.tmp 51) _ rfl w7.heap.size 5 i0 _ 1 1 Tryd.underlying26 hi0 hz0 hz1 hz2 rfl (by omega) (.slice A8 n3 c8) n3 (L3.map bv) rfl (HO8.out.alloc _) _ (some ⟨w8.heap.size, 0, none⟩) 1 1 [bv 9] rfl (by exact reads_newS _ _ _ 1 1 _ rfl rfl) (bvs_one [9]) (by unfold maxLen; omega) (by omega) (by have := HB8.out.size; simp; omega) ?_)
               intro v9 w9 hown9 hg9 hat9
               obtain ⟨A9, c9, hv9, hr9⟩ := own_reads hown9
               subst hv9
               have hcap9 := own_cap5 hown9
               have hcc1 : (0 : Int) ≤ (n3 : Int) := by omega
               have hcc2 : (n3 : Int) ≤ (c9 : Int) := by omega)
  have hb9 : Below w7.heap.size w7 w9 := (HB8.out.alloc HB8.out.size _).grown hg9 (by have := HB8.out.size; simp; omega) (fun k hk => own_ge HO8.out hk)
  obtain ⟨g9, rfl⟩ : ∃ g, A9 = some ⟨g, 0, none⟩ := by
    rcases hown9.2 with ⟨hv, hn⟩ | ⟨g, cap, cur, hv, _⟩
    · omega
    · injection hv with e1 e2 e3
      exact ⟨g, e1⟩
  have HGE : Hid (w7.heap.size ≤ g9) := Lib.hid (own_ge hown9 (k := g9) rfl)
  have HO9 : Hid (w9.ownsRow w7.heap.size 5 1 (.slice (some ⟨g9, 0, none⟩) (n3 + 1) c9) (n3 + 1) ((L3 ++ [9]).map bv)) := Lib.hid (by rw [List.map_append]; exact hown9)
  have HG9 : Hid (g9 < w9.heap.size) := Lib.hid (World.block_lt_of_cell? _ ⟨g9, 0, none⟩ (by rw [HO9.out.cellAt 0 (by omega)]; exact List.getElem?_eq_getElem (by simp)))
  have HR9 : Hid (Reads w9 w9.heap.size 1 (some ⟨g9, 0, none⟩) n3 (L3.map bv)) := Lib.hid (by
    have := reads_bytes_take (Reads.of_own HO9.out) (Nat.le_succ n3)
    rwa [List.take_left' HN3.out] at this)
  have HB9 := Lib.hid hb9
  clear hown9 hg9 hat9 hr9 hb9 HO8 HB8
  refine (decode_is (some ⟨g9, 0, none⟩) n3 c9 L3 _ HDE.out ad _ HR9.out HLT.out (by omega) hcap9.2 (HE.out.below (HB7.out.trans (HB9.out.mono HB7.out.size)))).mono ?_
  rintro e w10 he
  obtain ⟨hb10, pc, hpc, rfl, hatc, hfc⟩ := dpost_far he
  have HPC := Lib.hid hpc
  have HFC := Lib.hid hfc
  obtain ⟨J1, hJ1⟩ : ∃ n, n = pc.cls.length := ⟨_, rfl⟩
  obtain ⟨J2, hJ2⟩ : ∃ n, n = pc.ms.length := ⟨_, rfl⟩
  have HVC : Hid (pc.val = .agg #[.slice pc.A J1 pc.c, .slice pc.B J2 pc.d]) := Lib.hid (by unfold PV.val; rw [← hJ1, ← hJ2])
  rw [HVC.out]
  obtain ⟨WX, hWX⟩ : ∃ W, W = w10.alloc (.cells #[.slice pc.A J1 pc.c, .slice pc.B J2 pc.d] 25) := ⟨_, rfl⟩
  have hbA : Below w10.heap.size w10 WX := by rw [hWX]; exact (Below.refl _ _).alloc (Nat.le_refl _) _
  have hb9X : Below w9.heap.size w9 WX := hb10.trans (hbA.mono hb10.size)
  have HCX : Hid (Blk WX w10.heap.size 25 #[.slice pc.A J1 pc.c, .slice pc.B J2 pc.d]) := Lib.hid (by rw [hWX]; exact Blk.new _ _ _)
  have HAX : Hid (PAt WX WX.heap.size pc) := Lib.hid (hatc.next hbA)
  have HOX : Hid (WX.ownsRow w7.heap.size 5 1 (.slice (some ⟨g9, 0, none⟩) (n3 + 1) c9) (n3 + 1) ((L3 ++ [9]).map bv)) := Lib.hid (own_below HO9.out hb9X)
  have HBX : Hid (Below w7.heap.size w7 WX) := Lib.hid (HB9.out.trans (hb9X.mono HB9.out.size))
  obtain ⟨gc, hgc⟩ : ∃ g, g = w10.heap.size := ⟨_, rfl⟩
  have HGC : Hid (g9 < gc) := Lib.hid (by rw [hgc]; exact Nat.lt_of_lt_of_le HG9.out hb10.size)
  clear he hb10 hpc hfc hJ1 hJ2 hbA hb9X hatc HR9 HO9 HB9 hcap9 hcc1 hcc2 HDE
  go_wp2_with fail
  rw [← hWX]
  clear hWX
  rw [← hgc] at HCX ⊢
  clear hgc
  go_loopw [14] (fun si wr => ZRel WX w7.heap.size g9 n3 c9 L3 si wr) (fun si _ => n3 - (intOf si).toNat)
  case atStart => exact ⟨0, L3 ++ [9], Nat.zero_le _, rfl, by simp [HN3.out], fun j _ hj => List.getElem?_append_left (by rw [HN3.out]; exact hj), HOX.out, But.refl⟩
  case round =>
    clear HOX
    obtain ⟨k, xs, hk, rfl, hxl, hxs, hown, hbut⟩ := hrel
    have HXL := Lib.hid hxl
    have HXS := Lib.hid hxs
    have HOW := Lib.hid hown
    have HBT := Lib.hid hbut
    clear hxl hxs hown hbut
    by_cases hlt : k < n3
    · as_aux_lemma =>
        have hlt' : (k : Int) < (n3 : Int) := by omega
        have hk0 : (0 : Int) ≤ (k : Int) := by omega
        obtain ⟨y, hy⟩ : ∃ y, L3[k]? = some y := ⟨_, List.getElem?_eq_getElem (by have := HN3.out; omega)⟩
        have hyx : xs[k]? = some y := (HXS.out k (Nat.le_refl _) hlt).trans hy
        have c0 : wr.cell? ⟨g9, k, none⟩ = some (.int .u8 (y : Int)) := (HOW.out.cellAt k (by omega)).trans (by rw [List.getElem?_map, hyx]; rfl)
        have f0 := HOW.out.frozenAt k
        have g9l : g9 < wr.heap.size := World.block_lt_of_cell? _ _ c0
        obtain ⟨A, u, hA, hAb, hu, hcell⟩ := HRA.out.at_ (k := k) hlt
        rw [List.getElem?_map, hy] at hu
        obtain rfl : bv y = u := by simpa using hu
        subst hA
        unfold bv at hcell
        have c1 : wr.cell? (A.add k) = some (.int .u8 (y : Int)) := ((HBT.out.cell (p := A.add k) (by rw [block_of_add]; have := HBX.out.size; omega) (by rw [block_of_add]; have := HGE.out; omega)).trans (HBX.out.cell (p := A.add k) (by rw [block_of_add]; exact hAb))).trans hcell
        clear hu hcell hy hyx
        go_wp2_with fail
        go_quiet (fail)
        obtain ⟨V, hV⟩ : ∃ V, V = wr.drewN nq := ⟨_, rfl⟩
        have HOV : Hid (V.ownsRow w7.heap.size 5 1 (.slice (some ⟨g9, 0, none⟩) (n3 + 1) c9) (n3 + 1) (xs.map bv)) := Lib.hid (by rw [hV]; exact own_below HOW.out (below_drewN (Below.refl _ _) nq))
        have HBV : Hid (But g9 WX V) := Lib.hid (by rw [hV]; exact HBT.out.drewN nq)
        have c0' : V.cell? ⟨g9, k, none⟩ = some (.int .u8 (y : Int)) := by rw [hV]; exact c0
        have f0' : V.frozen? ⟨g9, k, none⟩ = false := by rw [hV]; exact f0
        have g9l' : g9 < V.heap.size := by rw [hV]; exact g9l
        rw [← hV]
        clear hV c0 f0 g9l c1
        have HSV := Lib.hid (HOV.out.stored k (bv 0))
        have HNX : Hid ((V.setCell ⟨g9, k, none⟩ (.int .u8 0)).ownsRow w7.heap.size 5 1 (.slice (some ⟨g9, 0, none⟩) (n3 + 1) c9) (n3 + 1) ((xs.set k 0).map bv) ∧ But g9 WX (V.setCell ⟨g9, k, none⟩ (.int .u8 0))) := Lib.hid ⟨by rw [List.map_set]; exact HSV.out.1, HBV.out.setCell k _⟩
        go_wp2
        go_roundw
        case rel => exact ⟨k + 1, xs.set k 0, by omega, by go_num, by rw [List.length_set]; exact HXL.out, fun j hj1 hj2 => by rw [List.getElem?_set_ne (by omega)]; exact HXS.out j (by omega) hj2, HNX.out.1, HNX.out.2⟩
        case measure => simp [intOf]; omega
    · as_aux_lemma =>
        have t3 : decide ((k : Int) < (n3 : Int)) = false := by simp; omega
        have hbZ : Below w7.heap.size w7 wr := HBX.out.trans (HBT.out.below HGE.out HBX.out.size)
        have HBZ : Hid (Below w.heap.size w wr) := Lib.hid (HB7.out.trans (hbZ.mono HB7.out.size))
        have HKZ := Lib.hid (HK7.out.below hbZ HK7.out.lt)
        have HLZ := Lib.hid (HL7.out.below hbZ HL7.out.lt)
        have HGZ := Lib.hid (HG7.out.below hbZ HG7.out.lt)
        have HCZ : Hid (Blk wr gc 25 #[.slice pc.A J1 pc.c, .slice pc.B J2 pc.d]) := Lib.hid (HBT.out.blk HCX.out (by have := HGC.out; omega))
        have HPZ := Lib.hid (HP7.out.next hbZ)
        have HQZ := Lib.hid (HQ7.out.next hbZ)
        have HWZ := Lib.hid (HW7.out.next hbZ)
        have HAZ : Hid (PAt wr wr.heap.size pc) := Lib.hid (HAX.out.but HBT.out HFC.out HG9.out)
        have HRAZ : Hid (Reads wr wr.heap.size 1 A3 n3 (L3.map bv)) := Lib.hid ((HRA.out.below hbZ).more hbZ.size)
        have HRBZ : Hid (Reads wr wr.heap.size 1 A4 n4 (L4.map bv)) := Lib.hid ((HRB.out.below hbZ).more hbZ.size)
        clear hbZ HOW HBT HXL HXS
        have x0 : wr.cell? ⟨gp, 0, none⟩ = some (.slice p0.A N1 p0.c) := HKZ.out.cell 0
        have x1 : wr.cell? ⟨gp, 1, none⟩ = some (.slice p0.B N2 p0.d) := HKZ.out.cell 1
        have z0 : wr.cell? ⟨gq, 0, none⟩ = some (.slice p1.A M1 p1.c) := HLZ.out.cell 0
        have z1 : wr.cell? ⟨gq, 1, none⟩ = some (.slice p1.B M2 p1.d) := HLZ.out.cell 1
        have y0 : wr.cell? ⟨g6, 0, none⟩ = some (.slice pw.A K1 pw.c) := HGZ.out.cell 0
        have y1 : wr.cell? ⟨g6, 1, none⟩ = some (.slice pw.B K2 pw.d) := HGZ.out.cell 1
        have q0 : wr.cell? ⟨gc, 0, none⟩ = some (.slice pc.A J1 pc.c) := HCZ.out.cell 0
        have q1 : wr.cell? ⟨gc, 1, none⟩ = some (.slice pc.B J2 pc.d) := HCZ.out.cell 1
        have gpl := HKZ.out.lt
        have gql := HLZ.out.lt
        have g6l := HGZ.out.lt
        have gcl := HCZ.out.lt
        go_wp2_with fail
        have HAS : Hid (∀ X, Below wr.heap.size wr X → (fun w' => w'.cell? ⟨gp, 0, none⟩ = some (.slice p0.A N1 p0.c) ∧ w'.cell? ⟨gp, 1, none⟩ = some (.slice p0.B N2 p0.d) ∧ w'.cell? ⟨gq, 0, none⟩ = some (.slice p1.A M1 p1.c) ∧ w'.cell? ⟨gq, 1, none⟩ = some (.slice p1.B M2 p1.d) ∧ w'.cell? ⟨g6, 0, none⟩ = some (.slice pw.A K1 pw.c) ∧ w'.cell? ⟨g6, 1, none⟩ = some (.slice pw.B K2 pw.d) ∧ w'.cell? ⟨gc, 0, none⟩ = some (.slice pc.A J1 pc.c) ∧ w'.cell? ⟨gc, 1, none⟩ = some (.slice pc.B J2 pc.d) ∧ gp < w'.heap.size ∧ gq < w'.heap.size ∧ g6 < w'.heap.size ∧ gc < w'.heap.size) X) := Lib.hid (fun X hX => ⟨(HKZ.out.below hX HKZ.out.lt).cell 0, (HKZ.out.below hX HKZ.out.lt).cell 1, (HLZ.out.below hX HLZ.out.lt).cell 0, (HLZ.out.below hX HLZ.out.lt).cell 1, (HGZ.out.below hX HGZ.out.lt).cell 0, (HGZ.out.below hX HGZ.out.lt).cell 1, (HCZ.out.below hX HCZ.out.lt).cell 0, (HCZ.out.below hX HCZ.out.lt).cell 1, Nat.lt_of_lt_of_le HKZ.out.lt hX.size, Nat.lt_of_lt_of_le HLZ.out.lt hX.size, Nat.lt_of_lt_of_le HGZ.out.lt hX.size, Nat.lt_of_lt_of_le HCZ.out.lt hX.size⟩)
        have HD0 : Hid (Below wr.heap.size wr wr.drew) := Lib.hid (Below.refl _ _).drew
        refine wp_region_held_drew (S := fun w' => w'.cell? ⟨gp, 0, none⟩ = some (.slice p0.A N1 p0.c) ∧ w'.cell? ⟨gp, 1, none⟩ = some (.slice p0.B N2 p0.d) ∧ w'.cell? ⟨gq, 0, none⟩ = some (.slice p1.A M1 p1.c) ∧ w'.cell? ⟨gq, 1, none⟩ = some (.slice p1.B M2 p1.d) ∧ w'.cell? ⟨g6, 0, none⟩ = some (.slice pw.A K1 pw.c) ∧ w'.cell? ⟨g6, 1, none⟩ = some (.slice pw.B K2 pw.d) ∧ w'.cell? ⟨gc, 0, none⟩ = some (.slice pc.A J1 pc.c) ∧ w'.cell? ⟨gc, 1, none⟩ = some (.slice pc.B J2 pc.d) ∧ gp < w'.heap.size ∧ gq < w'.heap.size ∧ g6 < w'.heap.size ∧ gc < w'.heap.size) (by kernel_rfl) (HAS.out _ HD0.out) (fun hHeld => ?_)
        refine wpAnyH_take (i := 0) (oi := ({ dst := some 79, op := Op.move (Operand.tmp 13), type := 30, pos := "more.go:70", after := #[], guard := none } : Oper)) (v := ?_) rfl (by kernel_rfl) (by kernel_rfl) (by kernel_rfl) (fun _ _ _ h => h) (Or.inl ⟨by rfl, ?_⟩) (by assumption) ?_
        rotate_left
        · intro w hSw
          try dsimp only at hSw
          go_simp
          try with_reducible rfl
        simp only [Act.put, List.setIfInBounds_toArray, List.set_cons_zero, List.set_cons_succ]
        refine wpAnyH_take (i := 1) (oi := ({ dst := some 80, op := Op.binOp BinOp.eql 30 (Operand.tmp 79) (Operand.const Value.nilIface) 30, type := 4, pos := "more.go:70", after := #[{ on := 0, ground := Ground.data }], guard := none } : Oper)) (v := ?_) rfl (by kernel_rfl) (by kernel_rfl) (by kernel_rfl) (fun _ _ _ h => h) (Or.inl ⟨by rfl, ?_⟩) (by assumption) ?_
        rotate_left
        · intro w hSw
          try dsimp only at hSw
          go_simp
          try with_reducible rfl
        simp only [Act.put, List.setIfInBounds_toArray, List.set_cons_zero, List.set_cons_succ]
        refine wpAnyH_take (i := 2) (oi := ({ dst := some 81, op := Op.move (Operand.tmp 80), type := 4, pos := "more.go:70", after := #[{ on := 1, ground := Ground.data }], guard := none } : Oper)) (v := ?_) rfl (by kernel_rfl) (by kernel_rfl) (by kernel_rfl) (fun _ _ _ h => h) (Or.inl ⟨by rfl, ?_⟩) (by assumption) ?_
        rotate_left
        · intro w hSw
          try dsimp only at hSw
          go_simp
          try with_reducible rfl
        simp only [Act.put, List.setIfInBounds_toArray, List.set_cons_zero, List.set_cons_succ]
        refine wpAnyH_take (i := 3) (oi := ({ dst := some 82, op := Op.load 25 (Operand.tmp 12), type := 25, pos := "more.go:70", after := #[{ on := 2, ground := Ground.guard }], guard := some (2, true) } : Oper)) (v := ?_) rfl (by kernel_rfl) (by kernel_rfl) (by kernel_rfl) (fun _ _ _ h => h) (Or.inl ⟨by rfl, ?_⟩) (by assumption) ?_
        rotate_left
        · intro w hSw
          try dsimp only at hSw
          go_simp
          try with_reducible rfl
        simp only [Act.put, List.setIfInBounds_toArray, List.set_cons_zero, List.set_cons_succ]
        refine wpAnyH_take (i := 4) (oi := ({ dst := some 83, op := Op.load 25 (Operand.tmp 2), type := 25, pos := "more.go:70", after := #[{ on := 2, ground := Ground.guard }], guard := some (2, true) } : Oper)) (v := ?_) rfl (by kernel_rfl) (by kernel_rfl) (by kernel_rfl) (fun _ _ _ h => h) (Or.inl ⟨by rfl, ?_⟩) (by assumption) ?_
        rotate_left
        · intro w hSw
          try dsimp only at hSw
          go_simp
          try with_reducible rfl
        simp only [Act.put, List.setIfInBounds_toArray, List.set_cons_zero, List.set_cons_succ]
        have HOC : Hid (okP pc.prg) := Lib.hid (by rw [HPC.out]; exact HOP.out)
        have HOW : Hid (okP pw.prg) := Lib.hid (by rw [HPWE.out]; exact HOP.out)
        refine wpAnyH_ready (rs := [5]) (by kernel_rfl) (by simp) ?_
        refine AllReadyH.cons (o := ({ dst := some 84, op := Op.call { callee := Callee.value (Operand.func 19), args := #[Operand.tmp 82, Operand.tmp 83], argTypes := #[25, 25] }, type := 4, pos := "more.go:70", after := #[{ on := 3, ground := Ground.data }, { on := 4, ground := Ground.data }, { on := 2, ground := Ground.chain }, { on := 2, ground := Ground.guard }], guard := some (2, true) } : Oper)) rfl (fun K hK => ?_) AllReadyH.nil
        go_simp
        go_at_call 19
        refine (sameQ_is pc p0 _ _ HVC.out.symm HV.out.symm _ (HAZ.out.next HD0.out) (HPZ.out.next HD0.out) (by have := (ok_pv HOC.out).1; omega) (by have := (ok_pv HOC.out).2.1; omega) (fun x hx => by have := (ok_pv HOC.out).2.2 x hx; omega) (fun x hx => by have := (ok_pv HOP.out).2.2 x hx; omega)).mono ?_
        rintro e w21 ⟨⟨b21, rfl, hbb⟩, hb21⟩
        have HBB21 := Lib.hid hbb
        have HD21 : Hid (Below wr.heap.size wr w21) := Lib.hid (HD0.out.trans (hb21.mono HD0.out.size))
        clear hbb hb21
        obtain rfl : b21 = true := HBB21.out.2 HPC.out
        refine hK.out _ _ (HAS.out _ HD21.out) (fun hHeld21 => ?_)
        clear hK K
        refine wpAnyH_take (i := 6) (oi := ({ dst := some 85, op := Op.pick (Operand.tmp 81) (Operand.tmp 84) (Operand.const (Value.bool false)), type := 4, pos := "more.go:70", after := #[{ on := 2, ground := Ground.data }, { on := 5, ground := Ground.data }], guard := none } : Oper)) (v := ?_) rfl (by kernel_rfl) (by kernel_rfl) (by kernel_rfl) (fun _ _ _ h => h) (Or.inl ⟨by rfl, ?_⟩) (by assumption) ?_
        rotate_left
        · intro w hSw
          try dsimp only at hSw
          go_simp
          try with_reducible rfl
        simp only [Act.put, List.setIfInBounds_toArray, List.set_cons_zero, List.set_cons_succ]
        refine wpAnyH_take (i := 7) (oi := ({ dst := some 86, op := Op.move (Operand.tmp 85), type := 4, pos := "more.go:70", after := #[{ on := 6, ground := Ground.data }, { on := 5, ground := Ground.chain }], guard := none } : Oper)) (v := ?_) rfl (by kernel_rfl) (by kernel_rfl) (by kernel_rfl) (fun _ _ _ h => h) (Or.inl ⟨by rfl, ?_⟩) (by assumption) ?_
        rotate_left
        · intro w hSw
          try dsimp only at hSw
          go_simp
          try with_reducible rfl
        simp only [Act.put, List.setIfInBounds_toArray, List.set_cons_zero, List.set_cons_succ]
        refine wpAnyH_take (i := 8) (oi := ({ dst := some 87, op := Op.load 25 (Operand.tmp 2), type := 25, pos := "more.go:70", after := #[{ on := 7, ground := Ground.guard }], guard := some (7, true) } : Oper)) (v := ?_) rfl (by kernel_rfl) (by kernel_rfl) (by kernel_rfl) (fun _ _ _ h => h) (Or.inl ⟨by rfl, ?_⟩) (by assumption) ?_
        rotate_left
        · intro w hSw
          try dsimp only at hSw
          go_simp
          try with_reducible rfl
        simp only [Act.put, List.setIfInBounds_toArray, List.set_cons_zero, List.set_cons_succ]
        refine wpAnyH_take (i := 9) (oi := ({ dst := some 88, op := Op.load 25 (Operand.tmp 6), type := 25, pos := "more.go:70", after := #[{ on := 7, ground := Ground.guard }], guard := some (7, true) } : Oper)) (v := ?_) rfl (by kernel_rfl) (by kernel_rfl) (by kernel_rfl) (fun _ _ _ h => h) (Or.inl ⟨by rfl, ?_⟩) (by assumption) ?_
        rotate_left
        · intro w hSw
          try dsimp only at hSw
          go_simp
          try with_reducible rfl
        simp only [Act.put, List.setIfInBounds_toArray, List.set_cons_zero, List.set_cons_succ]
        refine wpAnyH_ready (rs := [10]) (by kernel_rfl) (by simp) ?_
        refine AllReadyH.cons (o := ({ dst := some 89, op := Op.call { callee := Callee.value (Operand.func 19), args := #[Operand.tmp 87, Operand.tmp 88], argTypes := #[25, 25] }, type := 4, pos := "more.go:70", after := #[{ on := 8, ground := Ground.data }, { on := 9, ground := Ground.data }, { on := 7, ground := Ground.chain }, { on := 7, ground := Ground.guard }], guard := some (7, true) } : Oper)) rfl (fun K hK => ?_) AllReadyH.nil
        go_simp
        go_at_call 19
        refine (sameQ_is p0 pw _ _ HV.out.symm HVW.out.symm _ (HPZ.out.next HD21.out) (HWZ.out.next HD21.out) (by have := (ok_pv HOP.out).1; omega) (by have := (ok_pv HOP.out).2.1; omega) (fun x hx => by have := (ok_pv HOP.out).2.2 x hx; omega) (fun x hx => by have := (ok_pv HOW.out).2.2 x hx; omega)).mono ?_
        rintro e w22 ⟨⟨b22, rfl, hbb⟩, hb22⟩
        have HBB22 := Lib.hid hbb
        have HD22 : Hid (Below wr.heap.size wr w22) := Lib.hid (HD21.out.trans (hb22.mono HD21.out.size))
        clear hbb hb22
        obtain rfl : b22 = true := HBB22.out.2 HPWE.out.symm
        refine hK.out _ _ (HAS.out _ HD22.out) (fun hHeld22 => ?_)
        clear hK K
        refine wpAnyH_take (i := 11) (oi := ({ dst := some 90, op := Op.pick (Operand.tmp 86) (Operand.tmp 89) (Operand.const (Value.bool false)), type := 4, pos := "more.go:70", after := #[{ on := 7, ground := Ground.data }, { on := 10, ground := Ground.data }], guard := none } : Oper)) (v := ?_) rfl (by kernel_rfl) (by kernel_rfl) (by kernel_rfl) (fun _ _ _ h => h) (Or.inl ⟨by rfl, ?_⟩) (by assumption) ?_
        rotate_left
        · intro w hSw
          try dsimp only at hSw
          go_simp
          try with_reducible rfl
        simp only [Act.put, List.setIfInBounds_toArray, List.set_cons_zero, List.set_cons_succ]
        refine wpAnyH_take (i := 12) (oi := ({ dst := some 91, op := Op.move (Operand.tmp 90), type := 4, pos := "more.go:70", after := #[{ on := 11, ground := Ground.data }, { on := 10, ground := Ground.chain }], guard := none } : Oper)) (v := ?_) rfl (by kernel_rfl) (by kernel_rfl) (by kernel_rfl) (fun _ _ _ h => h) (Or.inl ⟨by rfl, ?_⟩) (by assumption) ?_
        rotate_left
        · intro w hSw
          try dsimp only at hSw
          go_simp
          try with_reducible rfl
        simp only [Act.put, List.setIfInBounds_toArray, List.set_cons_zero, List.set_cons_succ]
        refine wpAnyH_take (i := 13) (oi := ({ dst := some 92, op := Op.move (Operand.tmp 7), type := 26, pos := "more.go:70", after := #[{ on := 12, ground := Ground.guard }], guard := some (12, true) } : Oper)) (v := ?_) rfl (by kernel_rfl) (by kernel_rfl) (by kernel_rfl) (fun _ _ _ h => h) (Or.inl ⟨by rfl, ?_⟩) (by assumption) ?_
        rotate_left
        · intro w hSw
          try dsimp only at hSw
          go_simp
          try with_reducible rfl
        simp only [Act.put, List.setIfInBounds_toArray, List.set_cons_zero, List.set_cons_succ]
        refine wpAnyH_take (i := 14) (oi := ({ dst := some 93, op := Op.move (Operand.tmp 9), type := 26, pos := "more.go:70", after := #[{ on := 12, ground := Ground.guard }], guard := some (12, true) } : Oper)) (v := ?_) rfl (by kernel_rfl) (by kernel_rfl) (by kernel_rfl) (fun _ _ _ h => h) (Or.inl ⟨by rfl, ?_⟩) (by assumption) ?_
        rotate_left
        · intro w hSw
          try dsimp only at hSw
          go_simp
          try with_reducible rfl
        simp only [Act.put, List.setIfInBounds_toArray, List.set_cons_zero, List.set_cons_succ]
        refine wpAnyH_take (i := 16) (oi := ({ dst := some 95, op := Op.load 25 (Operand.tmp 2), type := 25, pos := "more.go:70", after := #[{ on := 12, ground := Ground.guard }], guard := some (12, true) } : Oper)) (v := ?_) rfl (by kernel_rfl) (by kernel_rfl) (by kernel_rfl) (fun _ _ _ h => h) (Or.inl ⟨by rfl, ?_⟩) (by assumption) ?_
        rotate_left
        · intro w hSw
          try dsimp only at hSw
          go_simp
          try with_reducible rfl
        simp only [Act.put, List.setIfInBounds_toArray, List.set_cons_zero, List.set_cons_succ]
        refine wpAnyH_take (i := 17) (oi := ({ dst := some 96, op := Op.load 25 (Operand.tmp 3), type := 25, pos := "more.go:70", after := #[{ on := 12, ground := Ground.guard }], guard := some (12, true) } : Oper)) (v := ?_) rfl (by kernel_rfl) (by kernel_rfl) (by kernel_rfl) (fun _ _ _ h => h) (Or.inl ⟨by rfl, ?_⟩) (by assumption) ?_
        rotate_left
        · intro w hSw
          try dsimp only at hSw
          go_simp
          try with_reducible rfl
        simp only [Act.put, List.setIfInBounds_toArray, List.set_cons_zero, List.set_cons_succ]
        refine wpAnyH_ready (rs := [15]) (by kernel_rfl) (by simp) ?_
        refine AllReadyH.cons (o := ({ dst := some 94, op := Op.call { callee := Callee.value (Operand.func 16), args := #[Operand.tmp 92, Operand.tmp 93], argTypes := #[26, 26] }, type := 4, pos := "more.go:70", after := #[{ on := 13, ground := Ground.data }, { on := 14, ground := Ground.data }, { on := 12, ground := Ground.chain }, { on := 12, ground := Ground.guard }], guard := some (12, true) } : Oper)) rfl (fun K hK => ?_) AllReadyH.nil
        go_simp
        go_at_call 16
        refine (same_any A3 A4 n3 n4 c3 c4 L3 L4 _ ((HRAZ.out.below HD22.out).more HD22.out.size) ((HRBZ.out.below HD22.out).more HD22.out.size) (by omega)).mono ?_
        rintro e w23 ⟨rfl, hb23⟩
        have HD23 : Hid (Below wr.heap.size wr w23) := Lib.hid (HD22.out.trans (hb23.mono HD22.out.size))
        clear hb23

        refine hK.out _ _ (HAS.out _ HD23.out) (fun hHeld23 => ?_)
        clear hK K
        refine wpAnyH_ready (rs := [18]) (by kernel_rfl) (by simp) ?_
        refine AllReadyH.cons (o := ({ dst := some 97, op := Op.call { callee := Callee.value (Operand.func 19), args := #[Operand.tmp 95, Operand.tmp 96], argTypes := #[25, 25] }, type := 4, pos := "more.go:70", after := #[{ on := 16, ground := Ground.data }, { on := 17, ground := Ground.data }, { on := 15, ground := Ground.chain }, { on := 12, ground := Ground.guard }], guard := some (12, true) } : Oper)) rfl (fun K hK => ?_) AllReadyH.nil
        go_simp
        go_at_call 19
        refine (sameQ_is p0 p1 _ _ HV.out.symm HU.out.symm _ (HPZ.out.next HD23.out) (HQZ.out.next HD23.out) (by have := (ok_pv HOP.out).1; omega) (by have := (ok_pv HOP.out).2.1; omega) (fun x hx => by have := (ok_pv HOP.out).2.2 x hx; omega) (fun x hx => by have := (ok_pv HOQ.out).2.2 x hx; omega)).mono ?_
        rintro e w24 ⟨⟨b24, rfl, hbb⟩, hb24⟩
        have HBB24 := Lib.hid hbb
        have HD24 : Hid (Below wr.heap.size wr w24) := Lib.hid (HD23.out.trans (hb24.mono HD23.out.size))
        clear hbb hb24

        refine hK.out _ _ (HAS.out _ HD24.out) (fun hHeld24 => ?_)
        clear hK K
        obtain rfl : b24 = sameB L3 L4 := by
          rw [Bool.eq_iff_iff, HBB24.out, ← HSE.out]
          simp [sameB]
        refine wpAnyH_take (i := 19) (oi := ({ dst := some 98, op := Op.binOp BinOp.eql 4 (Operand.tmp 94) (Operand.tmp 97) 4, type := 4, pos := "more.go:70", after := #[{ on := 15, ground := Ground.data }, { on := 18, ground := Ground.data }, { on := 12, ground := Ground.guard }], guard := some (12, true) } : Oper)) (v := ?_) rfl (by kernel_rfl) (by kernel_rfl) (by kernel_rfl) (fun _ _ _ h => h) (Or.inl ⟨by rfl, ?_⟩) (by assumption) ?_
        rotate_left
        · intro w hSw
          try dsimp only at hSw
          go_simp
          try with_reducible rfl
        simp only [Act.put, List.setIfInBounds_toArray, List.set_cons_zero, List.set_cons_succ]
        refine wpAnyH_take (i := 20) (oi := ({ dst := some 99, op := Op.pick (Operand.tmp 91) (Operand.tmp 98) (Operand.const (Value.bool false)), type := 4, pos := "more.go:70", after := #[{ on := 12, ground := Ground.data }, { on := 19, ground := Ground.data }], guard := none } : Oper)) (v := ?_) rfl (by kernel_rfl) (by kernel_rfl) (by kernel_rfl) (fun _ _ _ h => h) (Or.inl ⟨by rfl, ?_⟩) (by assumption) ?_
        rotate_left
        · intro w hSw
          try dsimp only at hSw
          go_simp
          try with_reducible rfl
        simp only [Act.put, List.setIfInBounds_toArray, List.set_cons_zero, List.set_cons_succ]
        refine wpAnyH_take (i := 21) (oi := ({ dst := some 4, op := Op.assign (Operand.tmp 99), type := 4, pos := "more.go:70", after := #[{ on := 20, ground := Ground.data }, { on := 18, ground := Ground.chain }, { on := 0, ground := Ground.phase }, { on := 1, ground := Ground.phase }, { on := 2, ground := Ground.phase }, { on := 3, ground := Ground.phase }, { on := 4, ground := Ground.phase }, { on := 5, ground := Ground.phase }, { on := 6, ground := Ground.phase }, { on := 7, ground := Ground.phase }, { on := 8, ground := Ground.phase }, { on := 9, ground := Ground.phase }, { on := 10, ground := Ground.phase }, { on := 11, ground := Ground.phase }, { on := 12, ground := Ground.phase }, { on := 13, ground := Ground.phase }, { on := 14, ground := Ground.phase }, { on := 15, ground := Ground.phase }, { on := 16, ground := Ground.phase }, { on := 17, ground := Ground.phase }, { on := 18, ground := Ground.phase }, { on := 19, ground := Ground.phase }, { on := 20, ground := Ground.phase }], guard := none } : Oper)) (v := ?_) rfl (by kernel_rfl) (by kernel_rfl) (by kernel_rfl) (fun _ _ _ h => h) (Or.inl ⟨by rfl, ?_⟩) (by assumption) ?_
        rotate_left
        · intro w hSw
          try dsimp only at hSw
          go_simp
          try with_reducible rfl
        simp only [Act.put, List.setIfInBounds_toArray, List.set_cons_zero, List.set_cons_succ]
        refine wpAnyH_done (by kernel_rfl) ?_ _
        go_wp2
        go_ret
        exact ⟨by simp, HBZ.out.trans (HD24.out.mono HBZ.out.size)⟩

set_option maxRecDepth 100000 in
theorem contract (H : Type) (enc : TypeId × Value → H) (W : World) (base : Nat) (args : Array Value) (ds gs : List (DataW H)) (before : List MemPlace)
    (hval : ∀ (j : Nat) t v, Tryd.f8.params[j]? = some t → args[j]? = some v → Value.okWide Tryd.prog W .any base t v)
    (hW : DataW.Whole enc Tryd.prog Tryd.f8.params.toList Rows.codecApartSpec.vars false W args.toList ds gs before) (hL : laidMetH Tryd.prog Rows.codecApartRow.laid W) :
    Calls Tryd.prog 8 args W fun e W' => ∃ v, e = .returned v ∧ Rows.codecApartSpec.post enc Tryd.prog Tryd.f8 false true false false W args v W' := by
  have hW' := hW
  obtain ⟨p, q, hA0, hV, rfl, hfz, hnd⟩ := hW
  have hA : DataW.TrodAll enc Tryd.prog W 0 (fun _ => true) true Tryd.f8.params.toList args.toList ds p := hA0
  rw [Tryd.params8] at hA hval
  obtain ⟨v0, vs0, d0, ds0, p0, q0, hargs, rfl, rfl, h0, r0⟩ := trodAll_cons hA
  obtain ⟨v1, vs1, d1, ds1, p1, q1, rfl, rfl, rfl, h1, r1⟩ := trodAll_cons r0
  obtain ⟨rfl, rfl, rfl⟩ := trodAll_nil r1
  obtain rfl : args = #[v0, v1] := by cases args; simp_all
  obtain ⟨rfl, rfl⟩ := trodVars_none hV
  obtain ⟨p0, rfl, hp0⟩ := open_prog (hval 0 25 v0 rfl rfl) h0
  obtain ⟨p1, rfl, hp1⟩ := open_prog (hval 1 25 v1 rfl rfl) h1
  clear hA0
  obtain ⟨ad, hE⟩ := codecApart_errs hL
  refine (walk W ad hE p0 hp0 p1 hp1).mono fun e W' ⟨he, hg⟩ => ?_
  subst he
  exact ⟨_, rfl, post_law kids full (by rw [Tryd.params8]; decide +kernel) rfl hW' rfl rfl rfl hg (by kernel_rfl) Tryd.underlying4⟩

theorem reads (os : Os) {H : Type} (enc : TypeId × Value → H) : ∃ places, DataW.whole enc Tryd.prog ((laidWorld os).forCall (fun _ _ => 0) ⟨#[], #[.agg #[.slice none 0 0, .slice none 0 0], .agg #[.slice none 0 0, .slice none 0 0]], []⟩).memory Tryd.f8.params.toList Rows.codecApartSpec.vars false #[.agg #[.slice none 0 0, .slice none 0 0], .agg #[.slice none 0 0, .slice none 0 0]].toList 8 = some ([.agg [.nil, .nil], .agg [.nil, .nil]], [], places) :=
  ⟨[], by kernel_rfl⟩

set_option maxRecDepth 100000 in
theorem lifted (os : Os) (started : os.Started) (H : Type) (enc : TypeId × Value → H) (F : Stop.Interp) :
    ReturnsInHanded {} Tryd.checked os 8 .any ((OpenSpec.ofChange Rows.codecApartSpec).preRow enc Tryd.prog Tryd.f8 Rows.codecApartRow.domain false Rows.codecApartRow.laid) (((OpenSpec.ofChange Rows.codecApartSpec).at F).post enc Tryd.prog Tryd.f8 false true false false) := by
  obtain ⟨places, hx⟩ := reads os enc
  refine returnsInHanded_of_row (C := Tryd.checked) (s := OpenSpec.ofChange Rows.codecApartSpec) own started (by kernel_rfl) Tryd.func8
    (witness_row_atRef (enc := enc) (C := Tryd.checked) false (laidWorld os) #[.agg #[.slice none 0 0, .slice none 0 0], .agg #[.slice none 0 0, .slice none 0 0]] rfl (by kernel_rfl) (by kernel_rfl) (by kernel_rfl)
      (OpenSpec.preRow_of_cond 8 hx (by kernel_rfl) (fun k hk => by cases hk) (by kernel_rfl) (codecApart_met os _))) ?_
  intro W base args ds gs before hval hW _ _ _ hL _ _
  exact contract H enc W base args ds gs before hval hW hL

theorem said : Rows.CodecApartSaid :=
  OpenClaim.holds_of_cond 8 Tryd.f8 rfl rfl rfl rfl rfl rfl rfl ⟨rfl, rfl, rfl, rfl, rfl⟩ rfl rfl rfl rfl rfl (by kernel_rfl) Tryd.func8 (by kernel_rfl)
    (of_decide_eq_true (by kernel_rfl)) (by unfold Func.isWrapper; first | (rw [if_pos (by decide +kernel)]; kernel_rfl) | (rw [if_neg (by decide +kernel)]; exact ⟨rfl, rfl⟩))
    (fun os started H enc _ F => by rw [OpenClaim.pre_eq_preRow]; exact lifted os started H enc F)

theorem plain (f : FuncId) (fn : Func) (hf : Tryd.pinned.checked.prog.funcNamed "overdrive/overdrivelaw4.CodecApart" = some f) (hfn : Tryd.pinned.checked.prog.funcs[f]? = some fn) :
    true = Tryd.pinned.checked.prog.looks [] ∧ ∀ (j : Nat) t, fn.params[j]? = some t → Tryd.pinned.checked.prog.wantsStandIn t = false := by
  obtain rfl : f = 8 := Option.some.inj ((show Tryd.prog.funcNamed "overdrive/overdrivelaw4.CodecApart" = some 8 by kernel_rfl).symm.trans hf) |>.symm
  obtain rfl : fn = Tryd.f8 := (Option.some.inj (Tryd.func8.symm.trans hfn)).symm
  refine ⟨by kernel_rfl, fun j t ht => ?_⟩
  have hm := Array.mem_of_getElem? ht
  have hall : (Tryd.f8.params.toList.all fun t => Tryd.prog.wantsStandIn t == false) = true := by kernel_rfl
  have hw : Tryd.prog.wantsStandIn t = false := by simpa using List.all_eq_true.1 hall t (by simpa using hm)
  exact hw

theorem card : Rows.CodecApartCardSaid :=
  Claim7.holds_tied_plain_at .later [] _ _ _ _ said (fun _ h => by cases h) (by kernel_rfl) (fun _ h => by cases h) codecApart_row_tie rfl ⟨rfl, rfl⟩ (by kernel_rfl) rfl plain (by kernel_rfl)
#print axioms card
end Go.Proofs.YtnojejplckhifaaDoor.codecApart
