/- CodecBack, the card: for every input the call returns true and each argument reads afterwards as it read before; no further conditions. -/
import Derived.Test.YtnojejplckhifaaDoorLaw5
import Derived.Test.YtnojejplckhifaaDoorDoor4
import Derived.Test.YtnojejplckhifaaDoorCards
import Derived.Test.YtnojejplckhifaaDoorTie
namespace Go.Proofs.YtnojejplckhifaaDoor.codecBack
open Go.RowKit Go.ChangeShapes Go.WideShapes Go.ChangeAt
set_option linter.unusedVariables false

theorem own : ownKnob Tryd.prog.godebug = none := by kernel_rfl
theorem kids : Kids Tryd.prog (· < Tryd.prog.types.size) := kids_rows (by kernel_rfl) (by kernel_rfl)
theorem full : ∀ t e, t < Tryd.prog.types.size → Tryd.prog.underlying t = some (.slice e) → 0 < Tryd.prog.cellsOf e := slices_full_of Tryd.prog (by kernel_rfl)

set_option maxRecDepth 100000 in
set_option maxHeartbeats 8000000 in
theorem walk (w : World) (ad : Nat → Addr) (hE : Errs w ad) (p0 : PV) (hp0 : PArg w p0) (A1 : Option Addr) (n1 c1 : Nat) (z1 : List Int) (hc1 : n1 ≤ c1) (hn1 : c1 ≤ maxLen) (hl1 : z1.length = n1) (hr1 : Reads w w.heap.size 1 A1 n1 (z1.map (Value.int .u8))) (hw1 : ∀ z ∈ z1, (Lit.int .u8 z).wf = true) :
    Calls Tryd.prog 4 #[p0.val, .slice A1 n1 c1] w fun e w' => e = .returned (.bool true) ∧ Below w.heap.size w w' := by
  obtain ⟨hb1, hb2⟩ := bytes_nat z1 hw1
  obtain ⟨l, hl⟩ : ∃ l, l = z1.map Int.toNat := ⟨_, rfl⟩
  rw [hb1] at hr1
  rw [← hl] at hr1 hb2
  have hln : l.length = n1 := by rw [hl]; simpa using hl1
  have HR := Lib.hid hr1
  have HL := Lib.hid hln
  have HBY := Lib.hid hb2
  have HE := Lib.hid hE
  have HPA := Lib.hid hp0
  obtain ⟨N1, hN1⟩ : ∃ n, n = p0.cls.length := ⟨_, rfl⟩
  obtain ⟨N2, hN2⟩ : ∃ n, n = p0.ms.length := ⟨_, rfl⟩
  have HV : Hid (p0.val = .agg #[.slice p0.A N1 p0.c, .slice p0.B N2 p0.d]) := Lib.hid (by unfold PV.val; rw [← hN1, ← hN2])
  rw [HV.out]
  clear hw1 hb1 hr1 hb2 hl hl1 hln hE hp0 hN1 hN2
  obtain ⟨W, hW⟩ : ∃ W, W = w.alloc (.cells #[.slice p0.A N1 p0.c, .slice p0.B N2 p0.d] 25) := ⟨_, rfl⟩
  have HBW : Hid (Below w.heap.size w W) := Lib.hid (by rw [hW]; exact (Below.refl _ _).alloc (Nat.le_refl _) _)
  have HK : Hid (Blk W w.heap.size 25 #[.slice p0.A N1 p0.c, .slice p0.B N2 p0.d]) := Lib.hid (by rw [hW]; exact Blk.new _ _ _)
  have HPW : Hid (PAt W W.heap.size p0) := Lib.hid (HPA.out.pat.next HBW.out)
  obtain ⟨gp, hgp⟩ : ∃ g, g = w.heap.size := ⟨_, rfl⟩
  go_enter Tryd.func4, Tryd.ntmps4
  go_wp2_with fail
  rw [← hW]
  clear hW
  rw [← hgp] at HK ⊢
  clear hgp
  refine (first_any ad _ (HE.out.below HBW.out)).mono ?_
  rintro e w1 ⟨rfl, hb1⟩
  have HB1 : Hid (Below w.heap.size w w1) := Lib.hid (HBW.out.trans (hb1.mono HBW.out.size))
  have HK1 := Lib.hid (HK.out.below hb1 HK.out.lt)
  have HP1 := Lib.hid (HPW.out.next hb1)
  have x0 : w1.cell? ⟨gp, 0, none⟩ = some (.slice p0.A N1 p0.c) := HK1.out.cell 0
  have x1 : w1.cell? ⟨gp, 1, none⟩ = some (.slice p0.B N2 p0.d) := HK1.out.cell 1
  have gpl := HK1.out.lt
  clear hb1 HK HPW HBW
  go_wp2_with fail
  refine (light_is p0 _ HV.out.symm _ HP1.out).mono ?_
  rintro e w2 ⟨⟨b, rfl, hli⟩, hb2⟩
  have HLI := Lib.hid hli
  have HB2 : Hid (Below w.heap.size w w2) := Lib.hid (HB1.out.trans (hb2.mono HB1.out.size))
  have HK2 := Lib.hid (HK1.out.below hb2 HK1.out.lt)
  have HP2 := Lib.hid (HP1.out.next hb2)
  clear x0 x1 gpl hli hb2 HB1 HK1 HP1
  cases b
  · go_wp2
    go_ret
    exact ⟨rfl, HB2.out⟩
  have HLP : Hid (LightP p0) := Lib.hid (HLI.out rfl)
  clear HLI
  by_cases hn : 20000 < n1
  · have t1 : decide ((20000 : Int) < (n1 : Int)) = true := by simp; omega
    go_wp2
    go_ret
    exact ⟨rfl, HB2.out⟩
  have t1 : decide ((20000 : Int) < (n1 : Int)) = false := by simp; omega
  have x0 : w2.cell? ⟨gp, 0, none⟩ = some (.slice p0.A N1 p0.c) := HK2.out.cell 0
  have x1 : w2.cell? ⟨gp, 1, none⟩ = some (.slice p0.B N2 p0.d) := HK2.out.cell 1
  have gpl := HK2.out.lt
  go_wp2_with fail
  refine (encode_is p0 _ HV.out.symm _ rfl ad _ (HE.out.below HB2.out) HP2.out HPA.out.cl (Nat.le_trans HPA.out.cn.1 HPA.out.cn.2) (Nat.le_trans HPA.out.mn.1 HPA.out.mn.2) (fun x hx => ⟨(HPA.out.ml x hx).par, (HPA.out.ml x hx).loc, Nat.le_trans (HPA.out.ml x hx).code.1 (HPA.out.ml x hx).code.2⟩) (fun x hx => by have := HLP.out.2.2.2 x hx; unfold maxLen; omega) HPA.out.num).mono ?_
  rintro e w3 he
  obtain ⟨hb3, A3, n3, c3, v3, rfl, hf3, hE3, _⟩ := epost_any he
  obtain ⟨o, ho⟩ : ∃ o, o = (encO p0.prg).2 := ⟨_, rfl⟩
  rw [← ho] at hf3 hE3
  have HF3 := Lib.hid hf3
  have HE3 := Lib.hid hE3
  have HB3 : Hid (Below w.heap.size w w3) := Lib.hid (HB2.out.trans (hb3.mono HB2.out.size))
  have HK3 := Lib.hid (HK2.out.below hb3 HK2.out.lt)
  have HP3 := Lib.hid (HP2.out.next hb3)
  clear ho he hb3 hf3 hE3 x0 x1 gpl HK2 HP2 hn t1
  have x0 : w3.cell? ⟨gp, 0, none⟩ = some (.slice p0.A N1 p0.c) := HK3.out.cell 0
  have x1 : w3.cell? ⟨gp, 1, none⟩ = some (.slice p0.B N2 p0.d) := HK3.out.cell 1
  have gpl := HK3.out.lt
  obtain ⟨tb, htb⟩ : ∃ tb : Bool, tb = o.isNone := ⟨_, rfl⟩
  have HTB := Lib.hid htb
  clear htb
  go_upto_region 5 with fail
  go_cut [34] from 33 to 34 (fun u wx => u = .bool tb ∧ w3 = wx)
  case first =>
    as_aux_lemma =>
      cases o with
      | some f =>
        obtain ⟨tt, uu, hvv⟩ := flt_iface HF3.out
        subst hvv
        obtain rfl : tb = false := HTB.out
        go_wp2_with fail
        go_meet
        case rel => exact ⟨rfl, rfl⟩
      | none =>
        obtain rfl : v3 = .nilIface := HF3.out
        obtain rfl : tb = true := HTB.out
        go_wp2_with fail
        go_meet
        case rel => exact ⟨rfl, rfl⟩
  case rest =>
  obtain ⟨rfl, rfl⟩ := hcut
  go_upto_if 34 with fail
  go_cut [] from 8 to 47 (fun wx => Below w.heap.size w wx)
  case first =>
    as_aux_lemma =>
      cases o with
      | some f =>
        obtain rfl : tb = false := HTB.out
        go_wp2_with fail
        go_meet
        case rel => exact HB3.out
      | none =>
        obtain rfl : tb = true := HTB.out
        have HEN := Lib.hid (HE3.out rfl)
        have HOP : Hid (okP p0.prg) := Lib.hid (may_ok _ HEN.out.may HPA.out.num)
        have HDE : Hid (decP (encP p0.prg) = (some p0.prg, none)) := Lib.hid (dec_enc _ HOP.out HEN.out.may (by rw [← HEN.out.len]; exact HEN.out.small))
        go_wp2_with fail
        refine (decode_is A3 n3 c3 (encP p0.prg) _ HDE.out ad _ HEN.out.rd (encP_lt _ HOP.out) HEN.out.cap.1 HEN.out.cap.2 (HE.out.below HB3.out)).mono ?_
        rintro e w4 he
        obtain ⟨hb4, q, hq, rfl, hpq⟩ := dpost_some he
        have HB4 : Hid (Below w.heap.size w w4) := Lib.hid (HB3.out.trans (hb4.mono HB3.out.size))
        have HP4 := Lib.hid (HP3.out.next hb4)
        have HK4 := Lib.hid (HK3.out.below hb4 HK3.out.lt)
        have HQ := Lib.hid hq
        have HPQ := Lib.hid hpq
        have y0 : w4.cell? ⟨gp, 0, none⟩ = some (.slice p0.A N1 p0.c) := HK4.out.cell 0
        have y1 : w4.cell? ⟨gp, 1, none⟩ = some (.slice p0.B N2 p0.d) := HK4.out.cell 1
        have gpl4 := HK4.out.lt
        have HBA : Hid (∀ o, Below w4.heap.size w4 (w4.alloc o)) := Lib.hid (fun o => (Below.refl _ _).alloc (Nat.le_refl _) o)
        have HOQ : Hid (okP q.prg) := Lib.hid (by rw [hq]; exact HOP.out)
        unfold PV.val
        clear he hb4 hq hpq x0 x1 gpl
        go_wp2_with fail
        refine (sameQ_is p0 q _ _ HV.out.symm rfl _ (HP4.out.next (HBA.out _)) (HPQ.out.next (HBA.out _)) (by have := (ok_pv HOP.out).1; omega) (by have := (ok_pv HOP.out).2.1; omega) (fun x hx => by have := (ok_pv HOP.out).2.2 x hx; omega) (fun x hx => by have := (ok_pv HOQ.out).2.2 x hx; omega)).mono ?_
        rintro e w6 ⟨⟨b, rfl, hbb⟩, hb6⟩
        obtain rfl : b = true := hbb.2 HQ.out.symm
        have HB6 : Hid (Below w.heap.size w w6) := Lib.hid ((HB4.out.trans ((HBA.out _).mono HB4.out.size)).trans (hb6.mono (by have := HB4.out.size; simp; omega)))
        clear hbb hb6
        go_wp2_with fail
        go_meet
        case rel => exact HB6.out
  case rest =>
    as_aux_lemma =>
      have HBC := Lib.hid hcut
      clear HF3 HE3 HB3 HK3 HP3 x0 x1 gpl HB2
      go_wp2_with fail
      refine (decode_any A1 n1 c1 l ad _ ((HR.out.below HBC.out).more HBC.out.size) HBY.out hc1 hn1 (HE.out.below HBC.out)).mono ?_
      rintro e w4 he
      rcases dec_cases l with ⟨P, hP⟩ | ⟨f, hf⟩
      · rw [hP] at he
        obtain ⟨hOK, _, _, _⟩ := dec_is l HBY.out P none hP
        obtain ⟨hb4, q, hq, rfl, hpq⟩ := dpost_some he
        have HB4 : Hid (Below w.heap.size w w4) := Lib.hid (HBC.out.trans (hb4.mono HBC.out.size))
        have HOQ : Hid (okP q.prg) := Lib.hid (by rw [hq]; exact hOK)
        have HEO : Hid (encO q.prg = (some l, none)) := Lib.hid (by rw [hq]; exact enc_dec HBY.out hP)
        have HPQ := Lib.hid hpq
        have HBA : Hid (∀ o, Below w4.heap.size w4 (w4.alloc o)) := Lib.hid (fun o => (Below.refl _ _).alloc (Nat.le_refl _) o)
        obtain ⟨M1, hM1⟩ : ∃ n, n = q.cls.length := ⟨_, rfl⟩
        obtain ⟨M2, hM2⟩ : ∃ n, n = q.ms.length := ⟨_, rfl⟩
        have HVQ : Hid (q.val = .agg #[.slice q.A M1 q.c, .slice q.B M2 q.d]) := Lib.hid (by unfold PV.val; rw [← hM1, ← hM2])
        rw [HVQ.out]
        have hnl : n1 ≤ 16384 := by have := dec_small hP; have := HL.out; omega
        clear he hP hOK hb4 hq hpq hM1 hM2
        go_wp2_with fail
        refine (encode_ok q _ HVQ.out.symm _ HEO.out ad _ (HE.out.below (HB4.out.trans ((HBA.out _).mono HB4.out.size))) (HPQ.out.next (HBA.out _)) HOQ.out).mono ?_
        rintro e w5 he
        obtain ⟨hb5, A5, c5, rfl, hown5⟩ := epost_some he
        have HB5 : Hid (Below w.heap.size w w5) := Lib.hid ((HB4.out.trans ((HBA.out _).mono HB4.out.size)).trans (hb5.mono (by have := HB4.out.size; simp; omega)))
        have HR5 : Hid (Reads w5 w5.heap.size 1 A5 l.length (l.map bv)) := Lib.hid (Reads.of_own hown5)
        rw [HL.out] at HR5
        rw [HL.out]
        clear he hb5 hown5
        go_wp2_with fail
        refine (same_any A5 A1 n1 n1 c5 c1 l l _ HR5.out ((HR.out.below HB5.out).more HB5.out.size) (by omega)).mono ?_
        rintro e w6 ⟨rfl, hb6⟩
        rw [show sameB l l = true by simp [sameB]]
        have HB6 : Hid (Below w.heap.size w w6) := Lib.hid (HB5.out.trans (hb6.mono HB5.out.size))
        clear hb6
        go_wp2
        go_ret
        exact ⟨rfl, HB6.out⟩
      · rw [hf] at he
        obtain ⟨hb4, v4, rfl, hf4⟩ := dpost_none he
        obtain ⟨tt, uu, hvv⟩ := flt_iface hf4
        subst hvv
        have HB4 : Hid (Below w.heap.size w w4) := Lib.hid (HBC.out.trans (hb4.mono HBC.out.size))
        have HBA : Hid (∀ o, Below w.heap.size w (w4.alloc o)) := Lib.hid (fun o => HB4.out.alloc HB4.out.size o)
        clear he hf hb4 hf4
        go_wp2
        go_ret
        exact ⟨rfl, HBA.out _⟩

set_option maxRecDepth 100000 in
theorem contract (H : Type) (enc : TypeId × Value → H) (W : World) (base : Nat) (args : Array Value) (ds gs : List (DataW H)) (before : List MemPlace)
    (hval : ∀ (j : Nat) t v, Tryd.f4.params[j]? = some t → args[j]? = some v → Value.okWide Tryd.prog W .any base t v)
    (hW : DataW.Whole enc Tryd.prog Tryd.f4.params.toList Rows.codecBackSpec.vars false W args.toList ds gs before) (hL : laidMetH Tryd.prog Rows.codecBackRow.laid W) :
    Calls Tryd.prog 4 args W fun e W' => ∃ v, e = .returned v ∧ Rows.codecBackSpec.post enc Tryd.prog Tryd.f4 false true false false W args v W' := by
  have hW' := hW
  obtain ⟨p, q, hA0, hV, rfl, hfz, hnd⟩ := hW
  have hA : DataW.TrodAll enc Tryd.prog W 0 (fun _ => true) true Tryd.f4.params.toList args.toList ds p := hA0
  rw [Tryd.params4] at hA hval
  obtain ⟨v0, vs0, d0, ds0, p0, q0, hargs, rfl, rfl, h0, r0⟩ := trodAll_cons hA
  obtain ⟨v1, vs1, d1, ds1, p1, q1, rfl, rfl, rfl, h1, r1⟩ := trodAll_cons r0
  obtain ⟨rfl, rfl, rfl⟩ := trodAll_nil r1
  obtain rfl : args = #[v0, v1] := by cases args; simp_all
  obtain ⟨rfl, rfl⟩ := trodVars_none hV
  obtain ⟨p0, rfl, hp0⟩ := open_prog (hval 0 25 v0 rfl rfl) h0
  obtain ⟨A1, n1, c1, z1, rfl, hc1, hn1, hl1, hr1, hw1⟩ := open_row_ints Tryd.underlying26 Tryd.underlying5 (by kernel_rfl) (hval 1 26 v1 rfl rfl) h1
  clear hA0
  obtain ⟨ad, hE⟩ := codecBack_errs hL
  refine (walk W ad hE p0 hp0 A1 n1 c1 z1 hc1 hn1 hl1 hr1 hw1).mono fun e W' ⟨he, hg⟩ => ?_
  subst he
  exact ⟨_, rfl, post_law kids full (by rw [Tryd.params4]; decide +kernel) rfl hW' rfl rfl rfl hg (by kernel_rfl) Tryd.underlying4⟩

theorem reads (os : Os) {H : Type} (enc : TypeId × Value → H) : ∃ places, DataW.whole enc Tryd.prog ((laidWorld os).forCall (fun _ _ => 0) ⟨#[], #[.agg #[.slice none 0 0, .slice none 0 0], .slice none 0 0], []⟩).memory Tryd.f4.params.toList Rows.codecBackSpec.vars false #[.agg #[.slice none 0 0, .slice none 0 0], .slice none 0 0].toList 8 = some ([.agg [.nil, .nil], .nil], [], places) :=
  ⟨[], by kernel_rfl⟩

set_option maxRecDepth 100000 in
theorem lifted (os : Os) (started : os.Started) (H : Type) (enc : TypeId × Value → H) (F : Stop.Interp) :
    ReturnsInHanded {} Tryd.checked os 4 .any ((OpenSpec.ofChange Rows.codecBackSpec).preRow enc Tryd.prog Tryd.f4 Rows.codecBackRow.domain false Rows.codecBackRow.laid) (((OpenSpec.ofChange Rows.codecBackSpec).at F).post enc Tryd.prog Tryd.f4 false true false false) := by
  obtain ⟨places, hx⟩ := reads os enc
  refine returnsInHanded_of_row (C := Tryd.checked) (s := OpenSpec.ofChange Rows.codecBackSpec) own started (by kernel_rfl) Tryd.func4
    (witness_row_atRef (enc := enc) (C := Tryd.checked) false (laidWorld os) #[.agg #[.slice none 0 0, .slice none 0 0], .slice none 0 0] rfl (by kernel_rfl) (by kernel_rfl) (by kernel_rfl)
      (OpenSpec.preRow_of_cond 8 hx (by kernel_rfl) (fun k hk => by cases hk) (by kernel_rfl) (codecBack_met os _))) ?_
  intro W base args ds gs before hval hW _ _ _ hL _ _
  exact contract H enc W base args ds gs before hval hW hL

theorem said : Rows.CodecBackSaid :=
  OpenClaim.holds_of_cond 4 Tryd.f4 rfl rfl rfl rfl rfl rfl rfl ⟨rfl, rfl, rfl, rfl, rfl⟩ rfl rfl rfl rfl rfl (by kernel_rfl) Tryd.func4 (by kernel_rfl)
    (of_decide_eq_true (by kernel_rfl)) (by unfold Func.isWrapper; first | (rw [if_pos (by decide +kernel)]; kernel_rfl) | (rw [if_neg (by decide +kernel)]; exact ⟨rfl, rfl⟩))
    (fun os started H enc _ F => by rw [OpenClaim.pre_eq_preRow]; exact lifted os started H enc F)

theorem plain (f : FuncId) (fn : Func) (hf : Tryd.pinned.checked.prog.funcNamed "overdrive/overdrivelaw4.CodecBack" = some f) (hfn : Tryd.pinned.checked.prog.funcs[f]? = some fn) :
    true = Tryd.pinned.checked.prog.looks [] ∧ ∀ (j : Nat) t, fn.params[j]? = some t → Tryd.pinned.checked.prog.wantsStandIn t = false := by
  obtain rfl : f = 4 := Option.some.inj ((show Tryd.prog.funcNamed "overdrive/overdrivelaw4.CodecBack" = some 4 by kernel_rfl).symm.trans hf) |>.symm
  obtain rfl : fn = Tryd.f4 := (Option.some.inj (Tryd.func4.symm.trans hfn)).symm
  refine ⟨by kernel_rfl, fun j t ht => ?_⟩
  have hm := Array.mem_of_getElem? ht
  have hall : (Tryd.f4.params.toList.all fun t => Tryd.prog.wantsStandIn t == false) = true := by kernel_rfl
  have hw : Tryd.prog.wantsStandIn t = false := by simpa using List.all_eq_true.1 hall t (by simpa using hm)
  exact hw

theorem card : Rows.CodecBackCardSaid :=
  Claim7.holds_tied_plain_at .later [] _ _ _ _ said (fun _ h => by cases h) (by kernel_rfl) (fun _ h => by cases h) codecBack_row_tie rfl ⟨rfl, rfl⟩ (by kernel_rfl) rfl plain (by kernel_rfl)
#print axioms card
end Go.Proofs.YtnojejplckhifaaDoor.codecBack
