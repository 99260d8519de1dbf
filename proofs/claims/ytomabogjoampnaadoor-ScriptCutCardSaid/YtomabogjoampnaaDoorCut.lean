/- ScriptCut, the card: for every input the call returns true and each argument reads afterwards as it read before; no further conditions. -/
import Derived.Test.YtomabogjoampnaaDoorCutQ
import Derived.Test.YtomabogjoampnaaDoorPrint2
import Derived.Test.YtomabogjoampnaaDoorParse
import Derived.Test.YtomabogjoampnaaDoorDoor
import Derived.Test.YtomabogjoampnaaDoorCards
import Derived.Test.YtomabogjoampnaaDoorTie
namespace Go.Proofs.YtomabogjoampnaaDoor.scriptCut
open Go.RowKit Go.ChangeShapes Go.WideShapes Go.ChangeAt
set_option linter.unusedVariables false

theorem own : ownKnob Tryd.prog.godebug = none := by kernel_rfl
theorem kids : Kids Tryd.prog (· < Tryd.prog.types.size) := kids_rows (by kernel_rfl) (by kernel_rfl)
theorem full : ∀ t e, t < Tryd.prog.types.size → Tryd.prog.underlying t = some (.slice e) → 0 < Tryd.prog.cellsOf e := slices_full_of Tryd.prog (by kernel_rfl)

theorem fld0 (cd : Int) (A : Option Addr) (m d : Nat) (w : World) : (Instr.field 32 (.agg #[.int .i64 cd, .slice A m d]) 0).run Tryd.prog w = .ok (.int .i64 cd) w := by kernel_rfl
set_option maxRecDepth 100000 in
set_option maxHeartbeats 2000000 in
theorem walk (w : World) (ads : List Addr) (e1 : ads.length = lst14.length) (e2 : ads.Nodup) (e3 : ∀ (i : Nat) x a g, lst14[i]? = some x → ads[i]? = some a → Tryd.prog.globalNamed x.1 = some g → SentAt w g a) (A0 : Option Addr) (n0 c0 : Nat) (z0 : List Pk) (hc0 : n0 ≤ c0) (hn0 : c0 ≤ maxLen) (hl0 : z0.length = n0) (hr0 : Reads w w.heap.size 4 A0 n0 (pks z0)) (a1 : Int) (w1 : (Lit.int .i64 a1).wf = true) :
    Calls Tryd.prog 7 #[.slice A0 n0 c0, .int .i64 a1] w fun e w' => e = .returned (.bool true) ∧ Below w.heap.size w w' := by
  have hE := errs_of e1 e2 e3
  obtain ⟨ad, had⟩ : ∃ ad : Nat → Addr, ad = fun i => ads.getD i ⟨0, 0, none⟩ := ⟨_, rfl⟩
  rw [← had] at hE
  have HE := Lib.hid hE
  have HR0 := Lib.hid hr0
  have HL0 := Lib.hid hl0
  clear e1 e2 e3 hE had hr0 hl0 w1
  by_cases h100 : 100 < n0
  · have t1 : decide (100 < n0) = true := by simpa using h100
    go_enter Tryd.func7, Tryd.ntmps7
    go_wp2_with fail
    refine (first_any _ _ _ _ HE.out.e3).mono ?_
    rintro e w1 ⟨rfl, hb1⟩
    go_wp2
    go_ret
    exact ⟨rfl, hb1⟩
  have t1 : decide (100 < n0) = false := by simpa using h100
  cases hm : mayF 0 0 z0 with
  | some ic =>
    have HM := Lib.hid hm
    clear hm
    go_enter Tryd.func7, Tryd.ntmps7
    go_wp2_with fail
    refine (first_any _ _ _ _ HE.out.e3).mono ?_
    rintro e w1 ⟨rfl, hb1⟩
    have HB1 := Lib.hid hb1
    clear hb1
    go_wp2_with fail
    go_must (refine (rmay_in A0 n0 c0 z0 _ ((HR0.out.below HB1.out).more HB1.out.size) HL0.out (by omega)).mono ?_)
    rintro e w3 ⟨cd, A3, m3, d3, rfl, hcd, hb3⟩
    unfold fV
    have hfl := fld0
    have tcd : (cd == 0) = false := by
      have : cd ≠ 0 := fun h => by have := hcd.1 h; rw [HM.out] at this; cases this
      simpa using this
    have tcd' : (cd != 0) = true := by rw [bne, tcd]; rfl
    have HB3 : Hid (Below w.heap.size w w3) := Lib.hid (HB1.out.trans (hb3.mono HB1.out.size))
    clear hb3 hcd
    go_wp2
    go_ret
    exact ⟨rfl, HB3.out⟩
  | none =>
    have HM := Lib.hid hm
    clear hm
    have HPL := Lib.hid (prn_len z0 0)
    have HPB := Lib.hid (prn_bytes z0 0)
    have HRA := Lib.hid (run_prn_all z0 HM.out)
    have HPN := Lib.hid (prn_nil_iff z0)
    go_enter Tryd.func7, Tryd.ntmps7
    go_wp2_with fail
    refine (first_any _ _ _ _ HE.out.e3).mono ?_
    rintro e w1 ⟨rfl, hb1⟩
    have HB1 := Lib.hid hb1
    clear hb1
    go_wp2_with fail
    go_must (refine (rmay_in A0 n0 c0 z0 _ ((HR0.out.below HB1.out).more HB1.out.size) HL0.out (by omega)).mono ?_)
    rintro e w3 ⟨cd, A3, m3, d3, rfl, hcd, hb3⟩
    unfold fV
    have hfl := fld0
    have tcd : cd = 0 := hcd.2 HM.out
    subst tcd
    have HB3 : Hid (Below w.heap.size w w3) := Lib.hid (HB1.out.trans (hb3.mono HB1.out.size))
    have HE3 := Lib.hid (HE.out.below HB3.out).e3
    clear hb3 hcd
    go_wp2_with fail
    go_must (refine (print_ok2 A0 n0 c0 z0 (ad 1) (ad 2) (ad 4) _ ((HR0.out.below HB3.out).more HB3.out.size) HL0.out (by omega) HE3.out.hg HE3.out.hk HE3.out.hi HE3.out.hs HM.out).mono ?_)
    rintro e w4 ⟨BA, bc, rfl, hr4, hb4, hcp4, hcm4⟩
    obtain ⟨B, hB⟩ : ∃ B, B = prn 0 z0 := ⟨_, rfl⟩
    rw [← hB] at hr4 hcp4 HPL HPB HRA HPN ⊢
    clear hB
    obtain ⟨N, hN⟩ : ∃ N, N = B.length := ⟨_, rfl⟩
    rw [← hN] at hr4 hcp4 HPL HPN ⊢
    have HN := Lib.hid hN
    have HR4 := Lib.hid hr4
    have HB4 : Hid (Below w.heap.size w w4) := Lib.hid (HB3.out.trans (hb4.mono HB3.out.size))
    have hN4 : N ≤ 4000 := by have := HPL.out; have := HL0.out; omega
    clear hr4 hb4 hN
    by_cases hN0 : N = 0
    · have hz : n0 = 0 := by have := HPN.out.1 hN0; have := HL0.out; simp_all
      have tN : ((N : Int) == 0) = true := by simp; omega
      have tz : ((n0 : Int) == 0) = true := by simp; omega
      clear hN0 hz
      go_wp2
      go_ret
      exact ⟨rfl, HB4.out⟩
    · have tN : ((N : Int) == 0) = false := by simp; omega
      have hNp : (0 : Int) < (N : Int) := by omega
      obtain ⟨t1, ht1⟩ : ∃ t1, a1.tmod (N : Int) = t1 := ⟨_, rfl⟩
      have hb1 : -(N : Int) < t1 ∧ t1 < N := by
        have h1 := Int.tmod_lt_of_pos a1 hNp
        have h2 := Int.tmod_lt_of_pos (-a1) hNp
        rw [Int.neg_tmod] at h2
        omega
      obtain ⟨t, ht⟩ : ∃ t : Nat, (t1 + (N : Int)).tmod (N : Int) = (t : Int) := ⟨((t1 + (N : Int)).tmod (N : Int)).toNat, by have := Int.tmod_nonneg (N : Int) (show 0 ≤ t1 + (N : Int) by omega); omega⟩
      have htN : t < N := by have := Int.tmod_lt_of_pos (t1 + (N : Int)) hNp; omega
      have b2 : (t : Int) ≤ bc := by omega
      have b3 : (0 : Int) ≤ t := by omega
      have b4 : t ≤ bc := by omega
      have hb1a := hb1.1
      have hb1b := hb1.2
      have nz : (N : Int) ≠ 0 := by omega
      have nz2 : (N : Int) ≠ -1 := by omega
      clear hN0 hb1
      go_wp2_with fail
      obtain ⟨C, hC⟩ : ∃ C, C = B.take t := ⟨_, rfl⟩
      have hCl : C.length = t := by rw [hC, List.length_take]; have := HN.out; omega
      have HCL := Lib.hid hCl
      have HRC : Hid (Reads w4 w4.heap.size 1 BA t (C.map bv)) := Lib.hid (by rw [hC, List.map_take]; have := HR4.out.take (k := t) (by omega); simpa using this)
      have HBC : Hid (B = C ++ B.drop t) := Lib.hid (by rw [hC]; exact (List.take_append_drop t B).symm)
      have HCB : Hid (∀ x ∈ C, x < 256) := Lib.hid (fun x hx => HPB.out x (by rw [hC] at hx; exact List.mem_of_mem_take hx))
      have HE4 := Lib.hid (HE.out.below HB4.out)
      clear hC hCl
      go_must (refine (parse_any BA t bc C ad _ HRC.out HCB.out (by omega) (by omega) hcm4 (ad 1) (ad 2) (ad 4) HE4.out.e3 (HE4.out.cell 6 (by decide)) (HE4.out.cell 5 (by decide)) (ad 0) (HE4.out.cell 0 (by decide)) (by have := HE4.out.big; omega)).mono ?_)
      rintro e w5 ⟨hb5, hres⟩
      have HB5 : Hid (Below w.heap.size w w5) := Lib.hid (HB4.out.trans (hb5.mono HB4.out.size))
      clear hb5
      obtain ⟨leB, hlB⟩ := HRA.out
      have HLB := Lib.hid hlB
      clear hlB
      rcases hres with ⟨z, le, hrun, hz4, hzm, PA, pc, rfl, hrz⟩ | ⟨z, le, hrun, hbad, tt, vv, rfl⟩ | ⟨out0, last0, a0, x, k, pos, p, g1, g2, g3, g4, rfl, g6⟩
      · have hcut := cut_ok HBC.out (by have := HCL.out; have := HN.out; omega) HLB.out hrun
        have hzl : z.length < n0 := by have := HL0.out; omega
        have HZT := Lib.hid hcut.1
        have HRZ := Lib.hid hrz
        clear hrun hzm hrz hcut
        obtain ⟨m, hmz⟩ : ∃ m, m = z.length := ⟨_, rfl⟩
        rw [← hmz] at HRZ HZT hzl hz4 ⊢
        have HMZ := Lib.hid hmz
        clear hmz
        have tl : decide ((m : Int) < n0) = true := by simp; omega
        have tl' : decide (m < n0) = true := by simp; omega
        have d1 : (m : Int) ≤ c0 := by omega
        have d2 : (0 : Int) ≤ m := by omega
        go_wp2_with fail
        go_must (refine (samePs_any PA A0 m m pc c0 z (z0.take m) _ HRZ.out HMZ.out.symm (by rw [pks_take z0 m (by have := HL0.out; omega)]; exact ((HR0.out.below HB5.out).more HB5.out.size).take (by omega)) (by rw [List.length_take]; have := HL0.out; omega) (by omega)).mono ?_)
        rintro e w6 ⟨⟨bb, rfl, hbb⟩, hb6⟩
        obtain rfl : bb = true := hbb.2 HZT.out
        have HB6 : Hid (Below w.heap.size w w6) := Lib.hid (HB5.out.trans (hb6.mono HB5.out.size))
        clear hb6 hbb
        go_wp2
        go_ret
        exact ⟨rfl, HB6.out⟩
      · exfalso
        have hcut := cut_ok HBC.out (by have := HCL.out; have := HN.out; omega) HLB.out hrun
        rcases hbad with hbad | hbad
        · have := HL0.out; omega
        · apply hbad
          rw [hcut.1]
          exact mayF_take z0 _ 0 0 HM.out
      · obtain ⟨rfl, hpos⟩ := cut_err HCB.out HBC.out HLB.out g1 g2 g3 g4
        obtain rfl : pos = t := hpos.trans HCL.out
        have HK6 := Lib.hid g6
        clear g1 g2 g3 g4 g6 hpos
        go_wp2_with fail
        go_must (refine (placed_any 106 pos _ (by decide)).mono ?_)
        rintro e w6 ⟨b6, rfl, hge6, hk6, hb6⟩
        have HB6 : Hid (Below w.heap.size w w6) := Lib.hid (HB5.out.trans (hb6.mono HB5.out.size))
        have HKB := Lib.hid hk6
        have HK66 := Lib.hid (HK6.out.below hb6 HK6.out.lt)
        clear hk6 hb6
        unfold fV
        go_wp2_with fail
        go_must (refine (Same_any _ _ 106 106 [(pos : Int)] [(pos : Int)] _ 1 1 _ (by exact faulty_at ad 5 (by decide) p pos _ (HE.out.below HB6.out) HK66.out) (by exact reads_blk1 HKB.out) (by simp)).mono ?_)
        rintro e w7 ⟨rfl, hb7⟩
        rw [show (decide ((106 : Int) = 106) && sameI [(pos : Int)] [(pos : Int)]) = true by simp [sameI]]
        have HB7 : Hid (Below w.heap.size w w7) := Lib.hid (HB6.out.trans (hb7.mono HB6.out.size))
        clear hb7
        go_wp2
        go_ret
        exact ⟨rfl, HB7.out⟩

theorem contract (H : Type) (enc : TypeId × Value → H) (W : World) (base : Nat) (args : Array Value) (ds gs : List (DataW H)) (before : List MemPlace)
    (hval : ∀ (j : Nat) t v, Tryd.f7.params[j]? = some t → args[j]? = some v → Value.okWide Tryd.prog W .any base t v)
    (hW : DataW.Whole enc Tryd.prog Tryd.f7.params.toList Rows.scriptCutSpec.vars false W args.toList ds gs before) (hL : laidMetH Tryd.prog Rows.scriptCutRow.laid W) :
    Calls Tryd.prog 7 args W fun e W' => ∃ v, e = .returned v ∧ Rows.scriptCutSpec.post enc Tryd.prog Tryd.f7 false true false false W args v W' := by
  have hW' := hW
  obtain ⟨p, q, hA0, hV, rfl, hfz, hnd⟩ := hW
  have hA : DataW.TrodAll enc Tryd.prog W 0 (fun _ => true) true Tryd.f7.params.toList args.toList ds p := hA0
  rw [Tryd.params7] at hA hval
  obtain ⟨v0, vs0, d0, ds0, p0, q0, hargs, rfl, rfl, h0, r0⟩ := trodAll_cons hA
  obtain ⟨v1, vs1, d1, ds1, p1, q1, rfl, rfl, rfl, h1, r1⟩ := trodAll_cons r0
  obtain ⟨rfl, rfl, rfl⟩ := trodAll_nil r1
  obtain rfl : args = #[v0, v1] := by cases args; simp_all
  obtain ⟨rfl, rfl⟩ := trodVars_none hV
  obtain ⟨A0, n0, c0, z0, rfl, hc0, hn0, hl0, hr0⟩ := open_picks (hval 0 24 v0 rfl rfl) h0
  obtain ⟨a1, rfl, rfl, rfl, w1⟩ := open_int Tryd.underlying3 (hval 1 3 v1 rfl rfl) h1
  clear hA0
  obtain ⟨ads, e1, e2, e3⟩ := scriptCut_errs hL
  refine (walk W ads e1 e2 e3 A0 n0 c0 z0 hc0 hn0 hl0 hr0 a1 w1).mono fun e W' ⟨he, hg⟩ => ?_
  subst he
  exact ⟨_, rfl, post_law kids full (by rw [Tryd.params7]; decide +kernel) rfl hW' rfl rfl rfl hg (by kernel_rfl) Tryd.underlying4⟩

theorem reads (os : Os) {H : Type} (enc : TypeId × Value → H) : ∃ places, DataW.whole enc Tryd.prog ((laidWorld os).forCall (fun _ _ => 0) ⟨#[], #[.slice none 0 0, .int .i64 0], []⟩).memory Tryd.f7.params.toList Rows.scriptCutSpec.vars false #[.slice none 0 0, .int .i64 0].toList 8 = some ([.nil, .lit (.int .i64 0)], [], places) :=
  ⟨[], by kernel_rfl⟩

set_option maxRecDepth 100000 in
theorem lifted (os : Os) (started : os.Started) (H : Type) (enc : TypeId × Value → H) (F : Stop.Interp) :
    ReturnsInHanded {} Tryd.checked os 7 .any ((OpenSpec.ofChange Rows.scriptCutSpec).preRow enc Tryd.prog Tryd.f7 Rows.scriptCutRow.domain false Rows.scriptCutRow.laid) (((OpenSpec.ofChange Rows.scriptCutSpec).at F).post enc Tryd.prog Tryd.f7 false true false false) := by
  obtain ⟨places, hx⟩ := reads os enc
  refine returnsInHanded_of_row (C := Tryd.checked) (s := OpenSpec.ofChange Rows.scriptCutSpec) own started (by kernel_rfl) Tryd.func7
    (witness_row_atRef (enc := enc) (C := Tryd.checked) false (laidWorld os) #[.slice none 0 0, .int .i64 0] rfl (by kernel_rfl) (by kernel_rfl) (by kernel_rfl)
      (OpenSpec.preRow_of_cond 8 hx (by kernel_rfl) (fun k hk => by cases hk) (by kernel_rfl) (scriptCut_met os _))) ?_
  intro W base args ds gs before hval hW _ _ _ hL _ _
  exact contract H enc W base args ds gs before hval hW hL

theorem said : Rows.ScriptCutSaid :=
  OpenClaim.holds_of_cond 7 Tryd.f7 rfl rfl rfl rfl rfl rfl rfl ⟨rfl, rfl, rfl, rfl, rfl⟩ rfl rfl rfl rfl rfl (by kernel_rfl) Tryd.func7 (by kernel_rfl)
    (of_decide_eq_true (by kernel_rfl)) (by unfold Func.isWrapper; first | (rw [if_pos (by decide +kernel)]; kernel_rfl) | (rw [if_neg (by decide +kernel)]; exact ⟨rfl, rfl⟩))
    (fun os started H enc _ F => by rw [OpenClaim.pre_eq_preRow]; exact lifted os started H enc F)

theorem plain (f : FuncId) (fn : Func) (hf : Tryd.pinned.checked.prog.funcNamed "overdrive/overdrivelaw15.ScriptCut" = some f) (hfn : Tryd.pinned.checked.prog.funcs[f]? = some fn) :
    true = Tryd.pinned.checked.prog.looks [] ∧ ∀ (j : Nat) t, fn.params[j]? = some t → Tryd.pinned.checked.prog.wantsStandIn t = false := by
  obtain rfl : f = 7 := Option.some.inj ((show Tryd.prog.funcNamed "overdrive/overdrivelaw15.ScriptCut" = some 7 by kernel_rfl).symm.trans hf) |>.symm
  obtain rfl : fn = Tryd.f7 := (Option.some.inj (Tryd.func7.symm.trans hfn)).symm
  refine ⟨by kernel_rfl, fun j t ht => ?_⟩
  have hm := Array.mem_of_getElem? ht
  have hall : (Tryd.f7.params.toList.all fun t => Tryd.prog.wantsStandIn t == false) = true := by kernel_rfl
  have hw : Tryd.prog.wantsStandIn t = false := by simpa using List.all_eq_true.1 hall t (by simpa using hm)
  exact hw

theorem card : Rows.ScriptCutCardSaid :=
  Claim7.holds_tied_plain_at .later [] _ _ _ _ said (fun _ h => by cases h) (by kernel_rfl) (fun _ h => by cases h) scriptCut_row_tie rfl ⟨rfl, rfl⟩ (by kernel_rfl) rfl plain (by kernel_rfl)
#print axioms card
end Go.Proofs.YtomabogjoampnaaDoor.scriptCut
