/- CodecHeads, the card: for every input the call returns true and each argument reads afterwards as it read before; no further conditions. -/
import Derived.Test.YtnojejplckhifaaDoorLaw4
import Derived.Test.YtnojejplckhifaaDoorDoor4
import Derived.Test.YtnojejplckhifaaDoorCards
import Derived.Test.YtnojejplckhifaaDoorTie
namespace Go.Proofs.YtnojejplckhifaaDoor.codecHeads
open Go.RowKit Go.ChangeShapes Go.WideShapes Go.ChangeAt
set_option linter.unusedVariables false

theorem own : ownKnob Tryd.prog.godebug = none := by kernel_rfl
theorem kids : Kids Tryd.prog (· < Tryd.prog.types.size) := kids_rows (by kernel_rfl) (by kernel_rfl)
theorem full : ∀ t e, t < Tryd.prog.types.size → Tryd.prog.underlying t = some (.slice e) → 0 < Tryd.prog.cellsOf e := slices_full_of Tryd.prog (by kernel_rfl)

def HdsRel (w3 : World) (l : List Nat) (si : Value) (wr : World) : Prop := ∃ k : Nat, k ≤ 3 ∧ si = .int .i64 (k : Int) ∧ k ≤ l.length ∧ (∀ j, j < k → l[j]? = some (hq j)) ∧ Below w3.heap.size w3 wr
set_option maxRecDepth 100000 in
set_option maxHeartbeats 4000000 in
theorem walk (w : World) (ad : Nat → Addr) (hE : Errs w ad) (A0 : Option Addr) (n0 c0 : Nat) (z0 : List Int) (hc0 : n0 ≤ c0) (hn0 : c0 ≤ maxLen) (hl0 : z0.length = n0) (hr0 : Reads w w.heap.size 1 A0 n0 (z0.map (Value.int .u8))) (hw0 : ∀ z ∈ z0, (Lit.int .u8 z).wf = true) :
    Calls Tryd.prog 7 #[.slice A0 n0 c0] w fun e w' => e = .returned (.bool true) ∧ Below w.heap.size w w' := by
  obtain ⟨hb1, hb2⟩ := bytes_nat z0 hw0
  obtain ⟨l, hl⟩ : ∃ l, l = z0.map Int.toNat := ⟨_, rfl⟩
  rw [hb1] at hr0
  rw [← hl] at hr0 hb2
  have hln : l.length = n0 := by rw [hl]; simpa using hl0
  have HR := Lib.hid hr0
  have HL := Lib.hid hln
  have HBY := Lib.hid hb2
  have HE := Lib.hid hE
  clear hw0 hb1 hr0 hb2 hl hl0 hln hE
  by_cases hn : 100 < n0
  · have t1 : decide ((100 : Int) < (n0 : Int)) = true := by simp; omega
    go_enter Tryd.func7, Tryd.ntmps7
    go_wp2_with fail
    refine (first_any ad _ HE.out).mono ?_
    rintro e w1 ⟨rfl, hb1⟩
    go_wp2
    go_ret
    exact ⟨rfl, hb1⟩
  have t1 : decide ((100 : Int) < (n0 : Int)) = false := by simp; omega
  obtain ⟨o, ho⟩ : ∃ o, o = (decP l).2 := ⟨_, rfl⟩
  have HO := Lib.hid ho
  clear ho
  go_enter Tryd.func7, Tryd.ntmps7
  go_wp2_with fail
  refine (first_any ad _ HE.out).mono ?_
  rintro e w1 ⟨rfl, hb1⟩
  have HB1 := Lib.hid hb1
  clear hb1
  go_wp2_with fail
  have HBa : Hid (Below w.heap.size w (w1.alloc (.cells #[.int .u8 79, .int .u8 68, .int .u8 1] 5))) := Lib.hid (HB1.out.alloc HB1.out.size _)
  have HKa : Hid (Blk (w1.alloc (.cells #[.int .u8 79, .int .u8 68, .int .u8 1] 5)) w1.heap.size 5 #[.int .u8 79, .int .u8 68, .int .u8 1]) := Lib.hid (Blk.new _ _ _)
  refine (decode_any A0 n0 c0 l ad _ (by exact (HR.out.below HBa.out).more HBa.out.size) HBY.out hc0 hn0 (HE.out.below HBa.out)).mono ?_
  rintro e w2 he
  obtain ⟨hb2, A1, n1, c1, A2, n2, c2, v, rfl, hf, hab⟩ := dpost_any he
  rw [← HO.out] at hf hab
  have HB2 : Hid (Below w.heap.size w w2) := Lib.hid (HBa.out.trans (hb2.mono HBa.out.size))
  have HK2 : Hid (Blk w2 w1.heap.size 5 #[.int .u8 79, .int .u8 68, .int .u8 1]) := Lib.hid (HKa.out.below hb2 HKa.out.lt)
  have HF2 := Lib.hid hf
  have HAB := Lib.hid hab
  clear he hb2 hf hab HBa HKa
  go_wp2_with fail
  obtain ⟨W3, hW3⟩ : ∃ W, W = w2.alloc (.cells #[.slice A1 n1 c1, .slice A2 n2 c2] 25) := ⟨_, rfl⟩
  have HB3 : Hid (Below w.heap.size w W3) := Lib.hid (by rw [hW3]; exact HB2.out.alloc HB2.out.size _)
  have HK3 : Hid (Blk W3 w1.heap.size 5 #[.int .u8 79, .int .u8 68, .int .u8 1]) := Lib.hid (by rw [hW3]; exact HK2.out.alloc _)
  have HP3 : Hid (Blk W3 w2.heap.size 25 #[.slice A1 n1 c1, .slice A2 n2 c2]) := Lib.hid (by rw [hW3]; exact Blk.new _ _ _)
  have HF3 : Hid (FltV W3 ad v o) := Lib.hid (by rw [hW3]; exact HF2.out.below ((Below.refl _ _).alloc (Nat.le_refl _) _))
  rw [← hW3]
  clear hW3 HK2 HF2 HB2
  obtain ⟨gp, hgp⟩ : ∃ g, g = w2.heap.size := ⟨_, rfl⟩
  obtain ⟨gh, hgh⟩ : ∃ g, g = w1.heap.size := ⟨_, rfl⟩
  rw [← hgh] at HK3 ⊢
  rw [← hgp] at HP3 ⊢
  clear hgp hgh
  go_loopw [7] (fun si wr => HdsRel W3 l si wr) (fun si _ => 3 - (intOf si).toNat)
  case atStart => exact ⟨0, Nat.zero_le _, rfl, Nat.zero_le _, fun j hj => absurd hj (Nat.not_lt_zero _), Below.refl _ _⟩
  case round =>
    obtain ⟨k, hk, rfl, hkl, hm, hbr⟩ := hrel
    have HM := Lib.hid hm
    have HBR := Lib.hid hbr
    have HWR : Hid (Below w.heap.size w wr) := Lib.hid (HB3.out.trans (hbr.mono HB3.out.size))
    have HFR : Hid (FltV wr ad v o) := Lib.hid (HF3.out.below hbr)
    have HER : Hid (Errs wr ad) := Lib.hid (HE.out.below HWR.out)
    have HPR : Hid (Blk wr gp 25 #[.slice A1 n1 c1, .slice A2 n2 c2]) := Lib.hid (HP3.out.below hbr HP3.out.lt)
    have HKR : Hid (Blk wr gh 5 #[.int .u8 79, .int .u8 68, .int .u8 1]) := Lib.hid (HK3.out.below hbr HK3.out.lt)
    have hkn : k ≤ n0 := by have := HL.out; omega
    clear hm hbr hkl
    by_cases hk3 : k < 3
    · by_cases hkn2 : k = n0
      · have t2 : decide ((n0 : Int) ≤ (k : Int)) = true := by simp; omega
        have t2' : decide (n0 ≤ k) = true := by simp; omega
        have t3 : decide ((k : Int) < 3) = true := by simp; omega
        have hes : (decP l).2 = some (5, [(n0 : Int)]) := by rw [dec_head l (5, k) (head_end l k hk3 HM.out (by rw [HL.out, hkn2])) (by rw [HL.out]; omega), hkn2]
        have HOE : Hid (o = some (5, [(n0 : Int)])) := Lib.hid (HO.out.trans hes)
        obtain rfl := (HAB.out (by rw [HOE.out]; simp)).2
        have HFE : Hid (FltV wr ad v (some (5, [(n0 : Int)]))) := Lib.hid (by have := HFR.out; rw [HOE.out] at this; exact this)
        have hz : 0 ≤ (n0 : Int) := by omega
        clear hes hkn2
        go_wp2_with fail
        refine (placed_any 106 n0 _ (by decide)).mono ?_
        rintro e w4 ⟨b4, rfl, hg4, hk4, hb4⟩
        have HB4 : Hid (Below w.heap.size w w4) := Lib.hid (HWR.out.trans (hb4.mono HWR.out.size))
        have HR4 : Hid (Reads w4 w4.heap.size 1 (some ⟨b4, 0, none⟩) 1 ([(n0 : Int)].map (Value.int .i64))) := Lib.hid ⟨rfl, fun _ => ⟨_, rfl, hk4.lt, World.news_of_block hk4⟩⟩
        have HF4 := Lib.hid (HFE.out.below hb4)
        have HE4 := Lib.hid (HER.out.below hb4)
        have HP4 := Lib.hid (HPR.out.below hb4 HPR.out.lt)
        clear hg4 hk4 hb4
        go_wp2_with fail
        refine (Same_flt v ad (some (5, [(n0 : Int)])) 106 [(n0 : Int)] _ 1 1 _ HF4.out HE4.out (fun f h => first_small (by decide) h) HR4.out).mono ?_
        rintro e w5 ⟨rfl, hb5⟩
        rw [flt_self 5 [(n0 : Int)] 106 (by decide)]
        have HB5 : Hid (Below w.heap.size w w5) := Lib.hid (HB4.out.trans (hb5.mono HB4.out.size))
        have hp5 : w5.cell? ⟨gp, 1, none⟩ = some (.slice A2 0 c2) := (HP4.out.below hb5 HP4.out.lt).cell 1
        clear hb5
        go_wp2
        go_ret
        exact ⟨rfl, HB5.out⟩
      · have hlt : k < n0 := by omega
        have t2 : decide ((n0 : Int) ≤ (k : Int)) = false := by simp; omega
        have t2' : decide (n0 ≤ k) = false := by simp; omega
        have t3 : decide ((k : Int) < 3) = true := by simp; omega
        obtain ⟨x, hx⟩ : ∃ x, l[k]? = some x := ⟨_, List.getElem?_eq_getElem (by have := HL.out; omega)⟩
        obtain ⟨A, u, hA, hAb, hu, hcell⟩ := ((HR.out.below HWR.out).more HWR.out.size).at_ (k := k) hlt
        rw [List.getElem?_map, hx] at hu
        obtain rfl : bv x = u := by simpa using hu
        subst hA
        unfold bv at hcell
        have HX := Lib.hid hx
        have hkk : (0 : Int) ≤ (k : Int) := by omega
        have hkn' : (k : Int) < (n0 : Int) := by omega
        have hk3' : (k : Int) < 3 := by omega
        have hh : wr.cell? ⟨gh, k, none⟩ = some (.int .u8 (hq k : Int)) := by
          have hc := HKR.out.cell k
          rw [hc]
          rcases k with _ | _ | _ | k
          · rfl
          · rfl
          · rfl
          · omega
        have hgl := HKR.out.lt
        have hk3n : k < 3 := hk3
        clear hu hx hkn2
        by_cases hxe : x = hq k
        · have t4 : ((x : Int) != (hq k : Int)) = false := by rw [hxe]; simp
          have t5 : ((x : Int) == (hq k : Int)) = true := by rw [hxe]; simp
          have HXE := Lib.hid hxe
          obtain ⟨q, hq⟩ : ∃ q, q = hq k := ⟨_, rfl⟩
          rw [← hq] at hh t4 t5
          clear hxe hq
          go_wp2_with fail
          go_region
          all_goals (
            go_wp2
            go_roundw
            case rel =>
              refine ⟨k + 1, by omega, by go_num, by have := HL.out; omega, fun j hj => ?_, by first | exact HBR.out | exact HBR.out.drew⟩
              by_cases hjk : j < k
              · exact HM.out j hjk
              · obtain rfl : j = k := by omega
                rw [HX.out, HXE.out]
            case measure => simp [intOf]; omega)
        · have t4 : ((x : Int) != (hq k : Int)) = true := by rw [bne_iff_ne]; omega
          have t5 : ((x : Int) == (hq k : Int)) = false := by rw [beq_eq_false_iff_ne]; omega
          have hes : (decP l).2 = some (6, [(k : Int)]) := by rw [dec_head l (6, k) (head_bad l k hk3n HM.out x HX.out hxe) (by rw [HL.out]; omega)]
          have HOE : Hid (o = some (6, [(k : Int)])) := Lib.hid (HO.out.trans hes)
          obtain rfl := (HAB.out (by rw [HOE.out]; simp)).2
          have HFE : Hid (FltV wr ad v (some (6, [(k : Int)]))) := Lib.hid (by have := HFR.out; rw [HOE.out] at this; exact this)
          obtain ⟨q, hq⟩ : ∃ q, q = hq k := ⟨_, rfl⟩
          rw [← hq] at hh t4 t5
          clear hes hxe hq
          go_wp2_with fail
          go_region
          all_goals (
            go_wp2_with fail
            refine (placed_any 107 k _ (by decide)).mono ?_
            rintro e w4 ⟨b4, rfl, hg4, hk4, hb4⟩
            have hb4' : Below wr.heap.size wr w4 := by first | exact hb4 | exact ((Below.refl _ _).drew).trans hb4
            have HB4 : Hid (Below w.heap.size w w4) := Lib.hid (HWR.out.trans (hb4'.mono HWR.out.size))
            have HR4 : Hid (Reads w4 w4.heap.size 1 (some ⟨b4, 0, none⟩) 1 ([(k : Int)].map (Value.int .i64))) := Lib.hid ⟨rfl, fun _ => ⟨_, rfl, hk4.lt, World.news_of_block hk4⟩⟩
            have HF4 := Lib.hid (HFE.out.below hb4')
            have HE4 := Lib.hid (HER.out.below hb4')
            have HP4 := Lib.hid (HPR.out.below hb4' HPR.out.lt)
            clear hg4 hk4 hb4 hb4'
            go_wp2_with fail
            refine (Same_flt v ad (some (6, [(k : Int)])) 107 [(k : Int)] _ 1 1 _ HF4.out HE4.out (fun f h => first_small (by decide) h) HR4.out).mono ?_
            rintro e w5 ⟨rfl, hb5⟩
            rw [flt_self 6 [(k : Int)] 107 (by decide)]
            have HB5 : Hid (Below w.heap.size w w5) := Lib.hid (HB4.out.trans (hb5.mono HB4.out.size))
            have hp5 : w5.cell? ⟨gp, 1, none⟩ = some (.slice A2 0 c2) := (HP4.out.below hb5 HP4.out.lt).cell 1
            clear hb5
            go_wp2
            go_ret
            exact ⟨rfl, HB5.out⟩)
    · have t3 : decide ((k : Int) < 3) = false := by simp; omega
      have HOK : Hid (∀ f, o = some f → f.1 < 14 ∧ ((f.1 = 0 ∧ f.2 = []) ∨ 1 ≤ f.2.length)) := Lib.hid (fun f hf => dec_err l f (by rw [← HO.out]; exact hf))
      go_wp2_with fail
      refine (Fault_flt v ad o _ HFR.out HER.out (fun f hf => (HOK.out f hf).1)).mono ?_
      rintro e w4 ⟨A4, d4, rfl, hr4, _, hb4⟩
      have HB4 : Hid (Below w.heap.size w w4) := Lib.hid (HWR.out.trans (hb4.mono HWR.out.size))
      obtain ⟨c4, hc4⟩ : ∃ c, c = fltC o := ⟨_, rfl⟩
      obtain ⟨n4, hn4⟩ : ∃ c, c = (fltL o).length := ⟨_, rfl⟩
      rw [← hc4, ← hn4]
      have HC4 := Lib.hid hc4
      have HN4 := Lib.hid hn4
      unfold fV
      have HBA : Hid (Below w.heap.size w (w4.alloc (.cells #[.int .i64 c4, .slice A4 n4 d4] 35))) := Lib.hid (HB4.out.alloc HB4.out.size _)
      clear hr4 hb4 hc4 hn4
      match o, HFR, HOK, HC4, HN4 with
      | none, HFR, HOK, HC4, HN4 =>
        obtain rfl : v = .nilIface := HFR.out
        go_wp2
        go_ret
        exact ⟨rfl, HBA.out⟩
      | some f, HFR, HOK, HC4, HN4 =>
        obtain ⟨tt, uu, hvv⟩ := flt_iface HFR.out
        subst hvv
        obtain ⟨h1, ⟨h2, h3⟩ | h2⟩ := HOK.out f rfl
        · obtain rfl : c4 = 101 := by have e : c4 = 101 + (f.1 : Int) := HC4.out; omega
          clear h1 h2 h3
          go_wp2
          go_ret
          exact ⟨rfl, HBA.out⟩
        · have t6 : decide ((1 : Int) ≤ (n4 : Int)) = true := by have e : n4 = f.2.length := HN4.out; simp; omega
          have t7 : decide (1 ≤ n4) = true := by have e : n4 = f.2.length := HN4.out; simp; omega
          have t8 : decide (0 < n4) = true := by have e : n4 = f.2.length := HN4.out; simp; omega
          clear h1 h2
          cases hc : c4 == 101
          · go_wp2
            go_ret
            exact ⟨rfl, HBA.out⟩
          · go_wp2
            go_ret
            exact ⟨rfl, HBA.out⟩

set_option maxRecDepth 100000 in
theorem contract (H : Type) (enc : TypeId × Value → H) (W : World) (base : Nat) (args : Array Value) (ds gs : List (DataW H)) (before : List MemPlace)
    (hval : ∀ (j : Nat) t v, Tryd.f7.params[j]? = some t → args[j]? = some v → Value.okWide Tryd.prog W .any base t v)
    (hW : DataW.Whole enc Tryd.prog Tryd.f7.params.toList Rows.codecHeadsSpec.vars false W args.toList ds gs before) (hL : laidMetH Tryd.prog Rows.codecHeadsRow.laid W) :
    Calls Tryd.prog 7 args W fun e W' => ∃ v, e = .returned v ∧ Rows.codecHeadsSpec.post enc Tryd.prog Tryd.f7 false true false false W args v W' := by
  have hW' := hW
  obtain ⟨p, q, hA0, hV, rfl, hfz, hnd⟩ := hW
  have hA : DataW.TrodAll enc Tryd.prog W 0 (fun _ => true) true Tryd.f7.params.toList args.toList ds p := hA0
  rw [Tryd.params7] at hA hval
  obtain ⟨v0, vs0, d0, ds0, p0, q0, hargs, rfl, rfl, h0, r0⟩ := trodAll_cons hA
  obtain ⟨rfl, rfl, rfl⟩ := trodAll_nil r0
  obtain rfl : args = #[v0] := by cases args; simp_all
  obtain ⟨rfl, rfl⟩ := trodVars_none hV
  obtain ⟨A0, n0, c0, z0, rfl, hc0, hn0, hl0, hr0, hw0⟩ := open_row_ints Tryd.underlying26 Tryd.underlying5 (by kernel_rfl) (hval 0 26 v0 rfl rfl) h0
  clear hA0
  obtain ⟨ad, hE⟩ := codecHeads_errs hL
  refine (walk W ad hE A0 n0 c0 z0 hc0 hn0 hl0 hr0 hw0).mono fun e W' ⟨he, hg⟩ => ?_
  subst he
  exact ⟨_, rfl, post_law kids full (by rw [Tryd.params7]; decide +kernel) rfl hW' rfl rfl rfl hg (by kernel_rfl) Tryd.underlying4⟩

theorem reads (os : Os) {H : Type} (enc : TypeId × Value → H) : ∃ places, DataW.whole enc Tryd.prog ((laidWorld os).forCall (fun _ _ => 0) ⟨#[], #[.slice none 0 0], []⟩).memory Tryd.f7.params.toList Rows.codecHeadsSpec.vars false #[.slice none 0 0].toList 8 = some ([.nil], [], places) :=
  ⟨[], by kernel_rfl⟩

set_option maxRecDepth 100000 in
theorem lifted (os : Os) (started : os.Started) (H : Type) (enc : TypeId × Value → H) (F : Stop.Interp) :
    ReturnsInHanded {} Tryd.checked os 7 .any ((OpenSpec.ofChange Rows.codecHeadsSpec).preRow enc Tryd.prog Tryd.f7 Rows.codecHeadsRow.domain false Rows.codecHeadsRow.laid) (((OpenSpec.ofChange Rows.codecHeadsSpec).at F).post enc Tryd.prog Tryd.f7 false true false false) := by
  obtain ⟨places, hx⟩ := reads os enc
  refine returnsInHanded_of_row (C := Tryd.checked) (s := OpenSpec.ofChange Rows.codecHeadsSpec) own started (by kernel_rfl) Tryd.func7
    (witness_row_atRef (enc := enc) (C := Tryd.checked) false (laidWorld os) #[.slice none 0 0] rfl (by kernel_rfl) (by kernel_rfl) (by kernel_rfl)
      (OpenSpec.preRow_of_cond 8 hx (by kernel_rfl) (fun k hk => by cases hk) (by kernel_rfl) (codecHeads_met os _))) ?_
  intro W base args ds gs before hval hW _ _ _ hL _ _
  exact contract H enc W base args ds gs before hval hW hL

theorem said : Rows.CodecHeadsSaid :=
  OpenClaim.holds_of_cond 7 Tryd.f7 rfl rfl rfl rfl rfl rfl rfl ⟨rfl, rfl, rfl, rfl, rfl⟩ rfl rfl rfl rfl rfl (by kernel_rfl) Tryd.func7 (by kernel_rfl)
    (of_decide_eq_true (by kernel_rfl)) (by unfold Func.isWrapper; first | (rw [if_pos (by decide +kernel)]; kernel_rfl) | (rw [if_neg (by decide +kernel)]; exact ⟨rfl, rfl⟩))
    (fun os started H enc _ F => by rw [OpenClaim.pre_eq_preRow]; exact lifted os started H enc F)

theorem plain (f : FuncId) (fn : Func) (hf : Tryd.pinned.checked.prog.funcNamed "overdrive/overdrivelaw4.CodecHeads" = some f) (hfn : Tryd.pinned.checked.prog.funcs[f]? = some fn) :
    true = Tryd.pinned.checked.prog.looks [] ∧ ∀ (j : Nat) t, fn.params[j]? = some t → Tryd.pinned.checked.prog.wantsStandIn t = false := by
  obtain rfl : f = 7 := Option.some.inj ((show Tryd.prog.funcNamed "overdrive/overdrivelaw4.CodecHeads" = some 7 by kernel_rfl).symm.trans hf) |>.symm
  obtain rfl : fn = Tryd.f7 := (Option.some.inj (Tryd.func7.symm.trans hfn)).symm
  refine ⟨by kernel_rfl, fun j t ht => ?_⟩
  have hm := Array.mem_of_getElem? ht
  have hall : (Tryd.f7.params.toList.all fun t => Tryd.prog.wantsStandIn t == false) = true := by kernel_rfl
  have hw : Tryd.prog.wantsStandIn t = false := by simpa using List.all_eq_true.1 hall t (by simpa using hm)
  exact hw

theorem card : Rows.CodecHeadsCardSaid :=
  Claim7.holds_tied_plain_at .later [] _ _ _ _ said (fun _ h => by cases h) (by kernel_rfl) (fun _ h => by cases h) codecHeads_row_tie rfl ⟨rfl, rfl⟩ (by kernel_rfl) rfl plain (by kernel_rfl)
#print axioms card
end Go.Proofs.YtnojejplckhifaaDoor.codecHeads
