/- BitsBounds, the card: for every input the call returns true and each argument reads afterwards as it read before; no further conditions. -/
import Derived.Test.YtcaoeoggabbekaaDoorFirstB
import Derived.Test.YtcaoeoggabbekaaDoorTab
import Derived.Test.YtcaoeoggabbekaaDoorCards
import Derived.Test.YtcaoeoggabbekaaDoorTie
namespace Go.Proofs.YtcaoeoggabbekaaDoor.bitsBounds
open Go.RowKit Go.ChangeShapes Go.WideShapes Go.ChangeAt
set_option linter.unusedVariables false

theorem own : ownKnob Tryd.prog.godebug = none := by kernel_rfl
theorem kids : Kids Tryd.prog (· < Tryd.prog.types.size) := kids_rows (by kernel_rfl) (by kernel_rfl)
theorem full : ∀ t e, t < Tryd.prog.types.size → Tryd.prog.underlying t = some (.slice e) → 0 < Tryd.prog.cellsOf e := slices_full_of Tryd.prog (by kernel_rfl)

theorem clamp_small (n : Nat) (h : n ≤ 1048576) : clampN (n : Int) = n := by unfold clampN; omega
def UpRel (w : World) (b g n : Nat) (si : Value) (wr : World) : Prop :=
  ∃ i : Int, -2 ≤ i ∧ i ≤ n + 70 ∧ si = .int .i64 i ∧ SetAt wr b g n (fun j => decide ((j : Int) < i ∧ j < n)) ∧ Below w.heap.size w wr
def DownRel (w : World) (b g n : Nat) (si : Value) (wr : World) : Prop :=
  ∃ i : Int, -3 ≤ i ∧ i ≤ n + 70 ∧ si = .int .i64 i ∧ SetAt wr b g n (fun j => decide ((j : Int) ≤ i ∧ j < n)) ∧ Below w.heap.size w wr
theorem up_q (n : Nat) (i : Int) : (decide (0 ≤ i ∧ i < (n : Int)) && !hasZ (fun j => decide ((j : Int) < i ∧ j < n)) i) = decide (0 ≤ i ∧ i < (n : Int)) := by
  have : hasZ (fun j => decide ((j : Int) < i ∧ j < n)) i = false := by
    simp [hasZ]
    omega
  rw [this]
  simp
theorem up_p (n : Nat) (i : Int) (j : Nat) : addP (fun j => decide ((j : Int) < i ∧ j < n)) n i j = decide ((j : Int) < i + 1 ∧ j < n) := by
  rw [addP, Bool.eq_iff_iff]
  simp
  omega
theorem down_q (n : Nat) (i : Int) : hasZ (fun j => decide ((j : Int) ≤ i ∧ j < n)) i = decide (0 ≤ i ∧ i < (n : Int)) := by
  rw [hasZ, Bool.eq_iff_iff]
  simp
  omega
theorem down_p (n : Nat) (i : Int) (j : Nat) : dropP (fun j => decide ((j : Int) ≤ i ∧ j < n)) i j = decide ((j : Int) ≤ i - 1 ∧ j < n) := by
  rw [dropP, Bool.eq_iff_iff]
  simp
  omega
theorem els_top (n : Nat) (p : Nat → Bool) (h : ∀ j, j < n → p j = true) : (els p n).length = n := by
  rw [els_ext (q := fun _ => true) h, els, List.filter_eq_self.2 (by simp), List.length_range]
theorem and255 (a : Int) (h : (Lit.int .i64 a).wf = true) : ∃ n : Nat, n < 256 ∧ bits BinOp.and IntKind.i64 a 255 = (n : Int) := by
  refine ⟨(BitVec.ofInt 64 a &&& BitVec.ofInt 64 255).toNat, ?_, ?_⟩
  · rw [BitVec.toNat_and]
    exact Nat.lt_of_le_of_lt Nat.and_le_right (by decide)
  · have hl : (BitVec.ofInt 64 a &&& BitVec.ofInt 64 255).toNat < 256 := by
      rw [BitVec.toNat_and]
      exact Nat.lt_of_le_of_lt Nat.and_le_right (by decide)
    show IntKind.i64.wrap ((BitVec.ofInt 64 a &&& BitVec.ofInt 64 255).toNat : Int) = _
    exact IntWalk.i64_in _ (by omega)
set_option maxRecDepth 100000 in
set_option maxHeartbeats 2000000 in
theorem walk (w : World) (hT : TabIn w) (a0 : Int) (w0 : (Lit.int .i64 a0).wf = true) :
    Calls Tryd.prog 3 #[.int .i64 a0] w fun e w' => e = .returned (.bool true) ∧ Below w.heap.size w w' := by
  obtain ⟨n, hn, hand⟩ := and255 a0 w0
  have HT := Lib.hid hT
  have HCL := Lib.hid (clamp_small n (by omega))
  clear hT w0
  go_enter Tryd.func3, Tryd.ntmps3
  go_wp2_with fail
  refine (first_any _ HT.out).mono ?_
  rintro e w1 ⟨rfl, hb1⟩
  have HB1 := Lib.hid hb1
  clear hb1
  go_wp2_with fail
  refine (new_any _ _ (HT.out.below HB1.out HT.out.pos).pos).mono ?_
  rintro e w2 ⟨b, g, rfl, hb, hg, hS, hbl⟩
  rw [HCL.out] at hS
  have HB2 : Hid (Below w.heap.size w w2) := Lib.hid (HB1.out.trans (hbl.mono HB1.out.size))
  have HBG : Hid (w.heap.size ≤ b ∧ w.heap.size ≤ g) := Lib.hid (by have := HB1.out.size; omega)
  have HS := Lib.hid hS
  clear hb hg hS hbl hand
  go_wp2
  go_loopw [5] (fun si wr => UpRel w b g n si wr) (fun si _ => (n + 70 - intOf si).toNat)
  case atStart => exact ⟨-2, by omega, by omega, rfl, HS.out.congr (fun j => by simp; omega), HB2.out⟩
  case round =>
    obtain ⟨i, hi1, hi2, rfl, hS3, hb3⟩ := hrel
    have HS3 := Lib.hid hS3
    have HB3 := Lib.hid hb3
    clear hS3 hb3
    by_cases hlt : i < n + 70
    · by_cases h0 : 0 ≤ i
      · have t0 : decide (0 ≤ i) = true := by simpa using h0
        by_cases h1 : i < n
        · have t1 : decide (i < (n : Int)) = true := by simpa using h1
          have HQ : Hid ((decide (0 ≤ i ∧ i < (n : Int)) && !hasZ (fun j => decide ((j : Int) < i ∧ j < n)) i) = true) := Lib.hid (by rw [up_q]; simp [h0, h1])
          go_wp2_with fail
          refine (add_any b g n i _ _ HS3.out).mono ?_
          rintro e w4 ⟨rfl, hS4, hb4⟩
          rw [HQ.out]
          have HS4 := Lib.hid hS4
          have HB4 : Hid (Below w.heap.size w w4) := Lib.hid (HB3.out.trans (hb4.below HBG.out.2 HB3.out.size))
          clear hS4 hb4
          go_wp2
          go_roundw
          case rel => exact ⟨i + 1, by omega, by omega, rfl, HS4.out.congr (up_p n i), HB4.out⟩
          case measure => simp [intOf]; omega
        · have t1 : decide (i < (n : Int)) = false := by simpa using h1
          have HQ : Hid ((decide (0 ≤ i ∧ i < (n : Int)) && !hasZ (fun j => decide ((j : Int) < i ∧ j < n)) i) = false) := Lib.hid (by rw [up_q]; simp [h1])
          go_wp2_with fail
          refine (add_any b g n i _ _ HS3.out).mono ?_
          rintro e w4 ⟨rfl, hS4, hb4⟩
          rw [HQ.out]
          have HS4 := Lib.hid hS4
          have HB4 : Hid (Below w.heap.size w w4) := Lib.hid (HB3.out.trans (hb4.below HBG.out.2 HB3.out.size))
          clear hS4 hb4
          go_wp2
          go_roundw
          case rel => exact ⟨i + 1, by omega, by omega, rfl, HS4.out.congr (up_p n i), HB4.out⟩
          case measure => simp [intOf]; omega
      · have t0 : decide (0 ≤ i) = false := by simpa using h0
        have HQ : Hid ((decide (0 ≤ i ∧ i < (n : Int)) && !hasZ (fun j => decide ((j : Int) < i ∧ j < n)) i) = false) := Lib.hid (by rw [up_q]; simp [h0])
        go_wp2_with fail
        refine (add_any b g n i _ _ HS3.out).mono ?_
        rintro e w4 ⟨rfl, hS4, hb4⟩
        rw [HQ.out]
        have HS4 := Lib.hid hS4
        have HB4 : Hid (Below w.heap.size w w4) := Lib.hid (HB3.out.trans (hb4.below HBG.out.2 HB3.out.size))
        clear hS4 hb4
        go_wp2
        go_roundw
        case rel => exact ⟨i + 1, by omega, by omega, rfl, HS4.out.congr (up_p n i), HB4.out⟩
        case measure => simp [intOf]; omega
    · obtain rfl : i = n + 70 := by omega
      have HL : Hid ((els (fun j => decide ((j : Int) < (n : Int) + 70 ∧ j < n)) n).length = n) := Lib.hid (els_top n _ (fun j hj => by simp; omega))
      have HH1 : Hid (hasZ (fun j => decide ((j : Int) < (n : Int) + 70 ∧ j < n)) (n : Int) = false) := Lib.hid (by simp [hasZ])
      have HH2 : Hid (hasZ (fun j => decide ((j : Int) < (n : Int) + 70 ∧ j < n)) (-1) = false) := Lib.hid (by simp [hasZ])
      go_wp2_with fail
      refine (len_any b g n _ _ HS3.out).mono ?_
      rintro e w4 ⟨rfl, rfl⟩
      rw [HL.out]
      go_wp2_with fail
      refine (has_any b g n n _ _ HS3.out).mono ?_
      rintro e w4 ⟨rfl, rfl⟩
      rw [HH1.out]
      go_wp2_with fail
      refine (has_any b g n (-1) _ _ HS3.out).mono ?_
      rintro e w4 ⟨rfl, rfl⟩
      rw [HH2.out]
      go_wp2
      go_loopw [6] (fun si wr => DownRel w b g n si wr) (fun si _ => (intOf si + 3).toNat)
      case atStart => exact ⟨n + 70, by omega, by omega, rfl, HS3.out.congr (fun j => by rw [decide_eq_decide]; omega), HB3.out⟩
      case round =>
        obtain ⟨i, hi1, hi2, rfl, hS5, hb5⟩ := hrel
        have HS5 := Lib.hid hS5
        have HB5 := Lib.hid hb5
        clear hS5 hb5
        by_cases hlt : -2 ≤ i
        · by_cases h0 : 0 ≤ i
          · have t0 : decide (0 ≤ i) = true := by simpa using h0
            by_cases h1 : i < n
            · have t1 : decide (i < (n : Int)) = true := by simpa using h1
              have HQ : Hid (hasZ (fun j => decide ((j : Int) ≤ i ∧ j < n)) i = true) := Lib.hid (by rw [down_q]; simp [h0, h1])
              go_wp2_with fail
              refine (drop_any b g n i _ _ HS5.out).mono ?_
              rintro e w6 ⟨rfl, hS6, hb6⟩
              rw [HQ.out]
              have HS6 := Lib.hid hS6
              have HB6 : Hid (Below w.heap.size w w6) := Lib.hid (HB5.out.trans (hb6.below HBG.out.2 HB5.out.size))
              clear hS6 hb6
              go_wp2
              go_roundw
              case rel => exact ⟨i - 1, by omega, by omega, rfl, HS6.out.congr (down_p n i), HB6.out⟩
              case measure => simp [intOf]; omega
            · have t1 : decide (i < (n : Int)) = false := by simpa using h1
              have HQ : Hid (hasZ (fun j => decide ((j : Int) ≤ i ∧ j < n)) i = false) := Lib.hid (by rw [down_q]; simp [h1])
              go_wp2_with fail
              refine (drop_any b g n i _ _ HS5.out).mono ?_
              rintro e w6 ⟨rfl, hS6, hb6⟩
              rw [HQ.out]
              have HS6 := Lib.hid hS6
              have HB6 : Hid (Below w.heap.size w w6) := Lib.hid (HB5.out.trans (hb6.below HBG.out.2 HB5.out.size))
              clear hS6 hb6
              go_wp2
              go_roundw
              case rel => exact ⟨i - 1, by omega, by omega, rfl, HS6.out.congr (down_p n i), HB6.out⟩
              case measure => simp [intOf]; omega
          · have t0 : decide (0 ≤ i) = false := by simpa using h0
            have HQ : Hid (hasZ (fun j => decide ((j : Int) ≤ i ∧ j < n)) i = false) := Lib.hid (by rw [down_q]; simp [h0])
            go_wp2_with fail
            refine (drop_any b g n i _ _ HS5.out).mono ?_
            rintro e w6 ⟨rfl, hS6, hb6⟩
            rw [HQ.out]
            have HS6 := Lib.hid hS6
            have HB6 : Hid (Below w.heap.size w w6) := Lib.hid (HB5.out.trans (hb6.below HBG.out.2 HB5.out.size))
            clear hS6 hb6
            go_wp2
            go_roundw
            case rel => exact ⟨i - 1, by omega, by omega, rfl, HS6.out.congr (down_p n i), HB6.out⟩
            case measure => simp [intOf]; omega
        · obtain rfl : i = -3 := by omega
          have HE : Hid (els (fun j => decide ((j : Int) ≤ -3 ∧ j < n)) n = []) := Lib.hid (els_false n (fun j hj => by simp; omega))
          go_wp2_with fail
          refine (len_any b g n _ _ HS5.out).mono ?_
          rintro e w6 ⟨rfl, rfl⟩
          rw [HE.out]
          go_wp2_with fail
          refine (list_any b g n _ _ HS5.out (HT.out.below HB5.out HT.out.pos)).mono ?_
          rintro e w7 ⟨v7, rfl, hown7, hb7⟩
          rw [show elsI (fun j => decide ((j : Int) ≤ -3 ∧ j < n)) n = [] by rw [elsI, HE.out]; rfl] at hown7
          obtain ⟨A7, c7, rfl, _⟩ := own_reads hown7
          have HB7 : Hid (Below w.heap.size w w7) := Lib.hid (HB5.out.trans (hb7.mono HB5.out.size))
          clear hown7 hb7
          go_wp2
          go_ret
          exact ⟨rfl, HB7.out⟩

theorem contract (H : Type) (enc : TypeId × Value → H) (W : World) (base : Nat) (args : Array Value) (ds gs : List (DataW H)) (before : List MemPlace)
    (hval : ∀ (j : Nat) t v, Tryd.f3.params[j]? = some t → args[j]? = some v → Value.okWide Tryd.prog W .any base t v)
    (hW : DataW.Whole enc Tryd.prog Tryd.f3.params.toList Rows.bitsBoundsSpec.vars false W args.toList ds gs before) (hL : laidMetH Tryd.prog Rows.bitsBoundsRow.laid W) :
    Calls Tryd.prog 3 args W fun e W' => ∃ v, e = .returned v ∧ Rows.bitsBoundsSpec.post enc Tryd.prog Tryd.f3 false true false false W args v W' := by
  have hW' := hW
  obtain ⟨p, q, hA0, hV, rfl, hfz, hnd⟩ := hW
  have hA : DataW.TrodAll enc Tryd.prog W 0 (fun _ => true) true Tryd.f3.params.toList args.toList ds p := hA0
  rw [Tryd.params3] at hA hval
  obtain ⟨v0, vs0, d0, ds0, p0, q0, hargs, rfl, rfl, h0, r0⟩ := trodAll_cons hA
  obtain ⟨rfl, rfl, rfl⟩ := trodAll_nil r0
  obtain rfl : args = #[v0] := by cases args; simp_all
  obtain ⟨rfl, rfl⟩ := trodVars_none hV
  obtain ⟨a0, rfl, rfl, rfl, w0⟩ := open_int Tryd.underlying3 (hval 0 3 v0 rfl rfl) h0
  clear hA0
  refine (walk W (bitsBounds_tab hL) a0 w0).mono fun e W' ⟨he, hg⟩ => ?_
  subst he
  exact ⟨_, rfl, post_law kids full (by rw [Tryd.params3]; decide +kernel) rfl hW' rfl rfl rfl hg (by kernel_rfl) Tryd.underlying4⟩

theorem reads (os : Os) {H : Type} (enc : TypeId × Value → H) : ∃ places, DataW.whole enc Tryd.prog ((laidWorld os).forCall (fun _ _ => 0) ⟨#[], #[.int .i64 0], []⟩).memory Tryd.f3.params.toList Rows.bitsBoundsSpec.vars false #[.int .i64 0].toList 8 = some ([.lit (.int .i64 0)], [], places) :=
  ⟨[], by kernel_rfl⟩

set_option maxRecDepth 100000 in
theorem lifted (os : Os) (started : os.Started) (H : Type) (enc : TypeId × Value → H) (F : Stop.Interp) :
    ReturnsInHanded {} Tryd.checked os 3 .any ((OpenSpec.ofChange Rows.bitsBoundsSpec).preRow enc Tryd.prog Tryd.f3 Rows.bitsBoundsRow.domain false Rows.bitsBoundsRow.laid) (((OpenSpec.ofChange Rows.bitsBoundsSpec).at F).post enc Tryd.prog Tryd.f3 false true false false) := by
  obtain ⟨places, hx⟩ := reads os enc
  refine returnsInHanded_of_row (C := Tryd.checked) (s := OpenSpec.ofChange Rows.bitsBoundsSpec) own started (by kernel_rfl) Tryd.func3
    (witness_row_atRef (enc := enc) (C := Tryd.checked) false (laidWorld os) #[.int .i64 0] rfl (by kernel_rfl) (by kernel_rfl) (by kernel_rfl)
      (OpenSpec.preRow_of_cond 8 hx (by kernel_rfl) (fun k hk => by cases hk) (by kernel_rfl) (bitsBounds_met os _))) ?_
  intro W base args ds gs before hval hW _ _ _ hL _ _
  exact contract H enc W base args ds gs before hval hW hL

theorem said : Rows.BitsBoundsSaid :=
  OpenClaim.holds_of_cond 3 Tryd.f3 rfl rfl rfl rfl rfl rfl rfl ⟨rfl, rfl, rfl, rfl, rfl⟩ rfl rfl rfl rfl rfl (by kernel_rfl) Tryd.func3 (by kernel_rfl)
    (of_decide_eq_true (by kernel_rfl)) (by unfold Func.isWrapper; first | (rw [if_pos (by decide +kernel)]; kernel_rfl) | (rw [if_neg (by decide +kernel)]; exact ⟨rfl, rfl⟩))
    (fun os started H enc _ F => by rw [OpenClaim.pre_eq_preRow]; exact lifted os started H enc F)

theorem plain (f : FuncId) (fn : Func) (hf : Tryd.pinned.checked.prog.funcNamed "overdrive/overdrivelaw2.BitsBounds" = some f) (hfn : Tryd.pinned.checked.prog.funcs[f]? = some fn) :
    false = Tryd.pinned.checked.prog.looks [] ∧ ∀ (j : Nat) t, fn.params[j]? = some t → Tryd.pinned.checked.prog.wantsStandIn t = false := by
  obtain rfl : f = 3 := Option.some.inj ((show Tryd.prog.funcNamed "overdrive/overdrivelaw2.BitsBounds" = some 3 by kernel_rfl).symm.trans hf) |>.symm
  obtain rfl : fn = Tryd.f3 := (Option.some.inj (Tryd.func3.symm.trans hfn)).symm
  refine ⟨by kernel_rfl, fun j t ht => ?_⟩
  have hm := Array.mem_of_getElem? ht
  have hall : (Tryd.f3.params.toList.all fun t => Tryd.prog.wantsStandIn t == false) = true := by kernel_rfl
  have hw : Tryd.prog.wantsStandIn t = false := by simpa using List.all_eq_true.1 hall t (by simpa using hm)
  exact hw

theorem card : Rows.BitsBoundsCardSaid :=
  Claim7.holds_tied_plain_at .later [] _ _ _ _ said (fun _ h => by cases h) (by kernel_rfl) (fun _ h => by cases h) bitsBounds_row_tie rfl ⟨rfl, rfl⟩ (by kernel_rfl) rfl plain (by kernel_rfl)
#print axioms card
end Go.Proofs.YtcaoeoggabbekaaDoor.bitsBounds
