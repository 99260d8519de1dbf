/- Proved: the law WordSizes answers true for every two uint64 and one int64 argument, and leaves them as they were. No condition. -/
import Derived.Test.YtomabogjoampnaaFirst
import Derived.Test.YtomabogjoampnaaBelow
import Derived.ProofKit
import Derived.OpenShut
namespace Go.Proofs.Ytomabogjoampnaa.wordSizes
open Go.RowKit Go.ChangeShapes Go.WideShapes Go.ChangeAt Go.RowKit
set_option linter.unusedVariables false

theorem own : ownKnob Try.prog.godebug = none := by kernel_rfl

def SizeRel (u : Nat) (ss sx : Value) : Prop := ∃ f s x : Nat, ss = .int .i64 (s : Int) ∧ sx = .int .u64 (x : Int) ∧ s + f ≤ 10 ∧ x < 128 ^ f ∧ s + (if x = 0 then 0 else (encF f x).length) = (enc u).length
set_option maxRecDepth 100000 in
set_option maxHeartbeats 8000000 in
theorem walk (a0 : Int) (a1 : Int) (a2 : Int) (w0 : (Lit.int .u64 a0).wf = true) (w1 : (Lit.int .u64 a1).wf = true) (w2 : (Lit.int .i64 a2).wf = true) (w : World) :
    Calls Try.prog 5 #[.int .u64 a0, .int .u64 a1, .int .i64 a2] w fun e w' => e = .returned (.bool true) ∧ Below w.heap.size w w' := by
  have h2 := i64_wf w2
  obtain ⟨u, rfl, hu⟩ := u64_wf w0
  obtain ⟨v, rfl, hv⟩ := u64_wf w1
  clear w0 w1 w2
  have HU := Lib.hid hu
  have HV := Lib.hid hv
  have H2 := Lib.hid h2
  clear hu hv h2
  go_enter Try.func5, Try.ntmps5
  go_wp2_with fail
  refine (first_any _).mono ?_
  rintro e w' ⟨rfl, hb⟩
  go_wp2_with fail
  have HB := Lib.hid hb
  clear hb
  go_loop [8, 9] (fun ss sx => SizeRel u ss sx) (fun _ sx => (intOf sx).toNat)
  case atStart => exact ⟨9, 1, u / 128, rfl, by go_num, by decide, pow128_div (Nat.lt_of_lt_of_le HU.out (by decide)), (encF_size 9 u).symm⟩
  case round =>
    obtain ⟨f, s, x, rfl, rfl, hs, hx, hl⟩ := hrel
    have HL := Lib.hid hl
    have HX := Lib.hid hx
    clear hl hx
    by_cases h0 : x = 0
    · have HS : Hid (s = (enc u).length) := Lib.hid (by have := HL.out; rw [if_pos h0] at this; omega)
      subst h0
      have t1 : (((enc u).length : Int) == (s : Int)) = true := by rw [beq_iff_eq, HS.out]
      have t2 : decide (zig a2 ≤ IntKind.u64.wrap (IntKind.u64.wrap (2 * IntKind.u64.wrap (if a2 < wrap64 (-wrap64 (a2 + 1)) then wrap64 (-wrap64 (a2 + 1)) else a2)) + 1)) = true := by
        rw [decide_eq_true_eq]; exact near_le a2 H2.out
      have t3 : (bits BinOp.and IntKind.u64 (zig a2) 1 == IntKind.u64.wrap (tv 19 a2 0)) = true := by rw [beq_iff_eq, zig_odd a2 H2.out]
      clear HS
      by_cases huv : u < v
      · have g1 : decide (v < u) = false := by simp; omega
        have g2 : decide (u < v) = true := by simpa using huv
        have g3 : decide ((enc u).length ≤ (enc v).length) = true := by rw [decide_eq_true_eq]; exact enc_mono u v (by omega) HV.out
        clear huv
        go_wp2_with fail
        refine (put_any none 0 0 u [] _ (by exact Reads.none_) (by decide) HU.out).mono ?_
        rintro e w1 ⟨A1, c1, rfl, ho1, hr1, hb1⟩
        rw [List.nil_append]
        clear ho1 hr1
        go_wp2_with fail
        refine (put_any none 0 0 v [] _ (by exact Reads.none_) (by decide) HV.out).mono ?_
        rintro e w2 ⟨A2, c2, rfl, ho2, hr2, hb2⟩
        rw [List.nil_append]
        clear ho2 hr2
        go_wp2_with (first | (go_at_call 14; refine (zig_any _ _).mono ?_; rintro e w' ⟨rfl, rfl⟩) | (go_at_call 11; refine (func2_any _ _ _ _).mono ?_; rintro e w' ⟨rfl, rfl⟩))
        all_goals go_ret
        all_goals exact ⟨rfl, HB.out.trans ((hb1.trans (hb2.mono hb1.size)).mono HB.out.size)⟩
      · by_cases hvu : v < u
        · have g1 : decide (v < u) = true := by simpa using hvu
          have g2 : decide (u < v) = false := by simpa using huv
          have g3 : decide ((enc v).length ≤ (enc u).length) = true := by rw [decide_eq_true_eq]; exact enc_mono v u (by omega) HU.out
          clear huv hvu
          go_wp2_with fail
          refine (put_any none 0 0 u [] _ (by exact Reads.none_) (by decide) HU.out).mono ?_
          rintro e w1 ⟨A1, c1, rfl, ho1, hr1, hb1⟩
          rw [List.nil_append]
          clear ho1 hr1
          go_wp2_with fail
          refine (put_any none 0 0 v [] _ (by exact Reads.none_) (by decide) HV.out).mono ?_
          rintro e w2 ⟨A2, c2, rfl, ho2, hr2, hb2⟩
          rw [List.nil_append]
          clear ho2 hr2
          go_wp2_with (first | (go_at_call 14; refine (zig_any _ _).mono ?_; rintro e w' ⟨rfl, rfl⟩) | (go_at_call 11; refine (func2_any _ _ _ _).mono ?_; rintro e w' ⟨rfl, rfl⟩))
          all_goals go_ret
          all_goals exact ⟨rfl, HB.out.trans ((hb1.trans (hb2.mono hb1.size)).mono HB.out.size)⟩
        · have g1 : decide (v < u) = false := by simpa using hvu
          have g2 : decide (u < v) = false := by simpa using huv
          have g3 : decide ((enc v).length ≤ (enc u).length) = true := by rw [decide_eq_true_eq]; exact enc_mono v u (by omega) HU.out
          have g4 : decide ((enc u).length ≤ (enc v).length) = true := by rw [decide_eq_true_eq]; exact enc_mono u v (by omega) HV.out
          clear huv hvu
          go_wp2_with fail
          refine (put_any none 0 0 u [] _ (by exact Reads.none_) (by decide) HU.out).mono ?_
          rintro e w1 ⟨A1, c1, rfl, ho1, hr1, hb1⟩
          rw [List.nil_append]
          clear ho1 hr1
          go_wp2_with fail
          refine (put_any none 0 0 v [] _ (by exact Reads.none_) (by decide) HV.out).mono ?_
          rintro e w2 ⟨A2, c2, rfl, ho2, hr2, hb2⟩
          rw [List.nil_append]
          clear ho2 hr2
          go_wp2_with (first | (go_at_call 14; refine (zig_any _ _).mono ?_; rintro e w' ⟨rfl, rfl⟩) | (go_at_call 11; refine (func2_any _ _ _ _).mono ?_; rintro e w' ⟨rfl, rfl⟩))
          all_goals go_ret
          all_goals exact ⟨rfl, HB.out.trans ((hb1.trans (hb2.mono hb1.size)).mono HB.out.size)⟩
    · obtain ⟨g, rfl⟩ : ∃ g, f = g + 1 := by
        rcases f with _ | f
        · exact absurd HX.out (by simp; omega)
        · exact ⟨f, rfl⟩
      have hpos : 0 < x := by omega
      have hpos' : decide (0 < x) = true := by simpa using hpos
      have HE : Hid (s + 1 + (if x / 128 = 0 then 0 else (encF g (x / 128)).length) = (enc u).length) := Lib.hid (by
        have := HL.out; rw [if_neg h0, encF_size] at this; omega)
      clear h0
      go_wp2
      exact ⟨⟨g, s + 1, x / 128, by go_num, by go_num, by omega, pow128_div HX.out, HE.out⟩, by simp [intOf]; omega⟩

set_option maxRecDepth 100000 in
theorem lifted (os : Os) (started : os.Started) (H : Type) (enc : TypeId × Value → H) :
    ReturnsInHanded {} Try.checked os 5 .any (Rows.wordSizesSpec.pre6 enc Try.prog Try.f5 Rows.wordSizesRow.domain false) (Rows.wordSizesSpec.post enc Try.prog Try.f5 false true false false) := by
  refine returnsInHanded_of_change (C := Try.checked) own started (by kernel_rfl) Try.func5
    (ChangeSpec.witness6 (enc := enc) (C := Try.checked) false ⟨#[], #[.int .u64 0, .int .u64 0, .int .i64 0], []⟩ 8 (by kernel_rfl) (by kernel_rfl) (by kernel_rfl) (by kernel_rfl)) ?_
  intro W base args ds gs before hval0 hW hcnd _
  have hval : ∀ (j : Nat) t v, Try.f5.params[j]? = some t → args[j]? = some v → Value.okWide Try.prog W .any base t v := hval0
  have hW' := hW
  obtain ⟨p, q, hA0, hV, rfl, hfz, hnd⟩ := hW
  have hA : DataW.TrodAll enc Try.prog W 0 (fun _ => true) true Try.f5.params.toList args.toList ds p := hA0
  rw [Try.params5] at hA hval
  obtain ⟨v0, vs0, d0, ds0, p0, q0, hargs, rfl, rfl, h0, r0⟩ := trodAll_cons hA
  obtain ⟨v1, vs1, d1, ds1, p1, q1, rfl, rfl, rfl, h1, r1⟩ := trodAll_cons r0
  obtain ⟨v2, vs2, d2, ds2, p2, q2, rfl, rfl, rfl, h2, r2⟩ := trodAll_cons r1
  obtain ⟨rfl, rfl, rfl⟩ := trodAll_nil r2
  obtain rfl : args = #[v0, v1, v2] := by cases args; simp_all
  obtain ⟨rfl, rfl⟩ := trodVars_none hV
  obtain ⟨a0, rfl, rfl, rfl, w0⟩ := open_int Try.underlying27 (hval 0 27 v0 rfl rfl) h0
  obtain ⟨a1, rfl, rfl, rfl, w1⟩ := open_int Try.underlying27 (hval 1 27 v1 rfl rfl) h1
  obtain ⟨a2, rfl, rfl, rfl, w2⟩ := open_int Try.underlying2 (hval 2 2 v2 rfl rfl) h2
  clear hA0 hval0
  simp only [List.append_nil] at hW'
  refine (walk a0 a1 a2 w0 w1 w2 W).mono fun e W' ⟨he, hg⟩ => ?_
  subst he
  exact ⟨_, rfl, post_of_below (pa := []) (pv := []) hW' (fun _ _ _ => (trodAll_cons_mk (shut_bool Try.underlying4 _) trodAll_mk0)) (fun sp _ => (trodAll_cons_mk (shut_int Try.underlying27 w0) (trodAll_cons_mk (shut_int Try.underlying27 w1) (trodAll_cons_mk (shut_int Try.underlying2 w2) trodAll_mk0)))) (fun _ _ => rfl) rfl hg (ok_one (by kernel_rfl) rfl (okWide_bool_mk Try.underlying4 _))⟩

theorem over : Rows.wordSizesRow.holds Try.pinned (OpenSpec.ofChange Rows.wordSizesSpec) :=
  OpenClaim.holds_of_wide 5 Try.f5 rfl rfl rfl rfl rfl rfl rfl ⟨rfl, rfl, rfl, rfl, rfl⟩ rfl rfl rfl rfl rfl (by kernel_rfl) Try.func5 (by kernel_rfl)
    (of_decide_eq_true (by kernel_rfl)) (by unfold Func.isWrapper; first | (rw [if_pos (by decide +kernel)]; kernel_rfl) | (rw [if_neg (by decide +kernel)]; exact ⟨rfl, rfl⟩))
    (fun os started H enc _ => lifted os started H enc)

theorem proved : Rows.WordSizesSaid :=
  over
#print axioms proved
end Go.Proofs.Ytomabogjoampnaa.wordSizes
