/- Proved: the law WordOrder answers true for every three int64 arguments, and leaves them as they were. No condition. -/
import Derived.Test.YtomabogjoampnaaFirst
import Derived.Test.YtomabogjoampnaaBits
import Derived.Test.YtomabogjoampnaaBelow
import Derived.ProofKit
import Derived.OpenShut
namespace Go.Proofs.Ytomabogjoampnaa.wordOrder
open Go.RowKit Go.ChangeShapes Go.WideShapes Go.ChangeAt Go.RowKit
set_option linter.unusedVariables false

theorem own : ownKnob Try.prog.godebug = none := by kernel_rfl

set_option maxRecDepth 100000 in
set_option maxHeartbeats 8000000 in
theorem walk (a0 : Int) (a1 : Int) (a2 : Int) (w0 : (Lit.int .i64 a0).wf = true) (w1 : (Lit.int .i64 a1).wf = true) (w2 : (Lit.int .i64 a2).wf = true) (w : World) :
    Calls Try.prog 8 #[.int .i64 a0, .int .i64 a1, .int .i64 a2] w fun e w' => e = .returned (.bool true) ∧ Below w.heap.size w w' := by
  have h0 := i64_wf w0
  have h1 := i64_wf w1
  clear w0 w1 w2
  have s1 : (wrap64 (-wrap64 (-a0)) != a0) = false := by rw [bne_eq_false_iff_eq, neg_neg _ h0]
  have s2 : (wrap64 (-a0) != tv 9 0 a0) = false := by rw [bne_eq_false_iff_eq, neg_sub]
  have s3 := lt_self a0
  have s4 := eq_self a0
  by_cases hx : a0 < a1
  · have t1 := lt_1 hx
    have t2 : decide (a0 < a1) = true := by simpa using hx
    have t3 := eq_0 (a := a0) (b := a1) (by omega)
    have t4 := xor_0 h0 h1 (show ¬ a0 = a1 by omega)
    by_cases hy : a1 < a2
    · have t5 := lt_1 hy
      have t6 := lt_1 (show a0 < a2 by omega)
      clear h0 h1 hx hy
      go_enter Try.func8, Try.ntmps8
      go_wp2_with fail
      refine (first_any _).mono ?_
      rintro e w' ⟨rfl, hb⟩
      go_wp2_with (first | (go_at_call 11; refine (func2_any _ _ _ _).mono ?_; rintro e w' ⟨rfl, rfl⟩) | (go_at_call 18; refine (one_neg _ _).mono ?_; rintro e w' ⟨rfl, rfl⟩))
      go_ret
      exact ⟨rfl, hb⟩
    · have t5 := lt_0 hy
      clear h0 h1 hx hy
      go_enter Try.func8, Try.ntmps8
      go_wp2_with fail
      refine (first_any _).mono ?_
      rintro e w' ⟨rfl, hb⟩
      go_wp2_with (first | (go_at_call 11; refine (func2_any _ _ _ _).mono ?_; rintro e w' ⟨rfl, rfl⟩) | (go_at_call 18; refine (one_neg _ _).mono ?_; rintro e w' ⟨rfl, rfl⟩))
      go_ret
      exact ⟨rfl, hb⟩
  have t1 := lt_0 hx
  have t2 : decide (a0 < a1) = false := by simpa using hx
  by_cases he : a0 = a1
  · have t3 := eq_1 he
    have t4 := xor_1 he
    clear h0 h1 hx he
    go_enter Try.func8, Try.ntmps8
    go_wp2_with fail
    refine (first_any _).mono ?_
    rintro e w' ⟨rfl, hb⟩
    go_wp2_with (first | (go_at_call 11; refine (func2_any _ _ _ _).mono ?_; rintro e w' ⟨rfl, rfl⟩) | (go_at_call 18; refine (one_neg _ _).mono ?_; rintro e w' ⟨rfl, rfl⟩))
    go_ret
    exact ⟨rfl, hb⟩
  · have t3 := eq_0 he
    have t4 := xor_0 h0 h1 he
    clear h0 h1 hx he
    go_enter Try.func8, Try.ntmps8
    go_wp2_with fail
    refine (first_any _).mono ?_
    rintro e w' ⟨rfl, hb⟩
    go_wp2_with (first | (go_at_call 11; refine (func2_any _ _ _ _).mono ?_; rintro e w' ⟨rfl, rfl⟩) | (go_at_call 18; refine (one_neg _ _).mono ?_; rintro e w' ⟨rfl, rfl⟩))
    go_ret
    exact ⟨rfl, hb⟩

set_option maxRecDepth 100000 in
theorem lifted (os : Os) (started : os.Started) (H : Type) (enc : TypeId × Value → H) :
    ReturnsInHanded {} Try.checked os 8 .any (Rows.wordOrderSpec.pre6 enc Try.prog Try.f8 Rows.wordOrderRow.domain false) (Rows.wordOrderSpec.post enc Try.prog Try.f8 false true false false) := by
  refine returnsInHanded_of_change (C := Try.checked) own started (by kernel_rfl) Try.func8
    (ChangeSpec.witness6 (enc := enc) (C := Try.checked) false ⟨#[], #[.int .i64 0, .int .i64 0, .int .i64 0], []⟩ 8 (by kernel_rfl) (by kernel_rfl) (by kernel_rfl) (by kernel_rfl)) ?_
  intro W base args ds gs before hval0 hW hcnd _
  have hval : ∀ (j : Nat) t v, Try.f8.params[j]? = some t → args[j]? = some v → Value.okWide Try.prog W .any base t v := hval0
  have hW' := hW
  obtain ⟨p, q, hA0, hV, rfl, hfz, hnd⟩ := hW
  have hA : DataW.TrodAll enc Try.prog W 0 (fun _ => true) true Try.f8.params.toList args.toList ds p := hA0
  rw [Try.params8] at hA hval
  obtain ⟨v0, vs0, d0, ds0, p0, q0, hargs, rfl, rfl, h0, r0⟩ := trodAll_cons hA
  obtain ⟨v1, vs1, d1, ds1, p1, q1, rfl, rfl, rfl, h1, r1⟩ := trodAll_cons r0
  obtain ⟨v2, vs2, d2, ds2, p2, q2, rfl, rfl, rfl, h2, r2⟩ := trodAll_cons r1
  obtain ⟨rfl, rfl, rfl⟩ := trodAll_nil r2
  obtain rfl : args = #[v0, v1, v2] := by cases args; simp_all
  obtain ⟨rfl, rfl⟩ := trodVars_none hV
  obtain ⟨a0, rfl, rfl, rfl, w0⟩ := open_int Try.underlying2 (hval 0 2 v0 rfl rfl) h0
  obtain ⟨a1, rfl, rfl, rfl, w1⟩ := open_int Try.underlying2 (hval 1 2 v1 rfl rfl) h1
  obtain ⟨a2, rfl, rfl, rfl, w2⟩ := open_int Try.underlying2 (hval 2 2 v2 rfl rfl) h2
  clear hA0 hval0
  simp only [List.append_nil] at hW'
  refine (walk a0 a1 a2 w0 w1 w2 W).mono fun e W' ⟨he, hg⟩ => ?_
  subst he
  exact ⟨_, rfl, post_of_below (pa := []) (pv := []) hW' (fun _ _ _ => (trodAll_cons_mk (shut_bool Try.underlying4 _) trodAll_mk0)) (fun sp _ => (trodAll_cons_mk (shut_int Try.underlying2 w0) (trodAll_cons_mk (shut_int Try.underlying2 w1) (trodAll_cons_mk (shut_int Try.underlying2 w2) trodAll_mk0)))) (fun _ _ => rfl) rfl hg (ok_one (by kernel_rfl) rfl (okWide_bool_mk Try.underlying4 _))⟩

theorem over : Rows.wordOrderRow.holds Try.pinned (OpenSpec.ofChange Rows.wordOrderSpec) :=
  OpenClaim.holds_of_wide 8 Try.f8 rfl rfl rfl rfl rfl rfl rfl ⟨rfl, rfl, rfl, rfl, rfl⟩ rfl rfl rfl rfl rfl (by kernel_rfl) Try.func8 (by kernel_rfl)
    (of_decide_eq_true (by kernel_rfl)) (by unfold Func.isWrapper; first | (rw [if_pos (by decide +kernel)]; kernel_rfl) | (rw [if_neg (by decide +kernel)]; exact ⟨rfl, rfl⟩))
    (fun os started H enc _ => lifted os started H enc)

theorem proved : Rows.WordOrderSaid :=
  over
#print axioms proved
end Go.Proofs.Ytomabogjoampnaa.wordOrder
