/- Proved: the law WordBack answers true for every int64, every uint64, every slice of bytes and every place, and leaves them as they were. No condition. -/
import Derived.Test.YtomabogjoampnaaFirst
import Derived.Test.YtomabogjoampnaaPutTake
import Derived.Test.YtomabogjoampnaaLaw
namespace Go.Proofs.Ytomabogjoampnaa.wordBack
open Go.RowKit Go.ChangeShapes Go.WideShapes Go.ChangeAt
set_option linter.unusedVariables false

theorem own : ownKnob Try.prog.godebug = none := by kernel_rfl
theorem kids : Kids Try.prog (· < Try.prog.types.size) := kids_rows (by kernel_rfl) (by kernel_rfl)
theorem full : ∀ t e, t < Try.prog.types.size → Try.prog.underlying t = some (.slice e) → 0 < Try.prog.cellsOf e := slices_full_of Try.prog (by kernel_rfl)

theorem tk_some {l : List Nat} {at_ : Int} {x e : Nat} (h : tk l at_ = some (x, e)) (hb : ∀ c ∈ l, c < 256) :
    ∃ t : Nat, at_ = t ∧ t < e ∧ e ≤ l.length ∧ U64 x ∧ enc x = (l.drop t).take (e - t) := by
  by_cases hin : 0 ≤ at_ ∧ at_ < l.length
  · obtain ⟨t, rfl⟩ := Int.eq_ofNat_of_zero_le hin.1
    rw [tk_in _ _ (by omega)] at h
    rcases ht : takeF 0 0 (l.drop t) with _ | ⟨v, n⟩
    · rw [ht] at h; simp at h
    · rw [ht] at h
      simp at h
      obtain ⟨rfl, rfl⟩ := h
      obtain ⟨h1, h2, h3, h4, h5⟩ := take_back _ _ _ ht (fun c hc => hb c (List.mem_of_mem_drop hc))
      simp at h3
      exact ⟨t, rfl, by omega, by omega, h1, by rw [h5, show t + n - t = n by omega]⟩
  · rw [tk_neg _ _ hin] at h; simp at h
set_option maxRecDepth 100000 in
set_option maxHeartbeats 1000000 in
theorem walk (w : World) (a0 : Int) (w0 : (Lit.int .i64 a0).wf = true) (a1 : Int) (w1 : (Lit.int .u64 a1).wf = true) (A2 : Option Addr) (n2 c2 : Nat) (z2 : List Int) (hc2 : n2 ≤ c2) (hn2 : c2 ≤ maxLen) (hl2 : z2.length = n2) (hr2 : Reads w w.heap.size 1 A2 n2 (z2.map (Value.int .u8))) (hw2 : ∀ z ∈ z2, (Lit.int .u8 z).wf = true) (a3 : Int) (w3 : (Lit.int .i64 a3).wf = true) :
    Calls Try.prog 7 #[.int .i64 a0, .int .u64 a1, .slice A2 n2 c2, .int .i64 a3] w fun e w' => e = .returned (.bool true) ∧ Below w.heap.size w w' := by
  obtain ⟨l, hz, hlz, hby⟩ := nats_u8 z2 hw2
  rw [hz] at hr2
  have hlen : l.length = n2 := by omega
  clear hz hlz hw2 hl2
  subst hlen
  obtain ⟨u, rfl, hu⟩ := u64_wf w1
  have h0 := i64_wf w0
  clear w0 w1 w3
  have HBY := Lib.hid hby
  have HU := Lib.hid hu
  have H0 := Lib.hid h0
  have HR := Lib.hid hr2
  unfold maxLen at hn2
  have HN := Lib.hid hn2
  clear hu hby h0 hn2 hr2
  by_cases h100 : 100 < l.length
  · have t1 : decide (100 < l.length) = true := by simpa using h100
    go_enter Try.func7, Try.ntmps7
    go_wp2_with fail
    refine (first_any _).mono ?_
    rintro e w' ⟨rfl, hb⟩
    go_wp2
    go_ret
    exact ⟨rfl, hb⟩
  have t1 : decide (100 < l.length) = false := by simpa using h100
  have hle : l.length ≤ 100 := by omega
  have hel := enc_len u
  clear h100
  have t2 : (zag (zig a0) != a0) = false := by rw [bne_eq_false_iff_eq, zag_zig a0 H0.out]
  have t3 : (zig (zag (u : Int)) != (u : Int)) = false := by rw [bne_eq_false_iff_eq, zig_zag u HU.out]
  obtain ⟨L, hL⟩ : ∃ L, L = l ++ enc u := ⟨_, rfl⟩
  have HT : Hid (tk L (l.length : Nat) = some (u, L.length)) := Lib.hid (by
    have := tk_enc l [] u HU.out
    rw [List.append_nil] at this
    rw [hL, this, List.length_append])
  have HLB : Hid (∀ c ∈ L, c < 256) := Lib.hid (by
    intro c hc
    rw [hL] at hc
    rcases List.mem_append.1 hc with h | h
    · exact HBY.out c h
    · exact enc_byte u c h)
  have hLl : L.length ≤ 1000 := by rw [hL, List.length_append]; omega
  have HL := Lib.hid hL
  clear hL
  rcases htk : tk l a3 with _ | ⟨x, e3⟩
  · have HK := Lib.hid htk
    clear htk
    go_enter Try.func7, Try.ntmps7
    go_wp2_with fail
    refine (first_any _).mono ?_
    rintro e w1 ⟨rfl, hb1⟩
    go_wp2_with fail
    refine (put_is L A2 _ c2 u l _ HL.out ((HR.out.below hb1).more hb1.size) (by omega) HU.out).mono ?_
    rintro e w2 ⟨B, d, rfl, ho2, hrd2, hb2⟩
    have HR2 := Lib.hid hrd2
    clear ho2 hrd2
    go_wp2_with fail
    refine (take_any B _ d _ L _ HR2.out HLB.out (by omega)).mono ?_
    rintro e w3 ⟨rfl, rfl⟩
    rw [HT.out]
    simp only [takeVal]
    go_wp2_with (first | (go_at_call 14; refine (zig_any _ _).mono ?_; rintro e w' ⟨rfl, rfl⟩) | (go_at_call 16; refine (zag_any _ _).mono ?_; rintro e w' ⟨rfl, rfl⟩))
    have hb12 := hb1.trans (hb2.mono hb1.size)
    refine (take_any A2 _ c2 _ l _ ((HR.out.below hb12).more hb12.size) HBY.out (by omega)).mono ?_
    rintro e w3 ⟨rfl, rfl⟩
    rw [HK.out]
    simp only [takeVal]
    go_wp2
    go_ret
    exact ⟨rfl, hb12⟩
  · obtain ⟨t, rfl, hte, hel2, hxu, hen⟩ := tk_some htk HBY.out
    have HK := Lib.hid htk
    have HXU := Lib.hid hxu
    have HEN := Lib.hid hen
    clear htk hxu hen
    have s1 : decide (e3 ≤ t) = false := by simpa using hte
    have s2 : decide (l.length < e3) = false := by simpa using hel2
    go_enter Try.func7, Try.ntmps7
    go_wp2_with fail
    refine (first_any _).mono ?_
    rintro e w1 ⟨rfl, hb1⟩
    go_wp2_with fail
    refine (put_is L A2 _ c2 u l _ HL.out ((HR.out.below hb1).more hb1.size) (by omega) HU.out).mono ?_
    rintro e w2 ⟨B, d, rfl, ho2, hrd2, hb2⟩
    have HR2 := Lib.hid hrd2
    clear ho2 hrd2
    go_wp2_with fail
    refine (take_any B _ d _ L _ HR2.out HLB.out (by omega)).mono ?_
    rintro e w3 ⟨rfl, rfl⟩
    rw [HT.out]
    simp only [takeVal]
    go_wp2_with (first | (go_at_call 14; refine (zig_any _ _).mono ?_; rintro e w' ⟨rfl, rfl⟩) | (go_at_call 16; refine (zag_any _ _).mono ?_; rintro e w' ⟨rfl, rfl⟩))
    have hb12 := hb1.trans (hb2.mono hb1.size)
    refine (take_any A2 _ c2 _ l _ ((HR.out.below hb12).more hb12.size) HBY.out (by omega)).mono ?_
    rintro e w3 ⟨rfl, rfl⟩
    rw [HK.out]
    simp only [takeVal]
    go_wp2_with fail
    refine (put_any none 0 0 x [] _ (by exact Reads.none_) (by decide) HXU.out).mono ?_
    rintro e w3 ⟨B3, d3, rfl, ho3, hrd3, hb3⟩
    have HR3 := Lib.hid hrd3
    clear ho3 hrd3
    have hb13 := hb12.trans (hb3.mono hb12.size)
    obtain ⟨ad, v, hA, _⟩ := HR.out.at_ (k := 0) (by omega)
    subst hA
    go_wp2_with fail
    refine (same_any _ _ _ _ _ _ (enc x) (enc x) _ (by simpa using HR3.out) ?_ (by have := enc_len x; omega)).mono ?_
    · have := ((HR.out.below hb13).more hb13.size).sub (t := t) (e := e3) (by omega) hel2
      rw [HEN.out, List.map_take, List.map_drop]
      exact this
    rintro e w4 ⟨rfl, hb4⟩
    rw [show sameB (enc x) (enc x) = true by simp [sameB]]
    go_wp2
    go_ret
    exact ⟨rfl, hb13.trans (hb4.mono hb13.size)⟩

set_option maxRecDepth 100000 in
theorem lifted (os : Os) (started : os.Started) (H : Type) (enc : TypeId × Value → H) :
    ReturnsInHanded {} Try.checked os 7 .any (Rows.wordBackSpec.pre6 enc Try.prog Try.f7 Rows.wordBackRow.domain false) (Rows.wordBackSpec.post enc Try.prog Try.f7 false true false false) := by
  refine returnsInHanded_of_change (C := Try.checked) own started (by kernel_rfl) Try.func7
    (ChangeSpec.witness6 (enc := enc) (C := Try.checked) false ⟨#[], #[.int .i64 0, .int .u64 0, .slice none 0 0, .int .i64 0], []⟩ 8 (by kernel_rfl) (by kernel_rfl) (by kernel_rfl) (by kernel_rfl)) ?_
  intro W base args ds gs before hval0 hW hcnd _
  have hval : ∀ (j : Nat) t v, Try.f7.params[j]? = some t → args[j]? = some v → Value.okWide Try.prog W .any base t v := hval0
  have hW' := hW
  obtain ⟨p, q, hA0, hV, rfl, hfz, hnd⟩ := hW
  have hA : DataW.TrodAll enc Try.prog W 0 (fun _ => true) true Try.f7.params.toList args.toList ds p := hA0
  rw [Try.params7] at hA hval
  obtain ⟨v0, vs0, d0, ds0, p0, q0, hargs, rfl, rfl, h0, r0⟩ := trodAll_cons hA
  obtain ⟨v1, vs1, d1, ds1, p1, q1, rfl, rfl, rfl, h1, r1⟩ := trodAll_cons r0
  obtain ⟨v2, vs2, d2, ds2, p2, q2, rfl, rfl, rfl, h2, r2⟩ := trodAll_cons r1
  obtain ⟨v3, vs3, d3, ds3, p3, q3, rfl, rfl, rfl, h3, r3⟩ := trodAll_cons r2
  obtain ⟨rfl, rfl, rfl⟩ := trodAll_nil r3
  obtain rfl : args = #[v0, v1, v2, v3] := by cases args; simp_all
  obtain ⟨rfl, rfl⟩ := trodVars_none hV
  obtain ⟨a0, rfl, rfl, rfl, w0⟩ := open_int Try.underlying2 (hval 0 2 v0 rfl rfl) h0
  obtain ⟨a1, rfl, rfl, rfl, w1⟩ := open_int Try.underlying27 (hval 1 27 v1 rfl rfl) h1
  obtain ⟨A2, n2, c2, z2, rfl, hc2, hn2, hl2, hr2, hw2⟩ := open_row_ints Try.underlying29 Try.underlying5 (by kernel_rfl) (hval 2 29 v2 rfl rfl) h2
  obtain ⟨a3, rfl, rfl, rfl, w3⟩ := open_int Try.underlying3 (hval 3 3 v3 rfl rfl) h3
  clear hA0 hval0
  refine (walk W a0 w0 a1 w1 A2 n2 c2 z2 hc2 hn2 hl2 hr2 hw2 a3 w3).mono fun e W' ⟨he, hg⟩ => ?_
  subst he
  exact ⟨_, rfl, post_law kids full (by rw [Try.params7]; decide +kernel) rfl hW' rfl rfl rfl hg (by kernel_rfl) Try.underlying4⟩

theorem over : Rows.wordBackRow.holds Try.pinned (OpenSpec.ofChange Rows.wordBackSpec) :=
  OpenClaim.holds_of_wide 7 Try.f7 rfl rfl rfl rfl rfl rfl rfl ⟨rfl, rfl, rfl, rfl, rfl⟩ rfl rfl rfl rfl rfl (by kernel_rfl) Try.func7 (by kernel_rfl)
    (of_decide_eq_true (by kernel_rfl)) (by unfold Func.isWrapper; first | (rw [if_pos (by decide +kernel)]; kernel_rfl) | (rw [if_neg (by decide +kernel)]; exact ⟨rfl, rfl⟩))
    (fun os started H enc _ => lifted os started H enc)

theorem proved : Rows.WordBackSaid :=
  over
#print axioms proved
end Go.Proofs.Ytomabogjoampnaa.wordBack
