/- Proved: the law WordRows answers true for every slice of uint64, and leaves it as it was. No condition. -/
import Derived.Test.YtomabogjoampnaaFirst
import Derived.Test.YtomabogjoampnaaPutTake
import Derived.Test.YtomabogjoampnaaLaw
namespace Go.Proofs.Ytomabogjoampnaa.wordRows
open Go.RowKit Go.ChangeShapes Go.WideShapes Go.ChangeAt
set_option linter.unusedVariables false

theorem own : ownKnob Try.prog.godebug = none := by kernel_rfl
theorem kids : Kids Try.prog (· < Try.prog.types.size) := kids_rows (by kernel_rfl) (by kernel_rfl)
theorem full : ∀ t e, t < Try.prog.types.size → Try.prog.underlying t = some (.slice e) → 0 < Try.prog.cellsOf e := slices_full_of Try.prog (by kernel_rfl)

def bs (l : List Nat) (k : Nat) : List Nat := (l.take k).flatMap enc
theorem bs_succ (l : List Nat) (k : Nat) (h : k < l.length) : bs l (k + 1) = bs l k ++ enc l[k] := by
  unfold bs; rw [List.take_succ_eq_append_getElem h, List.flatMap_append]; simp
theorem bs_len (l : List Nat) (k : Nat) (h : k ≤ l.length) : (bs l k).length ≤ 10 * k := by
  induction k with
  | zero => simp [bs]
  | succ k ih => rw [bs_succ l k h, List.length_append]; have := ih (by omega); have := enc_len l[k]; omega
theorem bs_byte (l : List Nat) (k : Nat) : ∀ c ∈ bs l k, c < 256 := by
  intro c hc
  obtain ⟨u, _, hu⟩ := List.mem_flatMap.1 hc
  exact enc_byte u c hu
theorem bs_split (l : List Nat) (k : Nat) (h : k < l.length) : bs l l.length = bs l k ++ (enc l[k] ++ (l.drop (k + 1)).flatMap enc) := by
  have : l = l.take k ++ (l[k] :: l.drop (k + 1)) := by rw [← List.drop_eq_getElem_cons h, List.take_append_drop]
  unfold bs
  rw [List.take_length]
  conv => lhs; rw [this]
  rw [List.flatMap_append, List.flatMap_cons]
def Rel1 (w : World) (l : List Nat) (sb si : Value) (wr : World) : Prop :=
  ∃ (k : Nat) (A : Option Addr) (c : Nat), k ≤ l.length ∧ si = .int .i64 (k : Int) ∧ sb = .slice A (bs l k).length c ∧ Reads wr wr.heap.size 1 A (bs l k).length ((bs l k).map bv) ∧ Below w.heap.size w wr
def Rel2 (l : List Nat) (sat si : Value) : Prop :=
  ∃ k : Nat, k ≤ l.length ∧ si = .int .i64 (k : Int) ∧ sat = .int .i64 ((bs l k).length : Int)

set_option maxRecDepth 100000 in
set_option maxHeartbeats 8000000 in
theorem walk (w : World) (A0 : Option Addr) (n0 c0 : Nat) (z0 : List Int) (hn0 : n0 ≤ maxLen) (hl0 : z0.length = n0) (hr0 : Reads w w.heap.size 1 A0 n0 (z0.map (Value.int .u64))) (hw0 : ∀ z ∈ z0, (Lit.int .u64 z).wf = true) :
    Calls Try.prog 6 #[.slice A0 n0 c0] w fun e w' => e = .returned (.bool true) ∧ Below w.heap.size w w' := by
  obtain ⟨l, hz, hlz, hu⟩ := nats_u64 z0 hw0
  rw [hz] at hr0
  have hlen : l.length = n0 := by omega
  clear hz hlz hw0 hl0
  subst hlen
  have HU := Lib.hid hu
  unfold maxLen at hn0
  have HN := Lib.hid hn0
  clear hu hn0
  by_cases h60 : 60 < l.length
  · have t1 : decide (60 < l.length) = true := by simpa using h60
    go_enter Try.func6, Try.ntmps6
    go_wp2_with fail
    refine (first_any _).mono ?_
    rintro e w' ⟨rfl, hb⟩
    go_wp2
    go_ret
    exact ⟨rfl, hb⟩
  have t1 : decide (60 < l.length) = false := by simpa using h60
  have hle : l.length ≤ 60 := by omega
  clear HN h60
  go_enter Try.func6, Try.ntmps6
  go_wp2_with fail
  refine (first_any _).mono ?_
  rintro e w1 ⟨rfl, hb⟩
  have HB := Lib.hid hb
  go_wp2
  go_loopw [4, 5] (fun sb si wr => Rel1 w l sb si wr) (fun _ si _ => l.length - (intOf si).toNat)
  case atStart => exact ⟨0, none, 0, Nat.zero_le _, rfl, rfl, Reads.none_, hb⟩
  case round =>
    obtain ⟨k, A, c, hk, rfl, rfl, hrd, hbr⟩ := hrel
    have HR := Lib.hid hrd
    clear hrd
    have hbl := bs_len l k hk
    by_cases hlt : k < l.length
    · obtain ⟨ad, v, rfl, had, hv, hcell⟩ := (hr0.below hbr).at_ hlt
      obtain ⟨x, hx⟩ : ∃ x, x = l[k] := ⟨_, rfl⟩
      have hvx : v = .int .u64 (x : Int) := by
        rw [List.getElem?_map, List.getElem?_eq_getElem hlt, ← hx] at hv
        simpa using hv.symm
      subst hvx
      have HX := Lib.hid hx
      have HU1 : Hid (U64 x) := Lib.hid (by rw [hx]; exact HU.out _ (List.getElem_mem _))
      clear hv hx
      go_wp2_with fail
      refine (put_any A _ c x (bs l k) _ HR.out (by omega) HU1.out).mono ?_
      rintro e w2 ⟨A2, c2, rfl, ho2, hr2, hb2⟩
      have HR2 := Lib.hid hr2
      clear ho2 hr2
      go_wp2
      refine ⟨⟨k + 1, A2, c2, by omega, by go_num, ?_, ?_, hbr.trans (hb2.mono hbr.size)⟩, by simp [intOf]; omega⟩
      · simp [bs_succ l k hlt, ← HX.out]
      · rw [bs_succ l k hlt, ← HX.out]; exact HR2.out
    · have hkl : k = l.length := by omega
      subst hkl
      go_wp2
      go_loop [6, 7] (fun sat si => Rel2 l sat si) (fun _ si => l.length - (intOf si).toNat)
      case atStart => exact ⟨0, Nat.zero_le _, rfl, rfl⟩
      case round =>
        obtain ⟨k, hk, rfl, rfl⟩ := hrel
        have hbk := bs_len l k hk
        by_cases hlt : k < l.length
        · obtain ⟨ad, v, rfl, had, hv, hcell⟩ := (hr0.below hbr).at_ hlt
          obtain ⟨x, hx⟩ : ∃ x, x = l[k] := ⟨_, rfl⟩
          have hvx : v = .int .u64 (x : Int) := by
            rw [List.getElem?_map, List.getElem?_eq_getElem hlt, ← hx] at hv
            simpa using hv.symm
          subst hvx
          have HT : Hid (tk (bs l l.length) ((bs l k).length : Nat) = some (x, (bs l (k + 1)).length)) := Lib.hid (by
            rw [bs_split l k hlt, tk_enc _ _ _ (HU.out _ (List.getElem_mem _)), bs_succ l k hlt, hx, List.length_append])
          have hpos : (bs l k).length < (bs l (k + 1)).length := by
            rw [bs_succ l k hlt, List.length_append]; have := enc_pos l[k]; omega
          have hpos' : decide ((bs l (k + 1)).length ≤ (bs l k).length) = false := by simpa using hpos
          clear hv hx
          go_wp2_with fail
          refine (take_any A _ c _ (bs l l.length) _ HR.out (bs_byte _ _) (by omega)).mono ?_
          rintro e w2 ⟨rfl, rfl⟩
          rw [HT.out]
          simp only [takeVal]
          go_wp2
          exact ⟨⟨k + 1, by omega, by go_num, rfl⟩, by simp [intOf]; omega⟩
        · have hkl : k = l.length := by omega
          subst hkl
          go_wp2_with fail
          refine (take_any A _ c _ (bs l l.length) _ HR.out (bs_byte _ _) (by omega)).mono ?_
          rintro e w2 ⟨rfl, rfl⟩
          rw [tk_end]
          simp only [takeVal]
          go_wp2
          go_ret
          exact ⟨rfl, hbr⟩

set_option maxRecDepth 100000 in
theorem lifted (os : Os) (started : os.Started) (H : Type) (enc : TypeId × Value → H) :
    ReturnsInHanded {} Try.checked os 6 .any (Rows.wordRowsSpec.pre6 enc Try.prog Try.f6 Rows.wordRowsRow.domain false) (Rows.wordRowsSpec.post enc Try.prog Try.f6 false true false false) := by
  refine returnsInHanded_of_change (C := Try.checked) own started (by kernel_rfl) Try.func6
    (ChangeSpec.witness6 (enc := enc) (C := Try.checked) false ⟨#[], #[.slice none 0 0], []⟩ 8 (by kernel_rfl) (by kernel_rfl) (by kernel_rfl) (by kernel_rfl)) ?_
  intro W base args ds gs before hval0 hW hcnd _
  have hval : ∀ (j : Nat) t v, Try.f6.params[j]? = some t → args[j]? = some v → Value.okWide Try.prog W .any base t v := hval0
  have hW' := hW
  obtain ⟨p, q, hA0, hV, rfl, hfz, hnd⟩ := hW
  have hA : DataW.TrodAll enc Try.prog W 0 (fun _ => true) true Try.f6.params.toList args.toList ds p := hA0
  rw [Try.params6] at hA hval
  obtain ⟨v0, vs0, d0, ds0, p0, q0, hargs, rfl, rfl, h0, r0⟩ := trodAll_cons hA
  obtain ⟨rfl, rfl, rfl⟩ := trodAll_nil r0
  obtain rfl : args = #[v0] := by cases args; simp_all
  obtain ⟨rfl, rfl⟩ := trodVars_none hV
  obtain ⟨A0, n0, c0, z0, rfl, hn0, hl0, hr0, hw0⟩ := open_row_ints Try.underlying33 Try.underlying27 (by kernel_rfl) (hval 0 33 v0 rfl rfl) h0
  clear hA0 hval0
  refine (walk W A0 n0 c0 z0 hn0 hl0 hr0 hw0).mono fun e W' ⟨he, hg⟩ => ?_
  subst he
  exact ⟨_, rfl, post_law kids full (by rw [Try.params6]; decide +kernel) rfl hW' rfl rfl rfl hg (by kernel_rfl) Try.underlying4⟩

theorem over : Rows.wordRowsRow.holds Try.pinned (OpenSpec.ofChange Rows.wordRowsSpec) :=
  OpenClaim.holds_of_wide 6 Try.f6 rfl rfl rfl rfl rfl rfl rfl ⟨rfl, rfl, rfl, rfl, rfl⟩ rfl rfl rfl rfl rfl (by kernel_rfl) Try.func6 (by kernel_rfl)
    (of_decide_eq_true (by kernel_rfl)) (by unfold Func.isWrapper; first | (rw [if_pos (by decide +kernel)]; kernel_rfl) | (rw [if_neg (by decide +kernel)]; exact ⟨rfl, rfl⟩))
    (fun os started H enc _ => lifted os started H enc)

theorem proved : Rows.WordRowsSaid :=
  over
#print axioms proved
end Go.Proofs.Ytomabogjoampnaa.wordRows
