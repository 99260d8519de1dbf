/- BitsOrder, the card: for every input the call returns true and each argument reads afterwards as it read before; no further conditions. -/
import Derived.Test.YtcaoeoggabbekaaDoorFirstB
import Derived.Test.YtcaoeoggabbekaaDoorTab
import Derived.Test.YtcaoeoggabbekaaDoorCards
import Derived.Test.YtcaoeoggabbekaaDoorTie
namespace Go.Proofs.YtcaoeoggabbekaaDoor.bitsOrder
open Go.RowKit Go.ChangeShapes Go.WideShapes Go.ChangeAt
set_option linter.unusedVariables false

theorem own : ownKnob Tryd.prog.godebug = none := by kernel_rfl
theorem kids : Kids Tryd.prog (· < Tryd.prog.types.size) := kids_rows (by kernel_rfl) (by kernel_rfl)
theorem full : ∀ t e, t < Tryd.prog.types.size → Tryd.prog.underlying t = some (.slice e) → 0 < Tryd.prog.cellsOf e := slices_full_of Tryd.prog (by kernel_rfl)

theorem and63 (a : Int) (h : (Lit.int .i64 a).wf = true) : ∃ n : Nat, n < 64 ∧ bits BinOp.and IntKind.i64 a 63 = (n : Int) := by
  have hl : (BitVec.ofInt 64 a &&& BitVec.ofInt 64 63).toNat < 64 := by
    rw [BitVec.toNat_and]
    exact Nat.lt_of_le_of_lt Nat.and_le_right (by decide)
  refine ⟨(BitVec.ofInt 64 a &&& BitVec.ofInt 64 63).toNat, hl, ?_⟩
  show IntKind.i64.wrap ((BitVec.ofInt 64 a &&& BitVec.ofInt 64 63).toNat : Int) = _
  exact IntWalk.i64_in _ (by omega)
/-- the numbers in another order -/
def turned (l : List Int) (t k : Nat) : List Int := ((List.range k).map fun i => l.getD ((t + i) % l.length) 0).reverse
theorem turned_succ (l : List Int) (t k : Nat) : turned l t (k + 1) = l.getD ((t + k) % l.length) 0 :: turned l t k := by
  simp [turned, List.range_succ]
theorem turned_len (l : List Int) (t k : Nat) : (turned l t k).length = k := by simp [turned]
theorem turned_mem (l : List Int) (t : Nat) (x : Int) : x ∈ turned l t l.length ↔ x ∈ l := by
  rw [turned, List.mem_reverse, List.mem_map]
  constructor
  · rintro ⟨i, hi, rfl⟩
    rw [List.mem_range] at hi
    have h : (t + i) % l.length < l.length := Nat.mod_lt _ (by omega)
    rw [List.getD, List.getElem?_eq_getElem h]
    exact List.getElem_mem h
  · intro hx
    obtain ⟨j, hj, rfl⟩ := List.getElem_of_mem hx
    have hd : t % l.length < l.length := Nat.mod_lt _ (by omega)
    refine ⟨(j + (l.length - t % l.length)) % l.length, List.mem_range.2 (Nat.mod_lt _ (by omega)), ?_⟩
    have e : (t + (j + (l.length - t % l.length)) % l.length) % l.length = j := by
      rw [Nat.add_mod_mod]
      have e1 : t + (j + (l.length - t % l.length)) = j + l.length * (t / l.length + 1) := by
        have := Nat.div_add_mod t l.length
        rw [Nat.mul_add, Nat.mul_one]
        omega
      rw [e1, Nat.add_mul_mod_self_left, Nat.mod_eq_of_lt hj]
    rw [e, List.getD, List.getElem?_eq_getElem hj]
    rfl
theorem elsI_turned (l : List Int) (t N : Nat) : elsI (memP N (turned l t l.length)) N = elsI (memP N l) N := by
  rw [elsI, elsI, els_ext fun i _ => ?_]
  simp only [memP, turned_mem]
def TurnRel (w : World) (l : List Int) (t : Nat) (s7 s8 : Value) (wr : World) : Prop :=
  ∃ (k : Nat) (A : Option Addr) (c : Nat), k ≤ l.length ∧ s8 = .int .i64 (k : Int) ∧ s7 = .slice A k c ∧ Reads wr wr.heap.size 1 A k ((turned l t k).map (Value.int .i64)) ∧ Below w.heap.size w wr
theorem ints_one (l : List Int) : ∀ u ∈ l.map (Value.int .i64), u.oneCell' = true := by
  intro u hu
  obtain ⟨x, _, rfl⟩ := List.mem_map.1 hu
  rfl
theorem els_rise (p : Nat → Bool) (N : Nat) : (els p N).Pairwise (· < ·) := List.Pairwise.filter _ List.pairwise_lt_range
theorem elsI_rise {p : Nat → Bool} {N i j : Nat} {x y : Int} (hij : i < j) (hx : (elsI p N)[i]? = some x) (hy : (elsI p N)[j]? = some y) : x < y := by
  rw [elsI, List.getElem?_map] at hx hy
  obtain ⟨a, ha, rfl⟩ := Option.map_eq_some_iff.1 hx
  obtain ⟨b, hb, rfl⟩ := Option.map_eq_some_iff.1 hy
  obtain ⟨h1, rfl⟩ := List.getElem?_eq_some_iff.1 ha
  obtain ⟨h2, rfl⟩ := List.getElem?_eq_some_iff.1 hb
  have := List.pairwise_iff_getElem.1 (els_rise p N) i j h1 h2 hij
  omega
theorem elsI_mem {l : List Int} {N j : Nat} {x : Int} (hx : (elsI (memP N l) N)[j]? = some x) : x ∈ l := by
  have h := List.mem_of_getElem? hx
  rw [elsI, List.mem_map] at h
  obtain ⟨i, hi, rfl⟩ := h
  have := (mem_els.1 hi).2
  simp [memP] at this
  exact this.1
def UpToRel (w : World) (m : Nat) (s12 : Value) (wr : World) : Prop := ∃ k : Nat, k ≤ m ∧ s12 = .int .i64 (k : Int) ∧ Below w.heap.size w wr
set_option maxRecDepth 100000 in
set_option maxHeartbeats 2000000 in
theorem walk (w : World) (hT : TabIn w) (A0 : Option Addr) (n0 c0 : Nat) (z0 : List Int) (hc0 : n0 ≤ c0) (hn0 : c0 ≤ maxLen) (hl0 : z0.length = n0) (hr0 : Reads w w.heap.size 1 A0 n0 (z0.map (Value.int .i64))) (hw0 : ∀ z ∈ z0, (Lit.int .i64 z).wf = true) (a1 : Int) (w1 : (Lit.int .i64 a1).wf = true) :
    Calls Tryd.prog 4 #[.slice A0 n0 c0, .int .i64 a1] w fun e w' => e = .returned (.bool true) ∧ Below w.heap.size w w' := by
  obtain ⟨t, ht, hand⟩ := and63 a1 w1
  obtain ⟨i0, hi0, hz0, hz1, hz2⟩ := info_parts info_int
  have HT := Lib.hid hT
  have HR0 := Lib.hid hr0
  have HL0 := Lib.hid hl0
  clear hT w1 hr0 hl0 hw0
  by_cases h60 : 60 < n0
  · have h60' : (60 : Int) < (n0 : Int) := by omega
    go_enter Tryd.func4, Tryd.ntmps4
    go_wp2_with fail
    refine (first_any _ HT.out).mono ?_
    rintro e w1 ⟨rfl, hb1⟩
    have HB1 := Lib.hid hb1
    clear hb1
    go_wp2
    go_ret
    exact ⟨rfl, HB1.out⟩
  · have h60' : ¬ (60 : Int) < (n0 : Int) := by omega
    go_enter Tryd.func4, Tryd.ntmps4
    go_wp2_with fail
    refine (first_any _ HT.out).mono ?_
    rintro e w1 ⟨rfl, hb1⟩
    have HB1 := Lib.hid hb1
    have HR1 := Lib.hid ((HR0.out.below hb1).more hb1.size)
    have HT1 := Lib.hid (HT.out.below hb1 HT.out.pos)
    clear hb1
    go_wp2_with fail
    refine (set_any 300 A0 n0 c0 z0 _ HR1.out (by omega) HT1.out.pos).mono ?_
    rintro e w2 ⟨b, g, rfl, hb, hg, hS, hbl⟩
    have HB2 : Hid (Below w.heap.size w w2) := Lib.hid (HB1.out.trans (hbl.mono HB1.out.size))
    have HS2 := Lib.hid (show SetAt w2 b g 300 (memP 300 z0) from hS)
    clear hS hbl hb hg
    go_wp2
    go_loopw [7, 8] (fun s7 s8 wr => TurnRel w2 z0 t s7 s8 wr) (fun _ s8 _ => n0 - (intOf s8).toNat)
    case atStart => exact ⟨0, none, 0, Nat.zero_le _, rfl, rfl, Reads.none_, Below.refl _ _⟩
    case round =>
      obtain ⟨k, A, c, hk, rfl, rfl, hrt, hbr⟩ := hrel
      have HRT := Lib.hid hrt
      have HBR := Lib.hid hbr
      clear hrt hbr
      by_cases hlt : k < n0
      · obtain ⟨m, hm⟩ : ∃ m, m = (t + k) % n0 := ⟨_, rfl⟩
        have hmn : m < n0 := by rw [hm]; exact Nat.mod_lt _ (by omega)
        obtain ⟨ad, v, rfl, had, hv, hcell⟩ := (((HR0.out.below HB2.out).more HB2.out.size).below HBR.out).at_ hmn
        rw [List.getElem?_map] at hv
        obtain ⟨x, hx, rfl⟩ := Option.map_eq_some_iff.1 hv
        have HX := Lib.hid hx
        have e1 : ((t : Int) + (k : Int)) % (n0 : Int) = (m : Int) := by rw [hm]; simp
        have m0 : (0 : Int) ≤ (m : Int) := by omega
        have m1 : (m : Int) < (n0 : Int) := by omega
        have n1 : ((n0 : Int) == 0) = false := by simp; omega
        have HM := Lib.hid hm
        clear hv hx hm
        go_wp2_with (at_builtin
                     (refine wpList_append_any _ rfl (.tmp 41) (.tmp 42) _ rfl w.heap.size 3 i0 _ 1 8 Tryd.underlying27 hi0 hz0 hz1 hz2 rfl (by omega) (.slice (some ⟨wr.heap.size, 0, none⟩) 1 1) 1 [.int .i64 x] rfl (by exact ⟨rfl, .inr ⟨_, 1, #[.int .i64 x], rfl, (HB2.out.trans (HBR.out.mono HB2.out.size)).size, Blk.new _ _ _, Nat.le_refl _, by decide, rfl, rfl⟩⟩) wr.heap.size A k c ((turned z0 t k).map (Value.int .i64)) rfl (by exact HRT.out.alloc (Nat.le_refl _) _) (ints_one _) (by unfold maxLen; omega) (by omega) (by have := (HB2.out.trans (HBR.out.mono HB2.out.size)).size; simp; omega) ?_)
                     intro v3 w3 hown3 hg3 hat3)
        have hsz := (HB2.out.trans (HBR.out.mono HB2.out.size)).size
        have hb3 : Below wr.heap.size wr w3 := ((Below.refl _ _).alloc (Nat.le_refl _) _).grown hg3 (by simp) (fun q hq => by simp [Value.ownBlock] at hq; omega)
        obtain ⟨A3, c3, rfl, hr3⟩ := own_reads hown3
        refine ⟨⟨k + 1, A3, c3, by have := HL0.out; omega, by go_num, by rw [Nat.add_comm], ?_, HBR.out.trans (hb3.mono HBR.out.size)⟩, by simp [intOf]; omega⟩
        have e2 : turned z0 t (k + 1) = x :: turned z0 t k := by
          rw [turned_succ, HL0.out, ← HM.out, List.getD, HX.out]
          rfl
        rw [e2, Nat.add_comm k 1]
        exact hr3
      · obtain rfl : k = n0 := by have := HL0.out; omega
        have HRT2 : Hid (Reads wr wr.heap.size 1 A k ((turned z0 t z0.length).map (Value.int .i64))) := Lib.hid (by rw [HL0.out]; exact HRT.out)
        have HB3 : Hid (Below w.heap.size w wr) := Lib.hid (HB2.out.trans (HBR.out.mono HB2.out.size))
        have HT3 := Lib.hid (HT.out.below HB3.out HT.out.pos)
        have HS3 := Lib.hid (HS2.out.belowW HBR.out)
        go_wp2_with fail
        refine (set_any 300 A k c (turned z0 t z0.length) _ HRT2.out (by omega) HT3.out.pos).mono ?_
        rintro e w4 ⟨b2, g2, rfl, hb, hg, hS, hbl⟩
        have HB4 : Hid (Below w.heap.size w w4) := Lib.hid (HB3.out.trans (hbl.mono HB3.out.size))
        have HT4 := Lib.hid (HT.out.below HB4.out HT.out.pos)
        have HS4 := Lib.hid (HS3.out.belowW hbl)
        have HS5 := Lib.hid (show SetAt w4 b2 g2 300 (memP 300 (turned z0 t z0.length)) from hS)
        have HEQ := Lib.hid (elsI_turned z0 t 300)
        clear hS hbl hb hg
        go_wp2_with fail
        refine (same_any b g 300 _ b2 g2 300 _ _ HS4.out HS5.out HT4.out).mono ?_
        rintro e w5 ⟨rfl, hb5⟩
        rw [show sameI (elsI (memP 300 z0) 300) (elsI (memP 300 (turned z0 t z0.length)) 300) = true by rw [HEQ.out]; simp [sameI]]
        have HB5 : Hid (Below w.heap.size w w5) := Lib.hid (HB4.out.trans (hb5.mono HB4.out.size))
        have HT5 := Lib.hid (HT.out.below HB5.out HT.out.pos)
        have HS6 := Lib.hid (HS4.out.belowW hb5)
        have HS7 := Lib.hid (HS5.out.belowW hb5)
        clear hb5
        go_wp2_with fail
        refine (same_any b2 g2 300 _ b g 300 _ _ HS7.out HS6.out HT5.out).mono ?_
        rintro e w6 ⟨rfl, hb6⟩
        rw [show sameI (elsI (memP 300 (turned z0 t z0.length)) 300) (elsI (memP 300 z0) 300) = true by rw [HEQ.out]; simp [sameI]]
        have HB6 : Hid (Below w.heap.size w w6) := Lib.hid (HB5.out.trans (hb6.mono HB5.out.size))
        have HT6 := Lib.hid (HT.out.below HB6.out HT.out.pos)
        have HS8 := Lib.hid (HS6.out.belowW hb6)
        have HS9 := Lib.hid (HS7.out.belowW hb6)
        clear hb6
        go_wp2_with fail
        refine (list_any b g 300 _ _ HS8.out HT6.out).mono ?_
        rintro e w7 ⟨v7, rfl, hown7, hb7⟩
        obtain ⟨A7, c7, rfl, hr7⟩ := own_reads hown7
        obtain ⟨m7, hm7⟩ : ∃ m, m = (elsI (memP 300 z0) 300).length := ⟨_, rfl⟩
        have hm300 : m7 ≤ 300 := by rw [hm7, elsI_len]; exact els_len _ _
        rw [← hm7] at hr7 ⊢
        have HM7 := Lib.hid hm7
        have HR7 := Lib.hid hr7
        have HB7 : Hid (Below w.heap.size w w7) := Lib.hid (HB6.out.trans (hb7.mono HB6.out.size))
        have HS10 := Lib.hid (HS9.out.belowW hb7)
        clear hown7 hb7 hr7 hm7
        go_wp2
        go_loopw [12] (fun s12 w8 => UpToRel w7 m7 s12 w8) (fun s12 _ => m7 - (intOf s12).toNat)
        case atStart => exact ⟨0, Nat.zero_le _, rfl, Below.refl _ _⟩
        case round =>
          obtain ⟨q, hq, rfl, hb8⟩ := hrel
          have HB8 := Lib.hid hb8
          clear hb8
          by_cases hlt : q < m7
          · obtain ⟨a7, v, rfl, had, hv, hcell⟩ := (HR7.out.below HB8.out).at_ hlt
            rw [List.getElem?_map] at hv
            obtain ⟨x, hx, rfl⟩ := Option.map_eq_some_iff.1 hv
            have HAM : Hid (amongI z0 x = true) := Lib.hid (by simpa [amongI] using elsI_mem hx)
            have HRQ := Lib.hid ((((HR0.out.below HB7.out).more HB7.out.size).below HB8.out).more HB8.out.size)
            have HC : Hid (∀ m : Nat, Calls Tryd.prog 17 #[.slice A0 k c0, .int .i64 x] (wr.drewN m) fun e w' => e = .returned (.bool true) ∧ w' = wr.drewN m) := Lib.hid (fun m => (among_any A0 k c0 z0 x _ (HRQ.out.drewN m) (by omega)).mono fun e w' h => ⟨by rw [h.1, HAM.out], h.2.symm⟩)
            have k0 : (0 : Int) ≤ (q : Int) := by omega
            have k1 : (q : Int) < (m7 : Int) := by omega
            by_cases hq0 : 0 < q
            · obtain ⟨j, hj⟩ : ∃ j, j = q - 1 := ⟨_, rfl⟩
              obtain ⟨a8, v2, e8, had2, hv2, hcell2⟩ := (HR7.out.below HB8.out).at_ (k := j) (by omega)
              obtain rfl : a7 = a8 := by injection e8
              rw [List.getElem?_map] at hv2
              obtain ⟨y, hy, rfl⟩ := Option.map_eq_some_iff.1 hv2
              have hyx := elsI_rise (by omega) hy hx
              have t1 : decide ((0 : Int) < (q : Int)) = true := by simpa using hq0
              have t2 : decide (x ≤ y) = false := by simpa using hyx
              have t3 : (q : Int) - 1 = (j : Int) := by omega
              have t4 : IntKind.i64.wrap (j : Int) = (j : Int) := IntWalk.i64_in _ (by omega)
              have j0 : (0 : Int) ≤ (j : Int) := by omega
              have j1 : (j : Int) < (m7 : Int) := by omega
              clear hv hx hv2 hy hyx hj e8
              go_wp2
              go_quiet ((go_at_call 17; exact Calls.quiet_of_same (HC.out _)))
              go_wp2
              exact ⟨⟨q + 1, by omega, by go_num, below_drewN HB8.out nq⟩, by simp [intOf]; omega⟩
            · have t1 : decide ((0 : Int) < (q : Int)) = false := by simp; omega
              clear hv hx
              go_wp2
              go_quiet ((go_at_call 17; exact Calls.quiet_of_same (HC.out _)))
              go_wp2
              exact ⟨⟨q + 1, by omega, by go_num, below_drewN HB8.out nq⟩, by simp [intOf]; omega⟩
          · have HB9 : Hid (Below w.heap.size w wr) := Lib.hid (HB7.out.trans (HB8.out.mono HB7.out.size))
            have HS11 := Lib.hid (HS10.out.belowW HB8.out)
            have HR8 := Lib.hid (HR7.out.below HB8.out)
            go_wp2_with fail
            refine (list_any b2 g2 300 _ _ HS11.out (HT.out.below HB9.out HT.out.pos)).mono ?_
            rintro e w10 ⟨v10, rfl, hown10, hb10⟩
            obtain ⟨A10, c10, rfl, hr10⟩ := own_reads hown10
            rw [HEQ.out] at hr10 ⊢
            have HR10 := Lib.hid hr10
            have HR9 := Lib.hid (((HR8.out.more HB8.out.size).below hb10).more hb10.size)
            have HB10 : Hid (Below w.heap.size w w10) := Lib.hid (HB9.out.trans (hb10.mono HB9.out.size))
            clear hown10 hr10 hb10
            go_wp2_with fail
            refine (sameI_any A7 A10 _ _ c7 c10 _ _ _ (by exact HR9.out) (by exact HR10.out) (by omega)).mono ?_
            rintro e w11 ⟨rfl, hb11⟩
            rw [show sameI (elsI (memP 300 z0) 300) (elsI (memP 300 z0) 300) = true by simp [sameI]]
            have HB11 : Hid (Below w.heap.size w w11) := Lib.hid (HB10.out.trans (hb11.mono HB10.out.size))
            clear hb11
            go_wp2
            go_ret
            exact ⟨rfl, HB11.out⟩

theorem contract (H : Type) (enc : TypeId × Value → H) (W : World) (base : Nat) (args : Array Value) (ds gs : List (DataW H)) (before : List MemPlace)
    (hval : ∀ (j : Nat) t v, Tryd.f4.params[j]? = some t → args[j]? = some v → Value.okWide Tryd.prog W .any base t v)
    (hW : DataW.Whole enc Tryd.prog Tryd.f4.params.toList Rows.bitsOrderSpec.vars false W args.toList ds gs before) (hL : laidMetH Tryd.prog Rows.bitsOrderRow.laid W) :
    Calls Tryd.prog 4 args W fun e W' => ∃ v, e = .returned v ∧ Rows.bitsOrderSpec.post enc Tryd.prog Tryd.f4 false true false false W args v W' := by
  have hW' := hW
  obtain ⟨p, q, hA0, hV, rfl, hfz, hnd⟩ := hW
  have hA : DataW.TrodAll enc Tryd.prog W 0 (fun _ => true) true Tryd.f4.params.toList args.toList ds p := hA0
  rw [Tryd.params4] at hA hval
  obtain ⟨v0, vs0, d0, ds0, p0, q0, hargs, rfl, rfl, h0, r0⟩ := trodAll_cons hA
  obtain ⟨v1, vs1, d1, ds1, p1, q1, rfl, rfl, rfl, h1, r1⟩ := trodAll_cons r0
  obtain ⟨rfl, rfl, rfl⟩ := trodAll_nil r1
  obtain rfl : args = #[v0, v1] := by cases args; simp_all
  obtain ⟨rfl, rfl⟩ := trodVars_none hV
  obtain ⟨A0, n0, c0, z0, rfl, hc0, hn0, hl0, hr0, hw0⟩ := open_row_ints Tryd.underlying27 Tryd.underlying3 (by kernel_rfl) (hval 0 27 v0 rfl rfl) h0
  obtain ⟨a1, rfl, rfl, rfl, w1⟩ := open_int Tryd.underlying3 (hval 1 3 v1 rfl rfl) h1
  clear hA0
  refine (walk W (bitsOrder_tab hL) A0 n0 c0 z0 hc0 hn0 hl0 hr0 hw0 a1 w1).mono fun e W' ⟨he, hg⟩ => ?_
  subst he
  exact ⟨_, rfl, post_law kids full (by rw [Tryd.params4]; decide +kernel) rfl hW' rfl rfl rfl hg (by kernel_rfl) Tryd.underlying4⟩

theorem reads (os : Os) {H : Type} (enc : TypeId × Value → H) : ∃ places, DataW.whole enc Tryd.prog ((laidWorld os).forCall (fun _ _ => 0) ⟨#[], #[.slice none 0 0, .int .i64 0], []⟩).memory Tryd.f4.params.toList Rows.bitsOrderSpec.vars false #[.slice none 0 0, .int .i64 0].toList 8 = some ([.nil, .lit (.int .i64 0)], [], places) :=
  ⟨[], by kernel_rfl⟩

set_option maxRecDepth 100000 in
theorem lifted (os : Os) (started : os.Started) (H : Type) (enc : TypeId × Value → H) (F : Stop.Interp) :
    ReturnsInHanded {} Tryd.checked os 4 .any ((OpenSpec.ofChange Rows.bitsOrderSpec).preRow enc Tryd.prog Tryd.f4 Rows.bitsOrderRow.domain false Rows.bitsOrderRow.laid) (((OpenSpec.ofChange Rows.bitsOrderSpec).at F).post enc Tryd.prog Tryd.f4 false true false false) := by
  obtain ⟨places, hx⟩ := reads os enc
  refine returnsInHanded_of_row (C := Tryd.checked) (s := OpenSpec.ofChange Rows.bitsOrderSpec) own started (by kernel_rfl) Tryd.func4
    (witness_row_atRef (enc := enc) (C := Tryd.checked) false (laidWorld os) #[.slice none 0 0, .int .i64 0] rfl (by kernel_rfl) (by kernel_rfl) (by kernel_rfl)
      (OpenSpec.preRow_of_cond 8 hx (by kernel_rfl) (fun k hk => by cases hk) (by kernel_rfl) (bitsOrder_met os _))) ?_
  intro W base args ds gs before hval hW _ _ _ hL _ _
  exact contract H enc W base args ds gs before hval hW hL

theorem said : Rows.BitsOrderSaid :=
  OpenClaim.holds_of_cond 4 Tryd.f4 rfl rfl rfl rfl rfl rfl rfl ⟨rfl, rfl, rfl, rfl, rfl⟩ rfl rfl rfl rfl rfl (by kernel_rfl) Tryd.func4 (by kernel_rfl)
    (of_decide_eq_true (by kernel_rfl)) (by unfold Func.isWrapper; first | (rw [if_pos (by decide +kernel)]; kernel_rfl) | (rw [if_neg (by decide +kernel)]; exact ⟨rfl, rfl⟩))
    (fun os started H enc _ F => by rw [OpenClaim.pre_eq_preRow]; exact lifted os started H enc F)

theorem plain (f : FuncId) (fn : Func) (hf : Tryd.pinned.checked.prog.funcNamed "overdrive/overdrivelaw2.BitsOrder" = some f) (hfn : Tryd.pinned.checked.prog.funcs[f]? = some fn) :
    false = Tryd.pinned.checked.prog.looks [] ∧ ∀ (j : Nat) t, fn.params[j]? = some t → Tryd.pinned.checked.prog.wantsStandIn t = false := by
  obtain rfl : f = 4 := Option.some.inj ((show Tryd.prog.funcNamed "overdrive/overdrivelaw2.BitsOrder" = some 4 by kernel_rfl).symm.trans hf) |>.symm
  obtain rfl : fn = Tryd.f4 := (Option.some.inj (Tryd.func4.symm.trans hfn)).symm
  refine ⟨by kernel_rfl, fun j t ht => ?_⟩
  have hm := Array.mem_of_getElem? ht
  have hall : (Tryd.f4.params.toList.all fun t => Tryd.prog.wantsStandIn t == false) = true := by kernel_rfl
  have hw : Tryd.prog.wantsStandIn t = false := by simpa using List.all_eq_true.1 hall t (by simpa using hm)
  exact hw

theorem card : Rows.BitsOrderCardSaid :=
  Claim7.holds_tied_plain_at .later [] _ _ _ _ said (fun _ h => by cases h) (by kernel_rfl) (fun _ h => by cases h) bitsOrder_row_tie rfl ⟨rfl, rfl⟩ (by kernel_rfl) rfl plain (by kernel_rfl)
#print axioms card
end Go.Proofs.YtcaoeoggabbekaaDoor.bitsOrder
