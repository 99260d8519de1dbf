/- Sets of numbers: what Each tells; the lists. -/
import Derived.RangeFuncNested
import Derived.RangeFuncBound
import Derived.RangeFuncCalls
import Derived.RangeFuncLeaves
import Derived.RangeFuncBox
import Derived.Shelf.Abstract
import Derived.Shelf.RegionOpen
import Derived.OwnWalkIn
import Derived.TacticsInMore
import Derived.LoopNIn
import Derived.LoopIn
import Derived.Maps.AppendAt
import Derived.Test.YtcaoeoggabbekaaDoorSet2
namespace Go.Proofs.YtcaoeoggabbekaaDoor
open Go.RowKit Go.Shelf
set_option linter.unusedVariables false
attribute [local go_sem] Oper.semAt_some

def TabIn (w : World) : Prop := ∀ j, j < Lib.deBruijn64tab.length → w.cell? ⟨0, j, none⟩ = some (.int .u8 (Lib.deBruijn64tab.getD j 0))
theorem TabIn.pos {w : World} (h : TabIn w) : 0 < w.heap.size := World.block_lt_of_cell? w _ (h 0 (by decide))
theorem TabIn.below {w w' : World} (h : TabIn w) {B : Nat} (hb : Below B w w') (hB : 0 < B) : TabIn w' := fun j hj => (hb.cell (p := ⟨0, j, none⟩) hB).trans (h j hj)
theorem TabIn.but {w w' : World} (h : TabIn w) {k : Nat} (hb : But k w w') (hk : 0 < k) : TabIn w' := fun j hj => (hb.cell (p := ⟨0, j, none⟩) h.pos (by simp; omega)).trans (h j hj)
theorem tz_key (x a : Nat) (hx : x < 18446744073709551616) (hx0 : x ≠ 0) (hlow : x &&& (18446744073709551616 - x) = a) :
    IntKind.u64.wrap (bits BinOp.and IntKind.u64 (x : Int) (IntKind.u64.wrap (-(x : Int))) * 285870213051353865) / 288230376151711744 = ((a * 285870213051353865 % 18446744073709551616 / 288230376151711744 : Nat) : Int) := by
  have e1 : IntKind.u64.wrap (-(x : Int)) = ((18446744073709551616 - x : Nat) : Int) := by rw [IntKind.wrap_u64]; omega
  rw [e1, bits_and_u64_nat x _ hx (by omega), hlow, IntKind.wrap_u64]
  omega
set_option maxHeartbeats 1000000 in
theorem tz_core (x k idx : Nat) (w : World) (hx0 : ((x : Int) == 0) = false)
    (key : IntKind.u64.wrap (bits BinOp.and IntKind.u64 (x : Int) (IntKind.u64.wrap (-(x : Int))) * 285870213051353865) / 288230376151711744 = (idx : Int))
    (hi : idx < 64) (hk : k < 64) (hcell : w.cell? ⟨0, idx, none⟩ = some (.int .u8 k)) :
    Calls Tryd.prog 31 #[.int .u64 x] w fun e w' => e = .returned (.int .i64 k) ∧ w = w' := by
  go_enter Tryd.func31, Tryd.ntmps31
  go_wp2_with (simp only [key])
  go_ret
  exact ⟨rfl, rfl⟩
theorem tz_any (x : Nat) (hx0 : x ≠ 0) (hx : x < 18446744073709551616) (w : World) (hT : TabIn w) :
    Calls Tryd.prog 31 #[.int .u64 x] w fun e w' => e = .returned (.int .i64 (Lib.ctz 64 x : Nat)) ∧ w = w' := by
  obtain ⟨hlow, hk⟩ := Lib.lowest_bit 64 x hx0 hx
  obtain ⟨hi, htab⟩ := Lib.deBruijn64_at _ hk
  have hcell := hT _ hi
  rw [htab] at hcell
  exact tz_core x _ _ w (by simp; omega) (tz_key x _ hx hx0 hlow) hi hk hcell
/-- as ints -/
def elsI (p : Nat → Bool) (N : Nat) : List Int := (els p N).map (fun i : Nat => (i : Int))
/-- the parts that the iterator reads are as they were -/
def Kept (B b g : Nat) (W W' : World) : Prop := ∀ k, k = 0 ∨ k = B ∨ k = b ∨ k = g → W'.heap[k]? = W.heap[k]?
theorem Kept.t {B b g : Nat} {X Y Z : World} (h : Kept B b g X Y) (k : Kept B b g Y Z) : Kept B b g X Z := fun i hi => (k i hi).trans (h i hi)
theorem Kept.b {B b g : Nat} {w : World} (hB : B < w.heap.size) (hb : b < w.heap.size) (hg : g < w.heap.size) (W : World) (l : Nat) (o o' : Obj) (hl : w.heap.size ≤ l) (_ : W.heap[l]? = some o) (_ : o.isCells = false) (_ : o.isWalk = false) : Kept B b g W (W.putObj l o') :=
  fun k hk => World.putObj_heap_other (by omega)
theorem Kept.of_below {B b g n₀ : Nat} {W W' : World} (h : Below n₀ W W') (h0 : 0 < n₀) (hB : B < n₀) (hb : b < n₀) (hg : g < n₀) : Kept B b g W W' := fun k hk => h.block k (by omega)
/-- what the iterator has at hand -/
def EachSt (W : World) (B b g : Nat) (A : Option Addr) (c : Nat) (ws : List Nat) : Prop :=
  Boxed W B 23 (.pointer (some ⟨b, 0, none⟩)) ∧ W.cell? ⟨b, 1, none⟩ = some (.slice A ws.length c) ∧ (ws ≠ [] → A = some ⟨g, 0, none⟩ ∧ ∀ j x, ws[j]? = some x → W.cell? ⟨g, j, none⟩ = some (uv x)) ∧ TabIn W
theorem EachSt.kept {W W' : World} {B b g c : Nat} {A : Option Addr} {ws : List Nat} (h : EachSt W B b g A c ws) (hk : Kept B b g W W') : EachSt W' B b g A c ws := by
  obtain ⟨h1, h2, h3, h4⟩ := h
  exact ⟨(hk B (by simp)).trans h1, (World.cell?_of_block (hk b (by simp))).trans h2, fun e => ⟨(h3 e).1, fun j x hx => (World.cell?_of_block (hk g (by simp))).trans ((h3 e).2 j x hx)⟩, fun j hj => (World.cell?_of_block (hk 0 (by simp))).trans (h4 j hj)⟩
theorem pred_lt (y : Nat) (h : y ≠ 0) : y &&& (y - 1) < y := by
  have := @Nat.and_le_right y (y - 1)
  omega
/-- a word's numbers at place k -/
def wordI (k y : Nat) : List Int := (els y.testBit 64).map (fun i : Nat => ((64 * k + i : Nat) : Int))
theorem wordI_step {k y : Nat} (h0 : y ≠ 0) (h : y < 18446744073709551616) : wordI k y = (64 * (k : Int) + (Lib.ctz 64 y : Nat)) :: wordI k (y &&& (y - 1)) := by
  rw [wordI, els_bits y h0 h, List.map_cons, wordI]
  simp
theorem wordI_zero (k : Nat) : wordI k 0 = [] := by rw [wordI, els_zero]; rfl
theorem elsI_word {n : Nat} {ws : List Nat} {p : Nat → Bool} (h : Fits n ws p) {k x : Nat} (hx : ws[k]? = some x) : elsI p (64 * (k + 1)) = elsI p (64 * k) ++ wordI k x := by
  rw [elsI, els_word h hx, List.map_append, List.map_map]
  rfl
theorem elsI_len (p : Nat → Bool) (N : Nat) : (elsI p N).length = (els p N).length := by simp [elsI]
def EOut (J : List Int → World → Prop) (p : Nat → Bool) (L B b g : Nat) (A : Option Addr) (c : Nat) (ws : List Nat) (s10 : Value) (wr : World) : Prop :=
  ∃ k : Nat, k ≤ L ∧ s10 = .int .i64 (k : Int) ∧ J (elsI p (64 * k)) wr ∧ EachSt wr B b g A c ws
def EIn (J : List Int → World → Prop) (p : Nat → Bool) (k B b g : Nat) (A : Option Addr) (c : Nat) (ws : List Nat) (s4 : Value) (wr : World) : Prop :=
  ∃ (y : Nat) (pre : List Int), s4 = .int .u64 (y : Int) ∧ y < 18446744073709551616 ∧ pre ++ wordI k y = elsI p (64 * (k + 1)) ∧ J pre wr ∧ EachSt wr B b g A c ws
def EachPost (J Jx : List Int → World → Prop) (xs : List Int) (e : Ending) (W' : World) : Prop :=
  (∃ v, e = .returned v) ∧ ((∃ ys, ys = xs ∧ J ys W') ∨ (∃ pre, pre <+: xs ∧ Jx pre W'))
theorem elsI_prefix {p : Nat → Bool} {n : Nat} {ws : List Nat} (hF : Fits n ws p) {k : Nat} (hk : k ≤ ws.length) : elsI p (64 * k) <+: elsI p n := by
  obtain ⟨d, hd⟩ : ∃ d, ws.length = k + d := ⟨ws.length - k, by omega⟩
  have h := els_all hF
  rw [hd, Nat.mul_add, els_add] at h
  unfold elsI
  rw [← h, List.map_append]
  exact List.prefix_append _ _
set_option maxRecDepth 100000 in
set_option maxHeartbeats 4000000 in
theorem each1_in (n : Nat) (l B b g N L c : Nat) (A : Option Addr) (ws : List Nat) (p : Nat → Bool) (hF : Fits N ws p) (hN : N ≤ 1048576) (hL : L = ws.length) (J Jx : List Int → World → Prop)
    (hY : ∀ pre x W, J pre W → pre.length < (elsI p N).length → YieldAt Fence.wide (n - 1) Tryd.prog l #[.int .i64 x] W fun e W' =>
      (e = .returned (.bool true) ∧ J (pre ++ [x]) W' ∧ Kept B b g W W') ∨ (e = .returned (.bool false) ∧ Jx (pre ++ [x]) W'))
    (W : World) (hS : EachSt W B b g A c ws) (h0 : J [] W) :
    CallsIn Fence.wide n Tryd.prog 30 #[.func (.yield l) #[] #[], .pointer (some ⟨B, 0, none⟩)] W (EachPost J Jx (elsI p N)) := by
  have hB0 := hS.1.cell
  have h1 := hS.2.1
  rw [← hL] at h1
  have hL2 : L ≤ 16384 := by rw [hL, hF.len]; omega
  have HF := Lib.hid hF
  have HL := Lib.hid hL
  have HS := Lib.hid hS
  have HY := Lib.hid hY
  have H0 := Lib.hid h0
  clear hF hL hS hY h0
  refine callsIn_of_wp Tryd.func30 rfl trivial ?_ rfl
  simp only [Tryd.ntmps30, List.size_toArray, List.length_cons, List.length_nil, Nat.reduceAdd, Nat.reduceSub, Array.replicate_succ, Array.replicate_zero, List.push_toArray, List.append_toArray, List.nil_append, List.cons_append]
  gi_wp2
  clear h1 hB0
  gi_loopw [10] (fun s10 wr => EOut J p L B b g A c ws s10 wr) (fun s10 _ => L - (intOf s10).toNat)
  case atStart => exact ⟨0, Nat.zero_le _, rfl, H0.out, HS.out⟩
  case round =>
    obtain ⟨k, hk, rfl, hJ, hSt⟩ := hrel
    have HJ := Lib.hid hJ
    have HSt := Lib.hid hSt
    clear hJ hSt
    by_cases hlt : k < L
    · obtain ⟨x, hx⟩ : ∃ x, ws[k]? = some x := ⟨_, List.getElem?_eq_getElem (by rw [← HL.out]; exact hlt)⟩
      obtain ⟨rfl, hcs⟩ := HSt.out.2.2.1 (fun e => by rw [e] at hx; simp at hx)
      have hc : wr.cell? ⟨g, k, none⟩ = some (.int .u64 (x : Int)) := hcs _ _ hx
      have HXl := Lib.hid (HF.out.small x (List.mem_of_getElem? hx))
      have HXw := Lib.hid (elsI_word HF.out hx)
      have HX := Lib.hid hx
      clear hcs hx
      gi_wp2
      clear hc
      obtain ⟨wo, rfl⟩ : ∃ wo : World, wo = wr := ⟨_, rfl⟩
      gi_loopw [4] (fun s4 w2 => EIn J p k B b g (some ⟨g, 0, none⟩) c ws s4 w2) (fun s4 _ => (intOf s4).toNat)
      case atStart => exact ⟨x, elsI p (64 * k), rfl, HXl.out, HXw.out.symm, HJ.out, HSt.out⟩
      case round =>
        obtain ⟨y, pre, rfl, hyl, hpre, hJ2, hSt2⟩ := hrel
        by_cases hy0 : y = 0
        · subst hy0
          rw [wordI_zero, List.append_nil] at hpre
          subst hpre
          have HJ2 := Lib.hid hJ2
          have HSt2 := Lib.hid hSt2
          clear hJ2 hSt2
          gi_wp2
          go_roundw
          case rel => exact ⟨k + 1, by omega, by go_num, HJ2.out, HSt2.out⟩
          case measure => simp [intOf]; omega
        · have hy1 : ((y : Int) == 0) = false := by simp; omega
          have hy2 : ((y : Int) != 0) = true := by rw [bne_iff_ne]; omega
          rw [wordI_step hy0 hyl] at hpre
          have hlow := (low_split y hy0 hyl).1
          have HT := Lib.hid (tz_any y hy0 hyl wr hSt2.2.2.2)
          obtain ⟨t, ht⟩ : ∃ t, t = Lib.ctz 64 y := ⟨_, rfl⟩
          rw [← ht] at HT hpre hlow
          obtain ⟨z, hz⟩ : ∃ z, z = y &&& (y - 1) := ⟨_, rfl⟩
          rw [← hz] at hpre
          have hzl : z < y := by rw [hz]; exact pred_lt y hy0
          have hpl : pre.length < (elsI p N).length := by
            have h1 := (elsI_prefix HF.out (k := k + 1) (by rw [← HL.out]; omega)).length_le
            rw [← hpre, List.length_append, List.length_cons] at h1
            omega
          obtain ⟨fn, tmps, assign, body, hyy, hR⟩ := HY.out pre (64 * (k : Int) + (t : Int)) wr hJ2 hpl
          have HR := Lib.hid hR
          have HP := Lib.hid hpre
          have HST := Lib.hid hSt2
          have HYL := Lib.hid hyl
          have HZ := Lib.hid hz
          have HZL := Lib.hid hzl
          obtain ⟨u, hu⟩ : ∃ u, u = y - 1 := ⟨_, rfl⟩
          have HE1 : Hid (IntKind.u64.wrap (u : Int) = (u : Int)) := Lib.hid (by rw [IntKind.wrap_u64]; omega)
          have HE2 : Hid ((y : Int) - 1 = (u : Int)) := Lib.hid (by omega)
          have HE3 : Hid (bits BinOp.and IntKind.u64 (y : Int) (u : Int) = (z : Int)) := Lib.hid (by rw [bits_and_u64_nat y u hyl (by omega), hu, hz])
          clear hu
          clear hR hpre hSt2 hJ2 hpl hyl hz hzl ht hy0
          gi_wp2_with (refine ⟨trivial, fun h => (by cases h), ?_⟩; gi_at_call 31; refine (callsIn_wide.2 HT.out).mono ?_; rintro e w3 ⟨rfl, rfl⟩)
          refine ⟨fun h => (by cases h), HR.out.mono ?_⟩
          rintro e W3 (⟨rfl, hJ3, hk3⟩ | ⟨rfl, hJx3⟩)
          · have HJ3 := Lib.hid hJ3
            have HS3 := Lib.hid (HST.out.kept hk3)
            have e1 := HE1.out
            have e2 := HE2.out
            have e3 := HE3.out
            clear hJ3 hk3
            gi_wp2
            go_roundw
            case rel => exact ⟨z, pre ++ [64 * (k : Int) + (t : Int)], rfl, by have := HZL.out; have := HYL.out; omega, by rw [List.append_assoc]; exact HP.out, HJ3.out, HS3.out⟩
            case measure => have := HZL.out; simp [intOf]; omega
          · gi_wp2
            refine bodyPost_ret (results_none rfl _ _ _) rfl ?_
            refine ⟨⟨_, rfl⟩, .inr ⟨_, ?_, hJx3⟩⟩
            have h1 := elsI_prefix HF.out (k := k + 1) (by rw [← HL.out]; omega)
            rw [← HP.out] at h1
            refine List.IsPrefix.trans ?_ h1
            rw [show pre ++ (64 * (k : Int) + (t : Int)) :: wordI k z = (pre ++ [64 * (k : Int) + (t : Int)]) ++ wordI k z by simp]
            exact List.prefix_append _ _
    · obtain rfl : k = L := by omega
      gi_wp2
      go_end0
      exact ⟨⟨_, rfl⟩, .inl ⟨_, by rw [HL.out, elsI, els_all HF.out]; rfl, HJ.out⟩⟩
end Go.Proofs.YtcaoeoggabbekaaDoor
