/- The contract of overdriveref3.May (printed by mkrm3.py). -/
import Derived.Test.YtnojejplckhifaaDoorRm2
import Derived.Test.YtnojejplckhifaaDoorLight
import Derived.StillTailTactics
import Derived.Deep.CutBlock
import Derived.Deep.CutRange
namespace Go.Proofs.YtnojejplckhifaaDoor
open Go.RowKit
set_option linter.unusedVariables false

def mcode : Option Nat → Int
  | none => 0
  | some k => 101 + (k : Int)
theorem mc_val (P : Prg) (m : Met) (op a b n : Int) (t : Bool) (hr : ¬ (op < 1 ∨ 35 < op)) (h22 : ¬ (op = 22 ∨ op = 23)) (ht : thereI P m ⟨op, a, b, n⟩ = t) :
    mcode (mayI P m ⟨op, a, b, n⟩) = if (t && ((hasA op || a == 0) && (hasB op || b == 0) && (op == 1 || n == 0))) = true then 0 else 103 := by
  unfold mayI
  simp only []
  rw [if_neg hr, if_neg (fun h => h22 h.1), ht]
  unfold idleI
  simp only []
  split <;> rfl
theorem mc_22 (P : Prg) (m : Met) (op a b n : Int) (t : Bool) (h22 : op = 22 ∨ op = 23) (ht : t = (decide (0 ≤ a) && decide (a < (m.code.length : Int)))) :
    mcode (mayI P m ⟨op, a, b, n⟩) = if (t && ((hasA op || a == 0) && (hasB op || b == 0) && (op == 1 || n == 0))) = true then 0 else (if t = true then 103 else 104) := by
  have hT : thereI P m ⟨op, a, b, n⟩ = true := by
    unfold thereI
    simp only []
    rw [if_neg (by omega), if_neg (by omega), if_neg (by omega), if_neg (by omega), if_neg (by omega)]
  unfold mayI
  simp only []
  rw [if_neg (by omega), hT]
  unfold idleI
  simp only []
  cases t
  · have hn : ¬ (0 ≤ a ∧ a < (m.code.length : Int)) := fun h => by simp [h.1, h.2] at ht
    rw [if_pos ⟨h22, hn⟩]
    rfl
  · have hn : 0 ≤ a ∧ a < (m.code.length : Int) := by simpa using ht.symm
    rw [if_neg (fun h => h.2 hn)]
    split <;> rfl
theorem rinstr_any (p : PV) (x : MV) (i : Ins) (w : World) (hp : PAt w w.heap.size p) (hk : x.m.par.length + x.m.loc.length ≤ maxLen) :
    Calls Tryd.prog 36 #[p.val, metAgg x, .agg #[.int .i64 i.op, .int .i64 i.a, .int .i64 i.b, .int .i64 i.n]] w (RI w (mcode (mayI p.prg x.m i))) := by
  obtain ⟨op, a, b, n⟩ := i
  have e0 : (⟨x.m.par.toArray⟩ : ByteArray).size = x.m.par.length := by simp [ByteArray.size]
  have e1 : (⟨x.m.loc.toArray⟩ : ByteArray).size = x.m.loc.length := by simp [ByteArray.size]
  have hml : p.prg.mets.length = p.ms.length := by simp [PV.prg]
  unfold PV.val metAgg strV
  by_cases h0 : op < 1 ∨ 35 < op
  · have : mayI p.prg x.m ⟨op, a, b, n⟩ = some 1 := by unfold mayI; exact if_pos h0
    rw [this]
    exact ri_kind _ _ _ _ _ _ _ _ _ _ _ _ _ _ op a b n w e0 e1 hk h0
  by_cases h3 : op = 3
  · subst h3; exact ri_3 _ _ _ _ _ _ _ _ _ _ _ _ _ _ a b n _ w e0 e1 hk _ (mc_val _ _ _ _ _ _ _ h0 (by omega) (there_a _ _ _ _ _ _ (by omega))) rfl
  by_cases h4 : op = 4
  · subst h4; exact ri_4 _ _ _ _ _ _ _ _ _ _ _ _ _ _ a b n _ w e0 e1 hk _ (mc_val _ _ _ _ _ _ _ h0 (by omega) (there_a _ _ _ _ _ _ (by omega))) rfl
  by_cases h24 : op = 24
  · subst h24; exact ri_24 _ _ _ _ _ _ _ _ _ _ _ _ _ _ a b n _ w e0 e1 hk _ (mc_val _ _ _ _ _ _ _ h0 (by omega) (there_b _ _ _ _ _ _ (by omega))) rfl
  by_cases h27 : op = 27
  · subst h27; exact ri_27 _ _ _ _ _ _ _ _ _ _ _ _ _ _ a b n _ w e0 e1 hk _ (mc_val _ _ _ _ _ _ _ h0 (by omega) (there_b _ _ _ _ _ _ (by omega))) rfl
  by_cases h28 : op = 28
  · subst h28; exact ri_28 _ _ _ _ _ _ _ _ _ _ _ _ _ _ a b n _ w e0 e1 hk _ (mc_val _ _ _ _ _ _ _ h0 (by omega) (there_d _ _ _ _ _ _ (by omega))) rfl
  by_cases h29 : op = 29
  · subst h29; exact ri_29 _ _ _ _ _ _ _ _ _ _ _ _ _ _ a b n _ w e0 e1 hk _ (mc_val _ _ _ _ _ _ _ h0 (by omega) (there_d _ _ _ _ _ _ (by omega))) rfl
  by_cases h30 : op = 30
  · subst h30; exact ri_30 _ _ _ _ _ _ _ _ _ _ _ _ _ _ a b n _ w e0 e1 hk _ (mc_val _ _ _ _ _ _ _ h0 (by omega) (there_d _ _ _ _ _ _ (by omega))) rfl
  by_cases h32 : op = 32
  · subst h32; exact ri_32 _ _ _ _ _ _ _ _ _ _ _ _ _ _ a b n _ w e0 e1 hk _ (mc_val _ _ _ _ _ _ _ h0 (by omega) (there_e _ _ _ _ _ _ (by omega))) (by rw [hml])
  by_cases h22 : op = 22
  · subst h22; exact ri_22 _ _ _ _ _ _ _ _ _ _ _ _ _ _ a b n _ w e0 e1 hk _ (mc_22 _ _ _ _ _ _ _ (by omega) rfl) rfl
  by_cases h23 : op = 23
  · subst h23; exact ri_23 _ _ _ _ _ _ _ _ _ _ _ _ _ _ a b n _ w e0 e1 hk _ (mc_22 _ _ _ _ _ _ _ (by omega) rfl) rfl
  by_cases h25 : op = 25
  · subst h25
    cases hc : (decide (0 ≤ a) && decide (a < (p.cls.length : Int)))
    · exact ri_25_out _ _ _ _ _ _ _ _ _ _ _ _ _ _ a b n false w e0 e1 hk _ (mc_val _ _ _ _ _ _ _ h0 (by omega) (there_c0 _ _ _ _ _ _ (by omega) hc)) rfl hc.symm
    · rw [Bool.and_eq_true, decide_eq_true_eq, decide_eq_true_eq] at hc
      obtain ⟨k, rfl⟩ := Int.eq_ofNat_of_zero_le hc.1
      have hkl : k < p.cls.length := by omega
      obtain ⟨s, hs⟩ : ∃ s, p.cls[k]? = some s := ⟨_, List.getElem?_eq_getElem hkl⟩
      obtain ⟨A, u, hA, hAb, hu, hcell⟩ := hp.cls.at_ hkl
      rw [List.getElem?_map, hs] at hu
      obtain rfl : strV s = u := by simpa using hu
      exact ri_25_in _ _ _ _ _ _ _ _ _ _ _ _ _ _ (k : Int) b n _ w e0 e1 hk _ (mc_val _ _ _ _ _ _ _ h0 (by omega) (there_c _ _ _ _ _ _ k s (by omega) rfl hs)) k s.length A ⟨s.toArray⟩ rfl hkl hA (by simp [ByteArray.size]) hAb hcell rfl
  by_cases h26 : op = 26
  · subst h26
    cases hc : (decide (0 ≤ a) && decide (a < (p.cls.length : Int)))
    · exact ri_26_out _ _ _ _ _ _ _ _ _ _ _ _ _ _ a b n false w e0 e1 hk _ (mc_val _ _ _ _ _ _ _ h0 (by omega) (there_c0 _ _ _ _ _ _ (by omega) hc)) rfl hc.symm
    · rw [Bool.and_eq_true, decide_eq_true_eq, decide_eq_true_eq] at hc
      obtain ⟨k, rfl⟩ := Int.eq_ofNat_of_zero_le hc.1
      have hkl : k < p.cls.length := by omega
      obtain ⟨s, hs⟩ : ∃ s, p.cls[k]? = some s := ⟨_, List.getElem?_eq_getElem hkl⟩
      obtain ⟨A, u, hA, hAb, hu, hcell⟩ := hp.cls.at_ hkl
      rw [List.getElem?_map, hs] at hu
      obtain rfl : strV s = u := by simpa using hu
      exact ri_26_in _ _ _ _ _ _ _ _ _ _ _ _ _ _ (k : Int) b n _ w e0 e1 hk _ (mc_val _ _ _ _ _ _ _ h0 (by omega) (there_c _ _ _ _ _ _ k s (by omega) rfl hs)) k s.length A ⟨s.toArray⟩ rfl hkl hA (by simp [ByteArray.size]) hAb hcell rfl
  have hT : thereI p.prg x.m ⟨op, a, b, n⟩ = true := by
    unfold thereI
    simp only []
    rw [if_neg (by omega), if_neg (by omega), if_neg (by omega), if_neg (by omega), if_neg (by omega)]
  exact ri_rest _ _ _ _ _ _ _ _ _ _ _ _ _ _ op a b n w e0 e1 hk _ (mc_val _ _ _ _ _ _ _ h0 (by omega) hT) (by simp; omega) (by simp; omega) (by simpa using h3) (by simpa using h4) (by simpa using h22) (by simpa using h23) (by simpa using h24) (by simpa using h25) (by simpa using h26) (by simpa using h27) (by simpa using h28) (by simpa using h29) (by simpa using h30) (by simpa using h32)

theorem fin_two {w w7 : World} {gr b7 : Nat} {c c' k j : Int} {x y u v : Value} (hc : c' = c) (hb : Below w.heap.size w w7) (hgr : w.heap.size ≤ gr) (hR : Blk w7 gr 35 #[x, y]) (hk : Blk w7 b7 3 #[.int .i64 k, .int .i64 j]) (hg : w.heap.size ≤ b7) :
    FaultPost w c' [k, j] (.returned (fV c (.slice (some ⟨b7, 0, none⟩) 2 2))) ((w7.setCell ⟨gr, 0, none⟩ u).setCell ⟨gr, 1, none⟩ v) := by
  subst hc
  have hne : b7 ≠ gr := Blk.ne_ hk hR (by decide)
  have h2 := (hk.far (p := ⟨gr, 0, none⟩) hne u).far (p := ⟨gr, 1, none⟩) hne v
  exact ⟨some ⟨b7, 0, none⟩, 2, rfl, ⟨rfl, fun _ => ⟨_, rfl, h2.lt, World.news_of_block h2⟩⟩, (fun x hx => by cases hx; exact hg), (hb.setCell (p := ⟨gr, 0, none⟩) hgr u).setCell (p := ⟨gr, 1, none⟩) hgr v⟩
theorem fin_zero {w w7 : World} {gr : Nat} {c c' : Int} {u v : Value} (hc : c' = c) (hb : Below w.heap.size w w7) (hgr : w.heap.size ≤ gr) :
    FaultPost w c' [] (.returned (fV c (.slice none 0 0))) ((w7.setCell ⟨gr, 0, none⟩ u).setCell ⟨gr, 1, none⟩ v) := by
  subst hc
  exact ⟨none, 0, rfl, Reads.none_, (fun x hx => by cases hx), (hb.setCell (p := ⟨gr, 0, none⟩) hgr u).setCell (p := ⟨gr, 1, none⟩) hgr v⟩
def manyB (m : Met) : Bool := decide (12 < m.par.length ∨ 12 < m.par.length + m.loc.length ∨ m.code.length = 0 ∨ 120 < m.code.length)
def headB (m : Met) (first : Bool) : Bool := lettersB m.par && lettersB m.loc && retB m.ret && !(first && (m.par != [] || m.ret == [82]))
theorem mayH_many {m : Met} {f : Bool} (h : manyB m = true) : mayH m f = some 0 := by unfold mayH; rw [if_pos (of_decide_eq_true h)]
theorem mayH_kind {m : Met} {f : Bool} (h : manyB m = false) (h2 : headB m f = false) : mayH m f = some 1 := by
  unfold mayH
  rw [if_neg (of_decide_eq_false h)]
  unfold headB at h2
  rw [h2]
  rfl
theorem mayH_ok {m : Met} {f : Bool} (h : manyB m = false) (h2 : headB m f = true) : mayH m f = none := by
  unfold mayH
  rw [if_neg (of_decide_eq_false h)]
  unfold headB at h2
  rw [h2]
  rfl
set_option maxRecDepth 100000 in
set_option maxHeartbeats 8000000 in
theorem rmay_any (p : PV) (w : World) (hp : PAt w w.heap.size p) (hc : ∀ c ∈ p.cls, c.length ≤ maxLen) (hcl : p.cls.length ≤ maxLen) (hml : p.ms.length ≤ maxLen)
    (hm : ∀ x ∈ p.ms, x.m.par.length ≤ maxLen ∧ x.m.loc.length ≤ maxLen ∧ x.m.code.length ≤ maxLen) :
    Calls Tryd.prog 12 #[p.val] w (FaultPost w (fltC (mayP p.prg)) (fltL (mayP p.prg))) := by
  have HP := Lib.hid hp
  have HC := Lib.hid hc
  have HM := Lib.hid hm
  obtain ⟨N1, hN1⟩ : ∃ n, n = p.cls.length := ⟨_, rfl⟩
  obtain ⟨N2, hN2⟩ : ∃ n, n = p.ms.length := ⟨_, rfl⟩
  obtain ⟨W0, hW0⟩ : ∃ W, W = (w.alloc (.cells #[.slice p.A N1 p.c, .slice p.B N2 p.d] 25)).alloc (.cells #[.int .i64 0, .slice none 0 0] 35) := ⟨_, rfl⟩
  have HB0 : Hid (Below w.heap.size w W0) := Lib.hid (by rw [hW0]; exact ((Below.refl _ _).alloc (Nat.le_refl _) _).alloc (by simp) _)
  have HK0 : Hid (Blk W0 w.heap.size 25 #[.slice p.A N1 p.c, .slice p.B N2 p.d]) := Lib.hid (by rw [hW0]; exact (Blk.new _ _ _).alloc _)
  have HR0 : Hid (Blk W0 (w.heap.size + 1) 35 #[.int .i64 0, .slice none 0 0]) := Lib.hid (by
    rw [hW0]
    have := Blk.new (w.alloc (.cells #[.slice p.A N1 p.c, .slice p.B N2 p.d] 25)) 35 #[.int .i64 0, .slice none 0 0]
    simpa using this)
  have HMP : Hid (mayP p.prg = if 12 < N1 ∨ N2 = 0 ∨ 12 < N2 then some (0, []) else match mayCs 0 p.cls with
    | some f => some f
    | none => mayMs p.prg 0 p.prg.mets) := Lib.hid (by
    rw [hN1, hN2]
    unfold mayP
    have e : p.prg.mets.length = p.ms.length := by simp [PV.prg]
    rw [e]
    rfl)
  have HINS : Hid (∀ (x : MV) (y : Ins) (W : World), PAt W W.heap.size p → x.m.par.length + x.m.loc.length ≤ maxLen → Calls Tryd.prog 36 #[.agg #[.slice p.A N1 p.c, .slice p.B N2 p.d], metAgg x, .agg #[.int .i64 y.op, .int .i64 y.a, .int .i64 y.b, .int .i64 y.n]] W (RI W (mcode (mayI p.prg x.m y)))) := Lib.hid (by
    rw [hN1, hN2]
    exact fun x y W a b => rinstr_any p x y W a b)
  unfold PV.val
  rw [← hN1, ← hN2]
  rw [← hN1] at hcl
  rw [← hN2] at hml
  have H1 := Lib.hid hN1
  have H2 := Lib.hid hN2
  obtain ⟨gp, hgp⟩ : ∃ g, g = w.heap.size := ⟨_, rfl⟩
  obtain ⟨gr, hgr⟩ : ∃ g, g = w.heap.size + 1 := ⟨_, rfl⟩
  have HGR : Hid (w.heap.size ≤ gr) := Lib.hid (by omega)
  clear hp hc hm hN1 hN2
  go_enter Tryd.func12, Tryd.ntmps12
  go_upto_region 1 with fail
  rw [← hW0]
  rw [← hgr] at HR0 ⊢
  rw [← hgp] at HK0 ⊢
  clear hW0 hgr hgp
  have x0 : W0.cell? ⟨gp, 0, none⟩ = some (.slice p.A N1 p.c) := HK0.out.cell 0
  have x1 : W0.cell? ⟨gp, 1, none⟩ = some (.slice p.B N2 p.d) := HK0.out.cell 1
  go_cut [25] from 10 to 26 (fun u wx => u = .bool (decide (12 < N1 ∨ N2 = 0 ∨ 12 < N2)) ∧ W0 = wx)
  case first =>
    as_aux_lemma =>
      by_cases d1 : 12 < N1
      · have t1 : decide ((12 : Int) < (N1 : Int)) = true := by simp; omega
        have HE : Hid (decide (12 < N1 ∨ N2 = 0 ∨ 12 < N2) = true) := Lib.hid (by simp; omega)
        clear d1
        go_wp2_with fail
        go_meet
        case rel => exact ⟨by rw [HE.out], rfl⟩
      have t1 : decide ((12 : Int) < (N1 : Int)) = false := by simp; omega
      by_cases d2 : N2 = 0
      · have t2 : decide ((N2 : Int) < 1) = true := by simp; omega
        have HE : Hid (decide (12 < N1 ∨ N2 = 0 ∨ 12 < N2) = true) := Lib.hid (by simp; omega)
        clear d1 d2
        go_wp2_with fail
        go_meet
        case rel => exact ⟨by rw [HE.out], rfl⟩
      have t2 : decide ((N2 : Int) < 1) = false := by simp; omega
      by_cases d3 : 12 < N2
      · have t3 : decide ((12 : Int) < (N2 : Int)) = true := by simp; omega
        have HE : Hid (decide (12 < N1 ∨ N2 = 0 ∨ 12 < N2) = true) := Lib.hid (by simp; omega)
        clear d1 d2 d3
        go_wp2_with fail
        go_meet
        case rel => exact ⟨by rw [HE.out], rfl⟩
      have t3 : decide ((12 : Int) < (N2 : Int)) = false := by simp; omega
      have HE : Hid (decide (12 < N1 ∨ N2 = 0 ∨ 12 < N2) = false) := Lib.hid (by simp; omega)
      clear d1 d2 d3
      go_wp2_with fail
      go_meet
      case rel => exact ⟨by rw [HE.out], rfl⟩
  case rest =>
  obtain ⟨rfl, rfl⟩ := hcut
  by_cases hmany : 12 < N1 ∨ N2 = 0 ∨ 12 < N2
  · as_aux_lemma =>
      rw [decide_eq_true hmany]
      have HMQ : Hid (mayP p.prg = some (0, [])) := Lib.hid (by rw [HMP.out, if_pos hmany])
      clear HMP hmany
      go_wp2_with fail
      refine (bare_any 101 _).mono ?_
      rintro e w7 ⟨rfl, hb7⟩
      have HR7 := Lib.hid (HR0.out.below hb7 HR0.out.lt)
      have HB7 : Hid (Below w.heap.size w w7) := Lib.hid (HB0.out.trans (hb7.mono HB0.out.size))
      unfold fV
      clear hb7
      have c4 : w7.cell? ⟨gr, 0, none⟩ = some (.int .i64 0) := HR7.out.cell 0
      have c5 : w7.cell? ⟨gr, 1, none⟩ = some (.slice none 0 0) := HR7.out.cell 1
      have f4 := HR7.out.frozen 0
      have f5 := HR7.out.frozen 1
      go_wp2
      refine bodyPost_ret (v := fV 101 (.slice none 0 0)) ?_ rfl ?_
      · simp [results, Tryd.results12, go_sem, fV, c4, c5]
      · rw [HMQ.out]
        exact fin_zero rfl HB7.out HGR.out
  rw [decide_eq_false hmany]
  have HMQ : Hid (mayP p.prg = match mayCs 0 p.cls with
    | some f => some f
    | none => mayMs p.prg 0 p.prg.mets) := Lib.hid (by rw [HMP.out, if_neg hmany])
  have hN1 : N1 ≤ 12 := by omega
  have hN2 : N2 ≤ 12 := by omega
  clear HMP hmany
  go_wp2_with fail
  clear x0 x1
  go_loopw [3] (fun si wr => ClsRel w W0 p.cls si wr) (fun si _ => N1 - (intOf si).toNat)
  case atStart => exact ⟨0, Nat.zero_le _, rfl, rfl, Below.refl _ _⟩
  case round =>
    obtain ⟨k, hk, rfl, hmk, hbr⟩ := hrel
    have HMK := Lib.hid hmk
    have HBR := Lib.hid hbr
    have HKR := Lib.hid (HK0.out.below hbr HK0.out.lt)
    have x0 : wr.cell? ⟨gp, 0, none⟩ = some (.slice p.A N1 p.c) := HKR.out.cell 0
    have x1 : wr.cell? ⟨gp, 1, none⟩ = some (.slice p.B N2 p.d) := HKR.out.cell 1
    have gpl := HKR.out.lt
    clear hmk hbr
    by_cases hlt : k < N1
    · as_aux_lemma =>
        have hkN : (k : Int) < (N1 : Int) := by omega
        have hk0 : (0 : Int) ≤ (k : Int) := by omega
        obtain ⟨c, hck⟩ : ∃ c, p.cls[k]? = some c := ⟨_, List.getElem?_eq_getElem (by have := H1.out; omega)⟩
        obtain ⟨A, u, hA, hAb, hu, hcell⟩ := ((HP.out.below HB0.out).below ((HBR.out.mono HB0.out.size))).cls.at_ (k := k) (by have := H1.out; omega)
        rw [List.getElem?_map, hck] at hu
        obtain rfl : strV c = u := by simpa using hu
        have HCK := Lib.hid hck
        rw [hA] at x0 ⊢
        unfold strV at hcell
        obtain ⟨q, hq⟩ : ∃ q, q = (⟨c.toArray⟩ : ByteArray) := ⟨_, rfl⟩
        rw [← hq] at hcell
        have HQ : Hid (q.toList = c) := Lib.hid (by rw [hq]; exact toList_mk _)
        obtain ⟨L, hL⟩ : ∃ L, L = c.length := ⟨_, rfl⟩
        have hqs : q.size = L := by rw [hq, hL]; exact size_mk _
        have HL := Lib.hid hL
        clear hu hck hA hq hL
        have HMA := Lib.hid (mayCs_at HCK.out)
        have HCM := Lib.hid (HC.out c (List.mem_of_getElem? HCK.out))
        have hlm : L ≤ 9223372036854775807 := by have := HCM.out; have := HL.out; unfold maxLen at *; omega
        by_cases hlen : 10 < L
        · have d1 : decide ((10 : Int) < (L : Int)) = true := by simp; omega
          have HF : Hid (mayP p.prg = some (0, [(k : Int), -1])) := Lib.hid (by
            have e : mayC c = some 0 := by unfold mayC; rw [if_pos (by have := HL.out; omega)]
            rw [HMQ.out, HMK.out, HMA.out, e])
          clear HMA hlen
          go_wp2_with fail
          refine (there_any (101) (k : Int) (-1) _).mono ?_
          rintro e w7 ⟨b7, rfl, hg7, hk7, hb7⟩
          have HR7 : Hid (Blk w7 gr 35 #[.int .i64 0, .slice none 0 0]) := Lib.hid ((HR0.out.below HBR.out HR0.out.lt).below hb7 (Nat.lt_of_lt_of_le HR0.out.lt HBR.out.size))
          have HB7 : Hid (Below w.heap.size w w7) := Lib.hid ((HB0.out.trans (HBR.out.mono HB0.out.size)).trans (hb7.mono (Nat.le_trans HB0.out.size HBR.out.size)))
          have HG7 : Hid (w.heap.size ≤ b7) := Lib.hid (Nat.le_trans (Nat.le_trans HB0.out.size HBR.out.size) hg7)
          have HK7 := Lib.hid hk7
          unfold fV
          clear hb7 hg7 hk7
          have c4 : w7.cell? ⟨gr, 0, none⟩ = some (.int .i64 0) := HR7.out.cell 0
          have c5 : w7.cell? ⟨gr, 1, none⟩ = some (.slice none 0 0) := HR7.out.cell 1
          have f4 := HR7.out.frozen 0
          have f5 := HR7.out.frozen 1
          go_wp2
          refine bodyPost_ret (v := fV (101) (.slice (some ⟨b7, 0, none⟩) 2 2)) ?_ rfl ?_
          · simp [results, Tryd.results12, go_sem, fV, c4, c5]
          · rw [HF.out]
            exact fin_two rfl HB7.out HGR.out HR7.out HK7.out HG7.out
        · have d1 : decide ((10 : Int) < (L : Int)) = false := by simp; omega
          have HNL : Hid (¬ 10 < c.length) := Lib.hid (by have := HL.out; omega)
          clear hlen
          go_wp2_with fail
          refine (rletters_any q c HQ.out HCM.out _).mono ?_
          rintro e w2 ⟨rfl, hb2⟩
          have HB2 : Hid (Below W0.heap.size W0 w2) := Lib.hid (HBR.out.trans (hb2.mono HBR.out.size))
          clear hb2
          cases hl : lettersB c
          · have HF : Hid (mayP p.prg = some (1, [(k : Int), -1])) := Lib.hid (by
              have e : mayC c = some 1 := by unfold mayC; rw [if_neg HNL.out, hl]; rfl
              rw [HMQ.out, HMK.out, HMA.out, e])
            clear HMA hl
            go_wp2_with fail
            refine (there_any (102) (k : Int) (-1) _).mono ?_
            rintro e w7 ⟨b7, rfl, hg7, hk7, hb7⟩
            have HR7 : Hid (Blk w7 gr 35 #[.int .i64 0, .slice none 0 0]) := Lib.hid ((HR0.out.below HB2.out HR0.out.lt).below hb7 (Nat.lt_of_lt_of_le HR0.out.lt HB2.out.size))
            have HB7 : Hid (Below w.heap.size w w7) := Lib.hid ((HB0.out.trans (HB2.out.mono HB0.out.size)).trans (hb7.mono (Nat.le_trans HB0.out.size HB2.out.size)))
            have HG7 : Hid (w.heap.size ≤ b7) := Lib.hid (Nat.le_trans (Nat.le_trans HB0.out.size HB2.out.size) hg7)
            have HK7 := Lib.hid hk7
            unfold fV
            clear hb7 hg7 hk7
            have c4 : w7.cell? ⟨gr, 0, none⟩ = some (.int .i64 0) := HR7.out.cell 0
            have c5 : w7.cell? ⟨gr, 1, none⟩ = some (.slice none 0 0) := HR7.out.cell 1
            have f4 := HR7.out.frozen 0
            have f5 := HR7.out.frozen 1
            go_wp2
            refine bodyPost_ret (v := fV (102) (.slice (some ⟨b7, 0, none⟩) 2 2)) ?_ rfl ?_
            · simp [results, Tryd.results12, go_sem, fV, c4, c5]
            · rw [HF.out]
              exact fin_two rfl HB7.out HGR.out HR7.out HK7.out HG7.out
          · have HN : Hid (mayCs 0 p.cls = mayCs (k + 1) (p.cls.drop (k + 1))) := Lib.hid (by
              have e : mayC c = none := by unfold mayC; rw [if_neg HNL.out, hl]; rfl
              rw [HMK.out, HMA.out, e])
            clear HMA hl
            go_wp2
            go_roundw
            case rel => exact ⟨k + 1, by have := H1.out; omega, by go_num, HN.out, HB2.out⟩
            case measure => simp [intOf]; omega
    · have HCN : Hid (mayP p.prg = mayMs p.prg 0 p.prg.mets) := Lib.hid (by
        rw [HMQ.out, HMK.out, List.drop_eq_nil_of_le (by have := H1.out; omega)]
        rfl)
      clear HMK HMQ
      have t6 : decide ((k : Int) < (N1 : Int)) = false := by simp; omega
      go_wp2_with fail
      clear t6 hlt x0 x1 gpl
      go_loopw [5] (fun si wr => MsRel W0 p si wr) (fun si _ => N2 - (intOf si).toNat)
      case atStart => exact ⟨0, Nat.zero_le _, rfl, rfl, HBR.out⟩
      case round =>
        clear HBR HKR
        obtain ⟨i, hi, rfl, hmi, hbr⟩ := hrel
        have HMI := Lib.hid hmi
        have HBR := Lib.hid hbr
        have HKR := Lib.hid (HK0.out.below hbr HK0.out.lt)
        have x1 : wr.cell? ⟨gp, 1, none⟩ = some (.slice p.B N2 p.d) := HKR.out.cell 1
        have gpl := HKR.out.lt
        clear hmi hbr
        by_cases hlti : i < N2
        · have hiN : (i : Int) < (N2 : Int) := by omega
          have hi0 : (0 : Int) ≤ (i : Int) := by omega
          obtain ⟨x, hx⟩ : ∃ x, p.ms[i]? = some x := ⟨_, List.getElem?_eq_getElem (by have := H2.out; omega)⟩
          have HXM := Lib.hid (List.mem_of_getElem? hx)
          have HPR : Hid (PAt wr wr.heap.size p) := Lib.hid (HP.out.next (HB0.out.trans (HBR.out.mono HB0.out.size)))
          obtain ⟨A, hA, hAb, m0, m1, m2, m3⟩ := HPR.out.ms.four mvC_len hx rfl
          have HMX := Lib.hid (mayMs_at hx)
          rw [hA] at x1 ⊢
          unfold strV at m0 m1 m2
          obtain ⟨q0, hq0⟩ : ∃ q, q = (⟨x.m.par.toArray⟩ : ByteArray) := ⟨_, rfl⟩
          obtain ⟨q1, hq1⟩ : ∃ q, q = (⟨x.m.loc.toArray⟩ : ByteArray) := ⟨_, rfl⟩
          obtain ⟨q2, hq2⟩ : ∃ q, q = (⟨x.m.ret.toArray⟩ : ByteArray) := ⟨_, rfl⟩
          obtain ⟨M, hM⟩ : ∃ q, q = x.m.code.length := ⟨_, rfl⟩
          obtain ⟨pl, hpl⟩ : ∃ q, q = x.m.par.length := ⟨_, rfl⟩
          obtain ⟨ll, hll⟩ : ∃ q, q = x.m.loc.length := ⟨_, rfl⟩
          rw [← hq0] at m0
          rw [← hq1] at m1
          rw [← hq2] at m2
          rw [← hM] at m3
          have s0 : q0.size = pl := by rw [hq0, hpl]; exact size_mk _
          have s1 : q1.size = ll := by rw [hq1, hll]; exact size_mk _
          have HQ : Hid (q0.toList = x.m.par ∧ q1.toList = x.m.loc ∧ q2.toList = x.m.ret) := Lib.hid ⟨by rw [hq0]; exact toList_mk _, by rw [hq1]; exact toList_mk _, by rw [hq2]; exact toList_mk _⟩
          have HLS : Hid (M = x.m.code.length ∧ pl = x.m.par.length ∧ ll = x.m.loc.length) := Lib.hid ⟨hM, hpl, hll⟩
          have HMAG : Hid (metAgg x = .agg #[.string q0, .string q1, .string q2, .slice x.A M x.c]) := Lib.hid (by unfold metAgg strV; rw [hq0, hq1, hq2, hM])
          have hpm : pl ≤ 9223372036854775807 := by have := (HM.out x HXM.out).1; unfold maxLen at this; omega
          have hlm : ll ≤ 9223372036854775807 := by have := (HM.out x HXM.out).2.1; unfold maxLen at this; omega
          have hMm : M ≤ 9223372036854775807 := by have := (HM.out x HXM.out).2.2; unfold maxLen at this; omega
          have HMB : Hid (manyB x.m = decide (12 < pl ∨ 12 < pl + ll ∨ M = 0 ∨ 120 < M)) := Lib.hid (by unfold manyB; rw [hM, hpl, hll])
          obtain ⟨W1, hW1⟩ : ∃ W, W = wr.alloc (.cells #[.string q0, .string q1, .string q2, .slice x.A M x.c] 54) := ⟨_, rfl⟩
          obtain ⟨gm, hgm⟩ : ∃ g, g = wr.heap.size := ⟨_, rfl⟩
          have HX1 : Hid (Blk W1 gm 54 #[.string q0, .string q1, .string q2, .slice x.A M x.c]) := Lib.hid (by rw [hW1, hgm]; exact Blk.new _ _ _)
          have HB1 : Hid (Below W0.heap.size W0 W1) := Lib.hid (by rw [hW1]; exact HBR.out.alloc HBR.out.size _)
          clear hx hA hq0 hq1 hq2 hM hpl hll
          go_upto_region 15 with fail
          rw [← hW1, ← hgm]
          clear hW1 hgm m0 m1 m2 m3 hAb x1 gpl
          have y0 : W1.cell? ⟨gm, 0, none⟩ = some (.string q0) := HX1.out.cell 0
          have y1 : W1.cell? ⟨gm, 1, none⟩ = some (.string q1) := HX1.out.cell 1
          have y2 : W1.cell? ⟨gm, 2, none⟩ = some (.string q2) := HX1.out.cell 2
          have y3 : W1.cell? ⟨gm, 3, none⟩ = some (.slice x.A M x.c) := HX1.out.cell 3
          have gml := HX1.out.lt
          go_cut [87] from 62 to 88 (fun u wx => u = .bool (decide (12 < pl ∨ 12 < pl + ll ∨ M = 0 ∨ 120 < M)) ∧ W1 = wx)
          case first =>
            as_aux_lemma =>
              by_cases d1 : 12 < pl
              · have t1 : decide ((12 : Int) < (pl : Int)) = true := by simp; omega
                have HE : Hid (decide (12 < pl ∨ 12 < pl + ll ∨ M = 0 ∨ 120 < M) = true) := Lib.hid (by simp; omega)
                clear d1
                go_wp2_with fail
                go_meet
                case rel => exact ⟨by rw [HE.out], rfl⟩
              have t1 : decide ((12 : Int) < (pl : Int)) = false := by simp; omega
              by_cases d2 : 12 < pl + ll
              · have t2 : decide ((12 : Int) - (pl : Int) < (ll : Int)) = true := by simp; omega
                have t2' : decide ((ll : Int) > (12 : Int) - (pl : Int)) = true := by simp; omega
                have HE : Hid (decide (12 < pl ∨ 12 < pl + ll ∨ M = 0 ∨ 120 < M) = true) := Lib.hid (by simp; omega)
                clear d2
                go_wp2_with fail
                go_meet
                case rel => exact ⟨by rw [HE.out], rfl⟩
              have t2 : decide ((12 : Int) - (pl : Int) < (ll : Int)) = false := by simp; omega
              by_cases d3 : M = 0
              · have t3 : decide ((M : Int) < 1) = true := by simp; omega
                have HE : Hid (decide (12 < pl ∨ 12 < pl + ll ∨ M = 0 ∨ 120 < M) = true) := Lib.hid (by simp; omega)
                clear d3
                go_wp2_with fail
                go_meet
                case rel => exact ⟨by rw [HE.out], rfl⟩
              have t3 : decide ((M : Int) < 1) = false := by simp; omega
              by_cases d4 : 120 < M
              · have t4 : decide ((120 : Int) < (M : Int)) = true := by simp; omega
                have HE : Hid (decide (12 < pl ∨ 12 < pl + ll ∨ M = 0 ∨ 120 < M) = true) := Lib.hid (by simp; omega)
                go_wp2_with fail
                go_meet
                case rel => exact ⟨by rw [HE.out], rfl⟩
              have t4 : decide ((120 : Int) < (M : Int)) = false := by simp; omega
              have HE : Hid (decide (12 < pl ∨ 12 < pl + ll ∨ M = 0 ∨ 120 < M) = false) := Lib.hid (by simp; omega)
              go_wp2_with fail
              go_meet
              case rel => exact ⟨by rw [HE.out], rfl⟩
          case rest =>
          obtain ⟨rfl, rfl⟩ := hcut
          rw [← HMB.out]
          cases hmb : manyB x.m
          case true =>
            as_aux_lemma =>
              have HF : Hid (mayP p.prg = some (0, [(i : Int), -1])) := Lib.hid (by
                have e : mayM p.prg i x.m = some (0, [(i : Int), -1]) := by unfold mayM; rw [mayH_many hmb]
                rw [HCN.out, HMI.out, HMX.out, e])
              clear hmb
              go_wp2_with fail
              refine (there_any (101) (i : Int) (-1) _).mono ?_
              rintro e w7 ⟨b7, rfl, hg7, hk7, hb7⟩
              have HR7 : Hid (Blk w7 gr 35 #[.int .i64 0, .slice none 0 0]) := Lib.hid ((HR0.out.below HB1.out HR0.out.lt).below hb7 (Nat.lt_of_lt_of_le HR0.out.lt HB1.out.size))
              have HB7 : Hid (Below w.heap.size w w7) := Lib.hid ((HB0.out.trans (HB1.out.mono HB0.out.size)).trans (hb7.mono (Nat.le_trans HB0.out.size HB1.out.size)))
              have HG7 : Hid (w.heap.size ≤ b7) := Lib.hid (Nat.le_trans (Nat.le_trans HB0.out.size HB1.out.size) hg7)
              have HK7 := Lib.hid hk7
              unfold fV
              clear hb7 hg7 hk7
              have c4 : w7.cell? ⟨gr, 0, none⟩ = some (.int .i64 0) := HR7.out.cell 0
              have c5 : w7.cell? ⟨gr, 1, none⟩ = some (.slice none 0 0) := HR7.out.cell 1
              have f4 := HR7.out.frozen 0
              have f5 := HR7.out.frozen 1
              go_wp2
              refine bodyPost_ret (v := fV (101) (.slice (some ⟨b7, 0, none⟩) 2 2)) ?_ rfl ?_
              · simp [results, Tryd.results12, go_sem, fV, c4, c5]
              · rw [HF.out]
                exact fin_two rfl HB7.out HGR.out HR7.out HK7.out HG7.out
          have HNM := Lib.hid hmb
          have hM120 : M ≤ 120 := by have := of_decide_eq_false (HMB.out.symm.trans hmb); omega
          clear hmb
          go_upto_region 17 with fail
          go_cut [7] from 90 to 103 (fun u wx => u = .bool (retB x.m.ret) ∧ W1 = wx)
          case first =>
            as_aux_lemma =>
              have h3 := HQ.out.2.2
              rcases retCat x.m.ret with ⟨e1, e2, e3⟩ | ⟨e1, e2, e3⟩ | ⟨e1, e2, e3⟩ | ⟨e1, e2, e3⟩
              all_goals (
                have HRB := Lib.hid (show retB x.m.ret = (x.m.ret == [] || x.m.ret == [73] || x.m.ret == [82]) from rfl)
                rw [e1, e2, e3] at HRB
                rw [← h3] at e1 e2 e3
                clear h3
                go_wp2_with fail
                go_meet
                case rel => exact ⟨by rw [HRB.out]; rfl, rfl⟩)
          case rest =>
          obtain ⟨rfl, rfl⟩ := hcut
          obtain ⟨tb, htb⟩ : ∃ b, b = retB x.m.ret := ⟨_, rfl⟩
          obtain ⟨b1, hb1⟩ : ∃ b, b = lettersB x.m.par := ⟨_, rfl⟩
          obtain ⟨b2, hb2⟩ : ∃ b, b = lettersB x.m.loc := ⟨_, rfl⟩
          rw [← htb]
          have HT3 := Lib.hid (show tb = retB x.m.ret ∧ b1 = lettersB x.m.par ∧ b2 = lettersB x.m.loc from ⟨htb, hb1, hb2⟩)
          clear htb hb1 hb2
          go_upto_region 18 with fail
          go_cut [130] from 103 to 131 (fun u wx => u = .bool (!headB x.m (i == 0)) ∧ Below W1.heap.size W1 wx)
          case first =>
            as_aux_lemma =>
              have HE0 : Hid (headB x.m (i == 0) = (b1 && b2 && tb && !((i == 0) && (q0.toList != [] || q2.toList == [82])))) := Lib.hid (by
                obtain ⟨e1, e2, e3⟩ := HT3.out
                obtain ⟨f1, f2, f3⟩ := HQ.out
                unfold headB
                rw [e1, e2, e3, f1, f3])
              go_wp2_with fail
              refine (rletters_any q0 x.m.par HQ.out.1 (HM.out x HXM.out).1 _).mono ?_
              rintro e w2 ⟨rfl, hb2⟩
              rw [← HT3.out.2.1]
              have HB2 : Hid (Below W1.heap.size W1 w2) := Lib.hid hb2
              have HX2 := Lib.hid (HX1.out.below hb2 HX1.out.lt)
              clear hb2 y0 y1 y2 y3 gml
              have y0 : w2.cell? ⟨gm, 0, none⟩ = some (.string q0) := HX2.out.cell 0
              have y1 : w2.cell? ⟨gm, 1, none⟩ = some (.string q1) := HX2.out.cell 1
              have y2 : w2.cell? ⟨gm, 2, none⟩ = some (.string q2) := HX2.out.cell 2
              have gml := HX2.out.lt
              cases b1
              · go_wp2_with fail
                go_meet
                case rel => exact ⟨by rw [HE0.out]; rfl, HB2.out⟩
              go_wp2_with fail
              refine (rletters_any q1 x.m.loc HQ.out.2.1 (HM.out x HXM.out).2.1 _).mono ?_
              rintro e w3 ⟨rfl, hb3⟩
              rw [← HT3.out.2.2]
              have HB3 : Hid (Below W1.heap.size W1 w3) := Lib.hid (HB2.out.trans (hb3.mono HB2.out.size))
              have HX3 := Lib.hid (HX2.out.below hb3 HX2.out.lt)
              clear hb3 y0 y1 y2 gml
              have y0 : w3.cell? ⟨gm, 0, none⟩ = some (.string q0) := HX3.out.cell 0
              have y2 : w3.cell? ⟨gm, 2, none⟩ = some (.string q2) := HX3.out.cell 2
              have gml := HX3.out.lt
              cases b2
              · go_wp2_with fail
                go_meet
                case rel => exact ⟨by rw [HE0.out]; rfl, HB3.out⟩
              cases tb
              · go_wp2_with fail
                go_meet
                case rel => exact ⟨by rw [HE0.out]; rfl, HB3.out⟩
              by_cases hi00 : i = 0
              · have t1 : ((i : Int) == 0) = true := by simp [hi00]
                have HI0 : Hid ((i == 0) = true) := Lib.hid (by simp [hi00])
                clear hi00
                cases e1 : q0.toList == []
                · have e2 : (q0.toList != []) = true := by simp [bne, e1]
                  go_wp2_with fail
                  go_meet
                  case rel => exact ⟨by rw [HE0.out, HI0.out, e2]; rfl, HB3.out⟩
                · have e2 : (q0.toList != []) = false := by simp [bne, e1]
                  cases e3 : q2.toList == [82]
                  · go_wp2_with fail
                    go_meet
                    case rel => exact ⟨by rw [HE0.out, HI0.out, e2, e3]; rfl, HB3.out⟩
                  · go_wp2_with fail
                    go_meet
                    case rel => exact ⟨by rw [HE0.out, HI0.out, e2, e3]; rfl, HB3.out⟩
              · have t1 : ((i : Int) == 0) = false := by simp; omega
                have HI0 : Hid ((i == 0) = false) := Lib.hid (by simp [hi00])
                clear hi00
                go_wp2_with fail
                go_meet
                case rel => exact ⟨by rw [HE0.out, HI0.out]; rfl, HB3.out⟩
          case rest =>
          obtain ⟨rfl, hbc⟩ := hcut
          have HBC : Hid (Below W0.heap.size W0 wc) := Lib.hid (HB1.out.trans (hbc.mono HB1.out.size))
          have HXC := Lib.hid (HX1.out.below hbc HX1.out.lt)
          clear hbc y0 y1 y2 y3 gml
          cases hhb : headB x.m (i == 0)
          case false =>
            as_aux_lemma =>
              have HF : Hid (mayP p.prg = some (1, [(i : Int), -1])) := Lib.hid (by
                have e : mayM p.prg i x.m = some (1, [(i : Int), -1]) := by unfold mayM; rw [mayH_kind HNM.out hhb]
                rw [HCN.out, HMI.out, HMX.out, e])
              clear hhb
              go_wp2_with fail
              refine (there_any (102) (i : Int) (-1) _).mono ?_
              rintro e w7 ⟨b7, rfl, hg7, hk7, hb7⟩
              have HR7 : Hid (Blk w7 gr 35 #[.int .i64 0, .slice none 0 0]) := Lib.hid ((HR0.out.below HBC.out HR0.out.lt).below hb7 (Nat.lt_of_lt_of_le HR0.out.lt HBC.out.size))
              have HB7 : Hid (Below w.heap.size w w7) := Lib.hid ((HB0.out.trans (HBC.out.mono HB0.out.size)).trans (hb7.mono (Nat.le_trans HB0.out.size HBC.out.size)))
              have HG7 : Hid (w.heap.size ≤ b7) := Lib.hid (Nat.le_trans (Nat.le_trans HB0.out.size HBC.out.size) hg7)
              have HK7 := Lib.hid hk7
              unfold fV
              clear hb7 hg7 hk7
              have c4 : w7.cell? ⟨gr, 0, none⟩ = some (.int .i64 0) := HR7.out.cell 0
              have c5 : w7.cell? ⟨gr, 1, none⟩ = some (.slice none 0 0) := HR7.out.cell 1
              have f4 := HR7.out.frozen 0
              have f5 := HR7.out.frozen 1
              go_wp2
              refine bodyPost_ret (v := fV (102) (.slice (some ⟨b7, 0, none⟩) 2 2)) ?_ rfl ?_
              · simp [results, Tryd.results12, go_sem, fV, c4, c5]
              · rw [HF.out]
                exact fin_two rfl HB7.out HGR.out HR7.out HK7.out HG7.out
          have HMY : Hid (mayMs p.prg 0 p.prg.mets = match mayIs p.prg x.m i 0 x.m.code with
            | some f => some f
            | none => mayMs p.prg (i + 1) (p.prg.mets.drop (i + 1))) := Lib.hid (by
            have e : mayM p.prg i x.m = mayIs p.prg x.m i 0 x.m.code := by unfold mayM; rw [mayH_ok HNM.out hhb]
            rw [HMI.out, HMX.out, e]
            rfl)
          clear hhb HMX HMI
          go_wp2_with fail
          go_loopw [8] (fun si wr => IsRel wc p x.m i si wr) (fun si _ => M - (intOf si).toNat)
          case atStart => exact ⟨0, Nat.zero_le _, rfl, rfl, Below.refl _ _⟩
          case round =>
            obtain ⟨j, hj, rfl, hmj, hbrj⟩ := hrel
            have HMJ := Lib.hid hmj
            have HBJ := Lib.hid hbrj
            have HBJ0 : Hid (Below W0.heap.size W0 wr) := Lib.hid (HBC.out.trans (hbrj.mono HBC.out.size))
            have HBWJ : Hid (Below w.heap.size w wr) := Lib.hid (HB0.out.trans (HBJ0.out.mono HB0.out.size))
            have HXJ := Lib.hid (HXC.out.below hbrj HXC.out.lt)
            have HPJ := Lib.hid (HK0.out.below HBJ0.out HK0.out.lt)
            have y0 : wr.cell? ⟨gm, 0, none⟩ = some (.string q0) := HXJ.out.cell 0
            have y1 : wr.cell? ⟨gm, 1, none⟩ = some (.string q1) := HXJ.out.cell 1
            have y2 : wr.cell? ⟨gm, 2, none⟩ = some (.string q2) := HXJ.out.cell 2
            have y3 : wr.cell? ⟨gm, 3, none⟩ = some (.slice x.A M x.c) := HXJ.out.cell 3
            have gml := HXJ.out.lt
            have z0 : wr.cell? ⟨gp, 0, none⟩ = some (.slice p.A N1 p.c) := HPJ.out.cell 0
            have z1 : wr.cell? ⟨gp, 1, none⟩ = some (.slice p.B N2 p.d) := HPJ.out.cell 1
            have gpl := HPJ.out.lt
            clear hmj hbrj
            by_cases hltj : j < M
            · as_aux_lemma =>
                have hjM : (j : Int) < (M : Int) := by omega
                have hj0 : (0 : Int) ≤ (j : Int) := by omega
                obtain ⟨y, hy⟩ : ∃ y, x.m.code[j]? = some y := ⟨_, List.getElem?_eq_getElem (by have := HLS.out.1; omega)⟩
                have HIA := Lib.hid (mayIs_at (P := p.prg) (m := x.m) (i := i) hy)
                have HIC : Hid (Calls Tryd.prog 36 #[.agg #[.slice p.A N1 p.c, .slice p.B N2 p.d], .agg #[.string q0, .string q1, .string q2, .slice x.A M x.c], .agg #[.int .i64 y.op, .int .i64 y.a, .int .i64 y.b, .int .i64 y.n]] wr.drew (RI wr.drew (mcode (mayI p.prg x.m y)))) := Lib.hid (by
                  have := HINS.out x y wr.drew (HP.out.next HBWJ.out.drew) (by have := of_decide_eq_false (show decide (12 < x.m.par.length ∨ 12 < x.m.par.length + x.m.loc.length ∨ x.m.code.length = 0 ∨ 120 < x.m.code.length) = false from HNM.out); unfold maxLen; omega)
                  rw [HMAG.out] at this
                  exact this)
                have hrc := ((HP.out.next HBWJ.out).code x HXM.out)
                obtain ⟨C, hC, hCb, n0, n1, n2, n3⟩ := hrc.four insC_len hy rfl
                rw [hC] at y3 HIC ⊢
                clear hy hC hrc
                go_wp2_with fail
                go_still_tail 7, (by kernel_rfl)
                change wpList _ _ _ _ _ wr.drew
                go_wp2_with fail
                refine HIC.out.mono ?_
                rintro e w2 ⟨rfl, hb2⟩
                have hb2' : Below wr.heap.size wr w2 := (Below.refl _ _).drew.trans hb2
                have HB2 : Hid (Below W0.heap.size W0 w2) := Lib.hid (HBJ0.out.trans (hb2'.mono HBJ0.out.size))
                have HBC2 : Hid (Below wc.heap.size wc w2) := Lib.hid (HBJ.out.trans (hb2'.mono HBJ.out.size))
                clear hb2 hb2' HIC n0 n1 n2 n3 hCb y0 y1 y2 y3 gml z0 z1 gpl
                cases hin : mayI p.prg x.m y with
                | some q =>
                  have HF : Hid (mayP p.prg = some (q, [(i : Int), (j : Int)])) := Lib.hid (by
                    have e : mayIs p.prg x.m i 0 x.m.code = some (q, [(i : Int), (j : Int)]) := by rw [HMJ.out, HIA.out, hin]
                    rw [HCN.out, HMY.out, e])
                  have hbad : ((101 + (q : Int)) != 0) = true := by rw [bne_iff_ne]; omega
                  clear HIA hin HMJ
                  unfold mcode
                  go_wp2_with fail
                  refine (there_any ((101 + (q:Int))) (i : Int) (j : Int) _).mono ?_
                  rintro e w7 ⟨b7, rfl, hg7, hk7, hb7⟩
                  have HR7 : Hid (Blk w7 gr 35 #[.int .i64 0, .slice none 0 0]) := Lib.hid ((HR0.out.below HB2.out HR0.out.lt).below hb7 (Nat.lt_of_lt_of_le HR0.out.lt HB2.out.size))
                  have HB7 : Hid (Below w.heap.size w w7) := Lib.hid ((HB0.out.trans (HB2.out.mono HB0.out.size)).trans (hb7.mono (Nat.le_trans HB0.out.size HB2.out.size)))
                  have HG7 : Hid (w.heap.size ≤ b7) := Lib.hid (Nat.le_trans (Nat.le_trans HB0.out.size HB2.out.size) hg7)
                  have HK7 := Lib.hid hk7
                  unfold fV
                  clear hb7 hg7 hk7
                  have c4 : w7.cell? ⟨gr, 0, none⟩ = some (.int .i64 0) := HR7.out.cell 0
                  have c5 : w7.cell? ⟨gr, 1, none⟩ = some (.slice none 0 0) := HR7.out.cell 1
                  have f4 := HR7.out.frozen 0
                  have f5 := HR7.out.frozen 1
                  go_wp2
                  refine bodyPost_ret (v := fV ((101 + (q:Int))) (.slice (some ⟨b7, 0, none⟩) 2 2)) ?_ rfl ?_
                  · simp [results, Tryd.results12, go_sem, fV, c4, c5]
                  · rw [HF.out]
                    exact fin_two rfl HB7.out HGR.out HR7.out HK7.out HG7.out
                | none =>
                  have HNJ : Hid (mayIs p.prg x.m i 0 x.m.code = mayIs p.prg x.m i (j + 1) (x.m.code.drop (j + 1))) := Lib.hid (by rw [HMJ.out, HIA.out, hin])
                  clear HIA hin HMJ
                  unfold mcode
                  go_wp2
                  go_roundw
                  case rel => exact ⟨_, _, _, _, _, _, _, _, _, _, _, _, _, _, _, _, _, _, _, _, _, _, _, ⟨j + 1, by have := HLS.out.1; omega, by go_num, HNJ.out, HBC2.out⟩, rfl⟩
                  case measure => simp [intOf]; omega
            · as_aux_lemma =>
                have HNI : Hid (mayMs p.prg 0 p.prg.mets = mayMs p.prg (i + 1) (p.prg.mets.drop (i + 1))) := Lib.hid (by
                  have e : mayIs p.prg x.m i 0 x.m.code = none := by
                    rw [HMJ.out, List.drop_eq_nil_of_le (by have := HLS.out.1; omega)]
                    rfl
                  rw [HMY.out, e])
                have t10 : decide ((j : Int) < (M : Int)) = false := by simp; omega
                go_wp2
                go_roundw
                case rel => exact ⟨i + 1, by have := H2.out; omega, by go_num, HNI.out, HBJ0.out⟩
                case measure => simp [intOf]; omega
        · as_aux_lemma =>
            have HF : Hid (mayP p.prg = none) := Lib.hid (by
              rw [HCN.out, HMI.out, List.drop_eq_nil_of_le (by have := H2.out; simp [PV.prg]; omega)]
              rfl)
            have t8 : decide ((i : Int) < (N2 : Int)) = false := by simp; omega
            go_wp2_with fail
            refine (none_any _).mono ?_
            rintro e w7 ⟨rfl, hb7⟩
            have HR7 : Hid (Blk w7 gr 35 #[.int .i64 0, .slice none 0 0]) := Lib.hid ((HR0.out.below HBR.out HR0.out.lt).below hb7 (Nat.lt_of_lt_of_le HR0.out.lt HBR.out.size))
            have HB7 : Hid (Below w.heap.size w w7) := Lib.hid ((HB0.out.trans (HBR.out.mono HB0.out.size)).trans (hb7.mono (Nat.le_trans HB0.out.size HBR.out.size)))
            unfold fV
            clear hb7
            have c4 : w7.cell? ⟨gr, 0, none⟩ = some (.int .i64 0) := HR7.out.cell 0
            have c5 : w7.cell? ⟨gr, 1, none⟩ = some (.slice none 0 0) := HR7.out.cell 1
            have f4 := HR7.out.frozen 0
            have f5 := HR7.out.frozen 1
            go_wp2
            refine bodyPost_ret (v := fV 0 (.slice none 0 0)) ?_ rfl ?_
            · simp [results, Tryd.results12, go_sem, fV, c4, c5]
            · rw [HF.out]
              exact fin_zero rfl HB7.out HGR.out
end Go.Proofs.YtnojejplckhifaaDoor
