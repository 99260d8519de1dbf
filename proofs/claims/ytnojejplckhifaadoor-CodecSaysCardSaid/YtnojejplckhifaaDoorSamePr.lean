/- The contracts of overdriveref.SameInstr, SameInstrs, SameClass, SameClasses, SameMethod, SameMethods, SameProgram (printed by mksame.py). -/
import Derived.Test.YtnojejplckhifaaDoorHead
import Derived.Deep.RegionHeld3
namespace Go.Proofs.YtnojejplckhifaaDoor
open Go.RowKit
set_option linter.unusedVariables false

/-- it answers whether, and leaves what was there -/
def YPost (w : World) (P : Prop) (e : Ending) (w' : World) : Prop := (∃ b, e = .returned (.bool b) ∧ (b = true ↔ P)) ∧ Below w.heap.size w w'
theorem ypost_true {w w' : World} {P : Prop} (h : P) (hb : Below w.heap.size w w') : YPost w P (.returned (.bool true)) w' := ⟨⟨true, rfl, Iff.intro (fun _ => h) (fun _ => rfl)⟩, hb⟩
theorem ypost_false {w w' : World} {P : Prop} (h : ¬ P) (hb : Below w.heap.size w w') : YPost w P (.returned (.bool false)) w' := ⟨⟨false, rfl, Iff.intro (fun h => absurd h (by decide)) (fun e => absurd e h)⟩, hb⟩
theorem ins_ext {x y : Ins} (h0 : (x.op == y.op) = true) (h1 : (x.a == y.a) = true) (h2 : (x.b == y.b) = true) (h3 : (x.n == y.n) = true) : x = y := by
  cases x; cases y; simp at h0 h1 h2 h3; simp [h0, h1, h2, h3]
set_option maxRecDepth 100000 in
set_option maxHeartbeats 400000 in
theorem sameIn_any (x y : Ins) (w : World) : Calls Tryd.prog 91 #[.agg #[.int .i64 x.op, .int .i64 x.a, .int .i64 x.b, .int .i64 x.n], .agg #[.int .i64 y.op, .int .i64 y.a, .int .i64 y.b, .int .i64 y.n]] w (YPost w (x = y)) := by
  have HB : Hid (∀ X Y, Below w.heap.size w ((w.alloc X).alloc Y)) := Lib.hid (fun X Y => ((Below.refl _ _).alloc (Nat.le_refl _) X).alloc (by simp) Y)
  cases h0 : x.op == y.op
  · have HN : Hid (¬ x = y) := Lib.hid (by intro e; rw [e] at h0; simp at h0)
    go_enter Tryd.func91, Tryd.ntmps91
    go_wp2
    go_ret
    exact ypost_false HN.out (HB.out _ _)
  cases h1 : x.a == y.a
  · have HN : Hid (¬ x = y) := Lib.hid (by intro e; rw [e] at h1; simp at h1)
    go_enter Tryd.func91, Tryd.ntmps91
    go_wp2
    go_ret
    exact ypost_false HN.out (HB.out _ _)
  cases h2 : x.b == y.b
  · have HN : Hid (¬ x = y) := Lib.hid (by intro e; rw [e] at h2; simp at h2)
    go_enter Tryd.func91, Tryd.ntmps91
    go_wp2
    go_ret
    exact ypost_false HN.out (HB.out _ _)
  cases h3 : x.n == y.n
  · have HN : Hid (¬ x = y) := Lib.hid (by intro e; rw [e] at h3; simp at h3)
    go_enter Tryd.func91, Tryd.ntmps91
    go_wp2
    go_ret
    exact ypost_false HN.out (HB.out _ _)
  have HY : Hid (x = y) := Lib.hid (ins_ext h0 h1 h2 h3)
  go_enter Tryd.func91, Tryd.ntmps91
  go_wp2
  go_ret
  exact ypost_true HY.out (HB.out _ _)
set_option maxRecDepth 100000 in
set_option maxHeartbeats 400000 in
theorem sameCl_any (s t : ByteArray) (x y : List UInt8) (hs : s.toList = x) (ht : t.toList = y) (w : World) : Calls Tryd.prog 68 #[.agg #[.string s], .agg #[.string t]] w (YPost w (x = y)) := by
  have HB : Hid (∀ X Y, Below w.heap.size w ((w.alloc X).alloc Y)) := Lib.hid (fun X Y => ((Below.refl _ _).alloc (Nat.le_refl _) X).alloc (by simp) Y)
  have HS := Lib.hid hs
  have HT := Lib.hid ht
  clear hs ht
  cases h0 : s.toList == t.toList
  · have HN : Hid (¬ x = y) := Lib.hid (by rw [← HS.out, ← HT.out]; intro e; rw [e] at h0; simp at h0)
    go_enter Tryd.func68, Tryd.ntmps68
    go_wp2
    go_ret
    exact ypost_false HN.out (HB.out _ _)
  · have HN : Hid (x = y) := Lib.hid (by rw [← HS.out, ← HT.out]; simpa using h0)
    go_enter Tryd.func68, Tryd.ntmps68
    go_wp2
    go_ret
    exact ypost_true HN.out (HB.out _ _)
def sameInsRel (w : World) (l l' : List Ins) (si : Value) (wr : World) : Prop := ∃ k : Nat, k ≤ l.length ∧ si = .int .i64 (k : Int) ∧ (l).take k = (l').take k ∧ Below w.heap.size w wr
set_option maxRecDepth 100000 in
set_option maxHeartbeats 1000000 in
theorem sameIns_any (A B : Option Addr) (n m c d : Nat) (l l' : List Ins) (w : World) (ha : Reads w w.heap.size 4 A n (insL l)) (hl : l.length = n) (hb : Reads w w.heap.size 4 B m (insL l')) (hl' : l'.length = m)
    (hn : n ≤ 1099511627776) :
    Calls Tryd.prog 79 #[.slice A n c, .slice B m d] w (YPost w (l = l')) := by
  have hd : (1 : Int) ≤ (n : Int) - 0 + 1 := by omega
  clear hd
  by_cases hnm : n = m
  · subst hnm
    have HL := Lib.hid hl
    have HL' := Lib.hid hl'
    clear hl hl'
    go_enter Tryd.func79, Tryd.ntmps79
    go_wp2
    go_loopw [5] (fun si wr => sameInsRel w l l' si wr) (fun si _ => n - (intOf si).toNat)
    case atStart => exact ⟨0, Nat.zero_le _, rfl, rfl, Below.refl _ _⟩
    case round =>
      obtain ⟨k, hk, rfl, htake, hbr⟩ := hrel
      have HTK := Lib.hid htake
      have HBR := Lib.hid hbr
      clear htake
      by_cases hlt : k < n
      · have hk1 : k < l.length := by have := HL.out; omega
        have hk2 : k < l'.length := by have := HL'.out; omega
        obtain ⟨x, hx⟩ : ∃ x, x = l[k] := ⟨_, rfl⟩
        obtain ⟨y, hy⟩ : ∃ y, y = l'[k] := ⟨_, rfl⟩
        have hxe : l[k]? = some x := by rw [hx]; exact List.getElem?_eq_getElem hk1
        have hye : l'[k]? = some y := by rw [hy]; exact List.getElem?_eq_getElem hk2
        obtain ⟨ad, rfl, had, q0, q1, q2, q3⟩ := (ha.below hbr).four insC_len hxe rfl
        obtain ⟨bd, rfl, hbd, r0, r1, r2, r3⟩ := (hb.below hbr).four insC_len hye rfl
        have HXE := Lib.hid hxe
        have HYE := Lib.hid hye
        clear hx hy hxe hye
        have k0 : (0 : Int) ≤ k := by omega
        have kn : (k : Int) < n := by omega
        clear hbr
        go_wp2_with fail
        go_region_held3 (fun w' => w'.cell? (ad.add (k * 4)) = some (.int .i64 x.op) ∧ w'.cell? ⟨(ad.add (k * 4)).block, (ad.add (k * 4)).off + 1, none⟩ = some (.int .i64 x.a) ∧ w'.cell? ⟨(ad.add (k * 4)).block, (ad.add (k * 4)).off + 2, none⟩ = some (.int .i64 x.b) ∧ w'.cell? ⟨(ad.add (k * 4)).block, (ad.add (k * 4)).off + 3, none⟩ = some (.int .i64 x.n) ∧ w'.cell? (bd.add (k * 4)) = some (.int .i64 y.op) ∧ w'.cell? ⟨(bd.add (k * 4)).block, (bd.add (k * 4)).off + 1, none⟩ = some (.int .i64 y.a) ∧ w'.cell? ⟨(bd.add (k * 4)).block, (bd.add (k * 4)).off + 2, none⟩ = some (.int .i64 y.b) ∧ w'.cell? ⟨(bd.add (k * 4)).block, (bd.add (k * 4)).off + 3, none⟩ = some (.int .i64 y.n)) (first | go_keep | exact HS.out) ((go_at_call 91; refine (sameIn_any x y _).mono ?_; rintro e w2 ⟨⟨b, rfl, hbb⟩, hb2⟩; have HBB := Lib.hid hbb; clear hbb; have HB2 : Hid (Below w.heap.size w w2) := Lib.hid (HBR.out.drew.trans (hb2.mono HBR.out.size)); have hz : w.heap.size ≤ wr.drew.heap.size := HBR.out.size; have HS := Lib.hid (show _ ∧ _ ∧ _ ∧ _ ∧ _ ∧ _ ∧ _ ∧ _ from ⟨(hb2.cell (p := (ad.add (k * 4))) (by rw [block_of_add]; omega)).trans q0, (hb2.cell (p := ⟨(ad.add (k * 4)).block, (ad.add (k * 4)).off + 1, none⟩) (by simp only [block_of_add]; omega)).trans q1, (hb2.cell (p := ⟨(ad.add (k * 4)).block, (ad.add (k * 4)).off + 2, none⟩) (by simp only [block_of_add]; omega)).trans q2, (hb2.cell (p := ⟨(ad.add (k * 4)).block, (ad.add (k * 4)).off + 3, none⟩) (by simp only [block_of_add]; omega)).trans q3, (hb2.cell (p := (bd.add (k * 4))) (by rw [block_of_add]; omega)).trans r0, (hb2.cell (p := ⟨(bd.add (k * 4)).block, (bd.add (k * 4)).off + 1, none⟩) (by simp only [block_of_add]; omega)).trans r1, (hb2.cell (p := ⟨(bd.add (k * 4)).block, (bd.add (k * 4)).off + 2, none⟩) (by simp only [block_of_add]; omega)).trans r2, (hb2.cell (p := ⟨(bd.add (k * 4)).block, (bd.add (k * 4)).off + 3, none⟩) (by simp only [block_of_add]; omega)).trans r3⟩)))
        cases b
        · go_wp2
          go_ret
          refine ypost_false (fun e => ?_) HB2.out
          have e2 := congrArg (fun z => z[k]?) e
          simp only [HXE.out, HYE.out] at e2
          exact absurd (HBB.out.2 (by simpa using e2)) (by decide)
        · have HXY := Lib.hid (HBB.out.1 rfl)
          go_wp2
          refine ⟨⟨k + 1, by omega, by go_num, ?_, HB2.out⟩, by simp [intOf]; omega⟩
          rw [List.take_add_one, List.take_add_one, HTK.out]
          simp [HXE.out, HYE.out, HXY.out]
      · have h := HTK.out
        rw [List.take_of_length_le (by have := HL.out; (try simp); omega), List.take_of_length_le (by have := HL'.out; (try simp); omega)] at h
        have HE := Lib.hid h
        clear h
        go_wp2
        go_ret
        exact ypost_true HE.out hbr
  · have hnm' : ((n : Int) == (m : Int)) = false := beq_eq_false_iff_ne.2 (by omega)
    have hnm2 : ((n : Int) != (m : Int)) = true := by rw [bne_iff_ne]; omega
    have HD : Hid (¬ l = l') := Lib.hid (by
      intro e
      apply hnm
      have := congrArg List.length e
      try simp at this
      omega)
    clear hl hl' hnm
    go_enter Tryd.func79, Tryd.ntmps79
    go_wp2
    go_ret
    exact ypost_false HD.out (Below.refl _ _)
def sameClsRel (w : World) (l l' : List (List UInt8)) (si : Value) (wr : World) : Prop := ∃ k : Nat, k ≤ l.length ∧ si = .int .i64 (k : Int) ∧ (l).take k = (l').take k ∧ Below w.heap.size w wr
set_option maxRecDepth 100000 in
set_option maxHeartbeats 1000000 in
theorem sameCls_any (A B : Option Addr) (n m c d : Nat) (l l' : List (List UInt8)) (w : World) (ha : Reads w w.heap.size 1 A n (l.map strV)) (hl : l.length = n) (hb : Reads w w.heap.size 1 B m (l'.map strV)) (hl' : l'.length = m)
    (hn : n ≤ 1099511627776) :
    Calls Tryd.prog 54 #[.slice A n c, .slice B m d] w (YPost w (l = l')) := by
  have hd : (1 : Int) ≤ (n : Int) - 0 + 1 := by omega
  clear hd
  by_cases hnm : n = m
  · subst hnm
    have HL := Lib.hid hl
    have HL' := Lib.hid hl'
    clear hl hl'
    go_enter Tryd.func54, Tryd.ntmps54
    go_wp2
    go_loopw [5] (fun si wr => sameClsRel w l l' si wr) (fun si _ => n - (intOf si).toNat)
    case atStart => exact ⟨0, Nat.zero_le _, rfl, rfl, Below.refl _ _⟩
    case round =>
      obtain ⟨k, hk, rfl, htake, hbr⟩ := hrel
      have HTK := Lib.hid htake
      have HBR := Lib.hid hbr
      clear htake
      by_cases hlt : k < n
      · have hk1 : k < l.length := by have := HL.out; omega
        have hk2 : k < l'.length := by have := HL'.out; omega
        obtain ⟨x, hx⟩ : ∃ x, x = l[k] := ⟨_, rfl⟩
        obtain ⟨y, hy⟩ : ∃ y, y = l'[k] := ⟨_, rfl⟩
        have hxe : l[k]? = some x := by rw [hx]; exact List.getElem?_eq_getElem hk1
        have hye : l'[k]? = some y := by rw [hy]; exact List.getElem?_eq_getElem hk2
        obtain ⟨ad, u, rfl, had, hu, q0⟩ := (ha.below hbr).at_ (k := k) hlt
        rw [List.getElem?_map, hxe] at hu
        obtain rfl : strV x = u := by simpa using hu
        obtain ⟨bd, u, rfl, hbd, hu, r0⟩ := (hb.below hbr).at_ (k := k) hlt
        rw [List.getElem?_map, hye] at hu
        obtain rfl : strV y = u := by simpa using hu
        unfold strV at q0 r0
        obtain ⟨qx, hqx⟩ : ∃ q, q = (⟨x.toArray⟩ : ByteArray) := ⟨_, rfl⟩
        obtain ⟨qy, hqy⟩ : ∃ q, q = (⟨y.toArray⟩ : ByteArray) := ⟨_, rfl⟩
        rw [← hqx] at q0
        rw [← hqy] at r0
        have HQX : Hid (qx.toList = x) := Lib.hid (by rw [hqx]; exact toList_mk _)
        have HQY : Hid (qy.toList = y) := Lib.hid (by rw [hqy]; exact toList_mk _)
        clear hqx hqy
        have HXE := Lib.hid hxe
        have HYE := Lib.hid hye
        clear hx hy hxe hye
        have k0 : (0 : Int) ≤ k := by omega
        have kn : (k : Int) < n := by omega
        clear hbr
        go_wp2_with fail
        go_region_held3 (fun w' => w'.cell? (ad.add k) = some (.string qx) ∧ w'.cell? (bd.add k) = some (.string qy)) (first | go_keep | exact HS.out) ((go_at_call 68; refine (sameCl_any qx qy x y HQX.out HQY.out _).mono ?_; rintro e w2 ⟨⟨b, rfl, hbb⟩, hb2⟩; have HBB := Lib.hid hbb; clear hbb; have HB2 : Hid (Below w.heap.size w w2) := Lib.hid (HBR.out.drew.trans (hb2.mono HBR.out.size)); have hz : w.heap.size ≤ wr.drew.heap.size := HBR.out.size; have HS := Lib.hid (show _ ∧ _ from ⟨(hb2.cell (p := (ad.add k)) (by rw [block_of_add]; omega)).trans q0, (hb2.cell (p := (bd.add k)) (by rw [block_of_add]; omega)).trans r0⟩)))
        cases b
        · go_wp2
          go_ret
          refine ypost_false (fun e => ?_) HB2.out
          have e2 := congrArg (fun z => z[k]?) e
          simp only [HXE.out, HYE.out] at e2
          exact absurd (HBB.out.2 (by simpa using e2)) (by decide)
        · have HXY := Lib.hid (HBB.out.1 rfl)
          go_wp2
          refine ⟨⟨k + 1, by omega, by go_num, ?_, HB2.out⟩, by simp [intOf]; omega⟩
          rw [List.take_add_one, List.take_add_one, HTK.out]
          simp [HXE.out, HYE.out, HXY.out]
      · have h := HTK.out
        rw [List.take_of_length_le (by have := HL.out; (try simp); omega), List.take_of_length_le (by have := HL'.out; (try simp); omega)] at h
        have HE := Lib.hid h
        clear h
        go_wp2
        go_ret
        exact ypost_true HE.out hbr
  · have hnm' : ((n : Int) == (m : Int)) = false := beq_eq_false_iff_ne.2 (by omega)
    have hnm2 : ((n : Int) != (m : Int)) = true := by rw [bne_iff_ne]; omega
    have HD : Hid (¬ l = l') := Lib.hid (by
      intro e
      apply hnm
      have := congrArg List.length e
      try simp at this
      omega)
    clear hl hl' hnm
    go_enter Tryd.func54, Tryd.ntmps54
    go_wp2
    go_ret
    exact ypost_false HD.out (Below.refl _ _)
set_option maxRecDepth 100000 in
set_option maxHeartbeats 1000000 in
theorem sameMt_any (x y : MV) (s1 s2 s3 t1 t2 t3 : ByteArray) (h1 : s1.toList = x.m.par) (h2 : s2.toList = x.m.loc) (h3 : s3.toList = x.m.ret) (g1 : t1.toList = y.m.par) (g2 : t2.toList = y.m.loc) (g3 : t3.toList = y.m.ret) (n m : Nat) (hn : n = x.m.code.length) (hm : m = y.m.code.length) (w : World)
    (ha : Reads w w.heap.size 4 x.A x.m.code.length (insL x.m.code)) (hb : Reads w w.heap.size 4 y.A y.m.code.length (insL y.m.code)) (hl : x.m.code.length ≤ 1099511627776) :
    Calls Tryd.prog 69 #[.agg #[.string s1, .string s2, .string s3, .slice x.A n x.c], .agg #[.string t1, .string t2, .string t3, .slice y.A m y.c]] w (YPost w (x.m = y.m)) := by
  have HB : Hid (∀ X Y, Below w.heap.size w ((w.alloc X).alloc Y)) := Lib.hid (fun X Y => ((Below.refl _ _).alloc (Nat.le_refl _) X).alloc (by simp) Y)
  have HS : Hid (∀ X Y, Calls Tryd.prog 79 #[.slice x.A n x.c, .slice y.A m y.c] ((w.alloc X).alloc Y) (YPost ((w.alloc X).alloc Y) (x.m.code = y.m.code))) := Lib.hid (fun X Y => by
    rw [hn, hm]
    exact sameIns_any x.A y.A _ _ x.c y.c x.m.code y.m.code _ ((ha.below (HB.out X Y)).more (by simp; omega)) rfl ((hb.below (HB.out X Y)).more (by simp; omega)) rfl hl)
  have HX : Hid (s1.toList = x.m.par ∧ s2.toList = x.m.loc ∧ s3.toList = x.m.ret ∧ t1.toList = y.m.par ∧ t2.toList = y.m.loc ∧ t3.toList = y.m.ret) := Lib.hid ⟨h1, h2, h3, g1, g2, g3⟩
  clear ha hb h1 h2 h3 g1 g2 g3 hl hn hm
  obtain ⟨W, hW⟩ : ∃ W, W = (w.alloc (.cells #[.string s1, .string s2, .string s3, .slice x.A n x.c] 54)).alloc (.cells #[.string t1, .string t2, .string t3, .slice y.A m y.c] 54) := ⟨_, rfl⟩
  have HK1 : Hid (Blk W w.heap.size 54 #[.string s1, .string s2, .string s3, .slice x.A n x.c]) := Lib.hid (by rw [hW]; exact (Blk.new _ _ _).alloc _)
  have HK2 : Hid (Blk W (w.heap.size + 1) 54 #[.string t1, .string t2, .string t3, .slice y.A m y.c]) := Lib.hid (by rw [hW]; have := Blk.new (w.alloc (.cells #[.string s1, .string s2, .string s3, .slice x.A n x.c] 54)) 54 #[.string t1, .string t2, .string t3, .slice y.A m y.c]; simpa using this)
  have HSW : Hid (Calls Tryd.prog 79 #[.slice x.A n x.c, .slice y.A m y.c] W (YPost W (x.m.code = y.m.code))) := Lib.hid (by rw [hW]; exact HS.out _ _)
  have HBW : Hid (Below w.heap.size w W) := Lib.hid (by rw [hW]; exact HB.out _ _)
  go_enter Tryd.func69, Tryd.ntmps69
  go_wp2_with fail
  rw [← hW]
  refine HSW.out.mono ?_
  rintro e w2 ⟨⟨b, rfl, hbb⟩, hb2⟩
  have HBB := Lib.hid hbb
  have HK1' := HK1.out.below hb2 HK1.out.lt
  have HK2' := HK2.out.below hb2 HK2.out.lt
  have p0 : w2.cell? ⟨w.heap.size, 0, none⟩ = some (.string s1) := HK1'.cell 0
  have p1 : w2.cell? ⟨w.heap.size, 1, none⟩ = some (.string s2) := HK1'.cell 1
  have p2 : w2.cell? ⟨w.heap.size, 2, none⟩ = some (.string s3) := HK1'.cell 2
  have r0 : w2.cell? ⟨w.heap.size + 1, 0, none⟩ = some (.string t1) := HK2'.cell 0
  have r1 : w2.cell? ⟨w.heap.size + 1, 1, none⟩ = some (.string t2) := HK2'.cell 1
  have r2 : w2.cell? ⟨w.heap.size + 1, 2, none⟩ = some (.string t3) := HK2'.cell 2
  have HB2 : Hid (Below w.heap.size w w2) := Lib.hid (HBW.out.trans (hb2.mono HBW.out.size))
  clear hb2 hbb hW
  cases h1 : s1.toList == t1.toList
  · have HN : Hid (¬ x.m = y.m) := Lib.hid (by
      intro e
      obtain ⟨e1, e2, e3, f1, f2, f3⟩ := HX.out
      rw [e1, f1, e] at h1
      simp at h1)
    go_wp2
    go_ret
    exact ypost_false HN.out HB2.out
  cases h2 : s2.toList == t2.toList
  · have HN : Hid (¬ x.m = y.m) := Lib.hid (by
      intro e
      obtain ⟨e1, e2, e3, f1, f2, f3⟩ := HX.out
      rw [e2, f2, e] at h2
      simp at h2)
    go_wp2
    go_ret
    exact ypost_false HN.out HB2.out
  cases h3 : s3.toList == t3.toList
  · have HN : Hid (¬ x.m = y.m) := Lib.hid (by
      intro e
      obtain ⟨e1, e2, e3, f1, f2, f3⟩ := HX.out
      rw [e3, f3, e] at h3
      simp at h3)
    go_wp2
    go_ret
    exact ypost_false HN.out HB2.out
  have HN : Hid (b = true ↔ x.m = y.m) := Lib.hid (by
    rw [HBB.out]
    obtain ⟨e1, e2, e3, f1, f2, f3⟩ := HX.out
    simp at h1 h2 h3
    refine Iff.intro (fun e => ?_) (fun e => by rw [e])
    have k1 : x.m.par = y.m.par := by rw [← e1, h1, f1]
    have k2 : x.m.loc = y.m.loc := by rw [← e2, h2, f2]
    have k3 : x.m.ret = y.m.ret := by rw [← e3, h3, f3]
    revert k1 k2 k3 e
    cases x.m
    cases y.m
    simp
    intros
    simp_all)
  go_wp2
  go_ret
  exact ⟨⟨_, rfl, HN.out⟩, HB2.out⟩
def sameMsRel (w : World) (l l' : List MV) (si : Value) (wr : World) : Prop := ∃ k : Nat, k ≤ l.length ∧ si = .int .i64 (k : Int) ∧ (l.map (·.m)).take k = (l'.map (·.m)).take k ∧ Below w.heap.size w wr
set_option maxRecDepth 100000 in
set_option maxHeartbeats 2000000 in
theorem sameMs_any (A B : Option Addr) (n m c d : Nat) (l l' : List MV) (w : World) (ha : Reads w w.heap.size 4 A n (l.flatMap mvC)) (hl : l.length = n) (hb : Reads w w.heap.size 4 B m (l'.flatMap mvC)) (hl' : l'.length = m)
    (hn : n ≤ 1099511627776)
    (hcx : ∀ x ∈ l, Reads w w.heap.size 4 x.A x.m.code.length (insL x.m.code) ∧ x.m.code.length ≤ 1099511627776) (hcy : ∀ x ∈ l', Reads w w.heap.size 4 x.A x.m.code.length (insL x.m.code) ∧ x.m.code.length ≤ 1099511627776) :
    Calls Tryd.prog 55 #[.slice A n c, .slice B m d] w (YPost w (l.map (·.m) = l'.map (·.m))) := by
  have hd : (1 : Int) ≤ (n : Int) - 0 + 1 := by omega
  clear hd
  by_cases hnm : n = m
  · subst hnm
    have HL := Lib.hid hl
    have HL' := Lib.hid hl'
    have HCx := Lib.hid hcx
    have HCy := Lib.hid hcy
    clear hcx hcy
    clear hl hl'
    go_enter Tryd.func55, Tryd.ntmps55
    go_wp2
    go_loopw [5] (fun si wr => sameMsRel w l l' si wr) (fun si _ => n - (intOf si).toNat)
    case atStart => exact ⟨0, Nat.zero_le _, rfl, rfl, Below.refl _ _⟩
    case round =>
      obtain ⟨k, hk, rfl, htake, hbr⟩ := hrel
      have HTK := Lib.hid htake
      have HBR := Lib.hid hbr
      clear htake
      by_cases hlt : k < n
      · have hk1 : k < l.length := by have := HL.out; omega
        have hk2 : k < l'.length := by have := HL'.out; omega
        obtain ⟨x, hx⟩ : ∃ x, x = l[k] := ⟨_, rfl⟩
        obtain ⟨y, hy⟩ : ∃ y, y = l'[k] := ⟨_, rfl⟩
        have hxe : l[k]? = some x := by rw [hx]; exact List.getElem?_eq_getElem hk1
        have hye : l'[k]? = some y := by rw [hy]; exact List.getElem?_eq_getElem hk2
        obtain ⟨ad, rfl, had, q0, q1, q2, q3⟩ := (ha.below hbr).four mvC_len hxe rfl
        unfold strV at q0 q1 q2
        obtain ⟨x0, hx0⟩ : ∃ q, q = (⟨x.m.par.toArray⟩ : ByteArray) := ⟨_, rfl⟩
        rw [← hx0] at q0
        have HX0 : Hid (x0.toList = x.m.par) := Lib.hid (by rw [hx0]; exact toList_mk _)
        clear hx0
        obtain ⟨x1, hx1⟩ : ∃ q, q = (⟨x.m.loc.toArray⟩ : ByteArray) := ⟨_, rfl⟩
        rw [← hx1] at q1
        have HX1 : Hid (x1.toList = x.m.loc) := Lib.hid (by rw [hx1]; exact toList_mk _)
        clear hx1
        obtain ⟨x2, hx2⟩ : ∃ q, q = (⟨x.m.ret.toArray⟩ : ByteArray) := ⟨_, rfl⟩
        rw [← hx2] at q2
        have HX2 : Hid (x2.toList = x.m.ret) := Lib.hid (by rw [hx2]; exact toList_mk _)
        clear hx2
        obtain ⟨nx, hnx⟩ : ∃ q, q = x.m.code.length := ⟨_, rfl⟩
        rw [← hnx] at q3
        have HNX := Lib.hid hnx
        clear hnx
        have HCX : Hid (Reads wr.drew wr.drew.heap.size 4 x.A x.m.code.length (insL x.m.code)) := Lib.hid (((HCx.out x (List.mem_of_getElem? hxe)).1.below hbr.drew).more hbr.drew.size)
        obtain ⟨bd, rfl, hbd, r0, r1, r2, r3⟩ := (hb.below hbr).four mvC_len hye rfl
        unfold strV at r0 r1 r2
        obtain ⟨y0, hy0⟩ : ∃ q, q = (⟨y.m.par.toArray⟩ : ByteArray) := ⟨_, rfl⟩
        rw [← hy0] at r0
        have HY0 : Hid (y0.toList = y.m.par) := Lib.hid (by rw [hy0]; exact toList_mk _)
        clear hy0
        obtain ⟨y1, hy1⟩ : ∃ q, q = (⟨y.m.loc.toArray⟩ : ByteArray) := ⟨_, rfl⟩
        rw [← hy1] at r1
        have HY1 : Hid (y1.toList = y.m.loc) := Lib.hid (by rw [hy1]; exact toList_mk _)
        clear hy1
        obtain ⟨y2, hy2⟩ : ∃ q, q = (⟨y.m.ret.toArray⟩ : ByteArray) := ⟨_, rfl⟩
        rw [← hy2] at r2
        have HY2 : Hid (y2.toList = y.m.ret) := Lib.hid (by rw [hy2]; exact toList_mk _)
        clear hy2
        obtain ⟨ny, hny⟩ : ∃ q, q = y.m.code.length := ⟨_, rfl⟩
        rw [← hny] at r3
        have HNY := Lib.hid hny
        clear hny
        have HCY : Hid (Reads wr.drew wr.drew.heap.size 4 y.A y.m.code.length (insL y.m.code)) := Lib.hid (((HCy.out y (List.mem_of_getElem? hye)).1.below hbr.drew).more hbr.drew.size)
        have HCB := Lib.hid (HCx.out x (List.mem_of_getElem? hxe)).2
        have HXE := Lib.hid hxe
        have HYE := Lib.hid hye
        clear hx hy hxe hye
        have k0 : (0 : Int) ≤ k := by omega
        have kn : (k : Int) < n := by omega
        clear hbr
        go_wp2_with fail
        go_region_held3 (fun w' => w'.cell? (ad.add (k * 4)) = some (.string x0) ∧ w'.cell? ⟨(ad.add (k * 4)).block, (ad.add (k * 4)).off + 1, none⟩ = some (.string x1) ∧ w'.cell? ⟨(ad.add (k * 4)).block, (ad.add (k * 4)).off + 2, none⟩ = some (.string x2) ∧ w'.cell? ⟨(ad.add (k * 4)).block, (ad.add (k * 4)).off + 3, none⟩ = some (.slice x.A nx x.c) ∧ w'.cell? (bd.add (k * 4)) = some (.string y0) ∧ w'.cell? ⟨(bd.add (k * 4)).block, (bd.add (k * 4)).off + 1, none⟩ = some (.string y1) ∧ w'.cell? ⟨(bd.add (k * 4)).block, (bd.add (k * 4)).off + 2, none⟩ = some (.string y2) ∧ w'.cell? ⟨(bd.add (k * 4)).block, (bd.add (k * 4)).off + 3, none⟩ = some (.slice y.A ny y.c)) (first | go_keep | exact HS.out) ((go_at_call 69; refine (sameMt_any x y x0 x1 x2 y0 y1 y2 HX0.out HX1.out HX2.out HY0.out HY1.out HY2.out nx ny HNX.out HNY.out _ HCX.out HCY.out HCB.out).mono ?_; rintro e w2 ⟨⟨b, rfl, hbb⟩, hb2⟩; have HBB := Lib.hid hbb; clear hbb; have HB2 : Hid (Below w.heap.size w w2) := Lib.hid (HBR.out.drew.trans (hb2.mono HBR.out.size)); have hz : w.heap.size ≤ wr.drew.heap.size := HBR.out.size; have HS := Lib.hid (show _ ∧ _ ∧ _ ∧ _ ∧ _ ∧ _ ∧ _ ∧ _ from ⟨(hb2.cell (p := (ad.add (k * 4))) (by rw [block_of_add]; omega)).trans q0, (hb2.cell (p := ⟨(ad.add (k * 4)).block, (ad.add (k * 4)).off + 1, none⟩) (by simp only [block_of_add]; omega)).trans q1, (hb2.cell (p := ⟨(ad.add (k * 4)).block, (ad.add (k * 4)).off + 2, none⟩) (by simp only [block_of_add]; omega)).trans q2, (hb2.cell (p := ⟨(ad.add (k * 4)).block, (ad.add (k * 4)).off + 3, none⟩) (by simp only [block_of_add]; omega)).trans q3, (hb2.cell (p := (bd.add (k * 4))) (by rw [block_of_add]; omega)).trans r0, (hb2.cell (p := ⟨(bd.add (k * 4)).block, (bd.add (k * 4)).off + 1, none⟩) (by simp only [block_of_add]; omega)).trans r1, (hb2.cell (p := ⟨(bd.add (k * 4)).block, (bd.add (k * 4)).off + 2, none⟩) (by simp only [block_of_add]; omega)).trans r2, (hb2.cell (p := ⟨(bd.add (k * 4)).block, (bd.add (k * 4)).off + 3, none⟩) (by simp only [block_of_add]; omega)).trans r3⟩)))
        cases b
        · go_wp2
          go_ret
          refine ypost_false (fun e => ?_) HB2.out
          have e2 := congrArg (fun z => z[k]?) e
          simp only [List.getElem?_map, HXE.out, HYE.out] at e2
          exact absurd (HBB.out.2 (by simpa using e2)) (by decide)
        · have HXY := Lib.hid (HBB.out.1 rfl)
          go_wp2
          refine ⟨⟨k + 1, by omega, by go_num, ?_, HB2.out⟩, by simp [intOf]; omega⟩
          rw [List.take_add_one, List.take_add_one, HTK.out]
          simp [HXE.out, HYE.out, HXY.out]
      · have h := HTK.out
        rw [List.take_of_length_le (by have := HL.out; (try simp); omega), List.take_of_length_le (by have := HL'.out; (try simp); omega)] at h
        have HE := Lib.hid h
        clear h
        go_wp2
        go_ret
        exact ypost_true HE.out hbr
  · have hnm' : ((n : Int) == (m : Int)) = false := beq_eq_false_iff_ne.2 (by omega)
    have hnm2 : ((n : Int) != (m : Int)) = true := by rw [bne_iff_ne]; omega
    have HD : Hid (¬ l.map (·.m) = l'.map (·.m)) := Lib.hid (by
      intro e
      apply hnm
      have := congrArg List.length e
      try simp at this
      omega)
    clear hl hl' hnm hcx hcy
    go_enter Tryd.func55, Tryd.ntmps55
    go_wp2
    go_ret
    exact ypost_false HD.out (Below.refl _ _)
set_option maxRecDepth 100000 in
set_option maxHeartbeats 1000000 in
theorem sameProg_any (p q : PV) (w : World) (hp : PAt w w.heap.size p) (hq : PAt w w.heap.size q) (h1 : p.cls.length ≤ 1099511627776) (h2 : p.ms.length ≤ 1099511627776)
    (h3 : ∀ x ∈ p.ms, x.m.code.length ≤ 1099511627776) (h4 : ∀ x ∈ q.ms, x.m.code.length ≤ 1099511627776) :
    Calls Tryd.prog 19 #[p.val, q.val] w (YPost w (p.prg = q.prg)) := by
  obtain ⟨N1, hN1⟩ : ∃ n, n = p.cls.length := ⟨_, rfl⟩
  obtain ⟨N2, hN2⟩ : ∃ n, n = p.ms.length := ⟨_, rfl⟩
  obtain ⟨M1, hM1⟩ : ∃ n, n = q.cls.length := ⟨_, rfl⟩
  obtain ⟨M2, hM2⟩ : ∃ n, n = q.ms.length := ⟨_, rfl⟩
  unfold PV.val
  rw [← hN1, ← hN2, ← hM1, ← hM2]
  obtain ⟨W, hW⟩ : ∃ W, W = (w.alloc (.cells #[.slice p.A N1 p.c, .slice p.B N2 p.d] 25)).alloc (.cells #[.slice q.A M1 q.c, .slice q.B M2 q.d] 25) := ⟨_, rfl⟩
  have HK1 : Hid (Blk W w.heap.size 25 #[.slice p.A N1 p.c, .slice p.B N2 p.d]) := Lib.hid (by rw [hW]; exact (Blk.new _ _ _).alloc _)
  have HK2 : Hid (Blk W (w.heap.size + 1) 25 #[.slice q.A M1 q.c, .slice q.B M2 q.d]) := Lib.hid (by rw [hW]; have := Blk.new (w.alloc (.cells #[.slice p.A N1 p.c, .slice p.B N2 p.d] 25)) 25 #[.slice q.A M1 q.c, .slice q.B M2 q.d]; simpa using this)
  have HBW : Hid (Below w.heap.size w W) := Lib.hid (by rw [hW]; exact ((Below.refl _ _).alloc (Nat.le_refl _) _).alloc (by simp) _)
  have HC : Hid (∀ w2, Below w.heap.size w w2 → Calls Tryd.prog 54 #[.slice p.A N1 p.c, .slice q.A M1 q.c] w2 (YPost w2 (p.cls = q.cls))) := Lib.hid (fun w2 hb => by
    rw [hN1, hM1]
    exact sameCls_any p.A q.A _ _ p.c q.c p.cls q.cls w2 ((hp.cls.below hb).more hb.size) rfl ((hq.cls.below hb).more hb.size) rfl h1)
  have HM : Hid (∀ w2, Below w.heap.size w w2 → Calls Tryd.prog 55 #[.slice p.B N2 p.d, .slice q.B M2 q.d] w2 (YPost w2 (p.ms.map (·.m) = q.ms.map (·.m)))) := Lib.hid (fun w2 hb => by
    rw [hN2, hM2]
    exact sameMs_any p.B q.B _ _ p.d q.d p.ms q.ms w2 ((hp.ms.below hb).more hb.size) rfl ((hq.ms.below hb).more hb.size) rfl h2
      (fun x hx => ⟨((hp.code x hx).below hb).more hb.size, h3 x hx⟩) (fun x hx => ⟨((hq.code x hx).below hb).more hb.size, h4 x hx⟩))
  clear hp hq h1 h2 h3 h4 hN1 hN2 hM1 hM2
  go_enter Tryd.func19, Tryd.ntmps19
  go_wp2_with fail
  rw [← hW]
  clear hW
  refine (HC.out _ HBW.out).mono ?_
  rintro e w2 ⟨⟨b, rfl, hbb⟩, hb2⟩
  have HBB := Lib.hid hbb
  have HK1' := HK1.out.below hb2 HK1.out.lt
  have HK2' := HK2.out.below hb2 HK2.out.lt
  have p1 : w2.cell? ⟨w.heap.size, 1, none⟩ = some (.slice p.B N2 p.d) := HK1'.cell 1
  have r1 : w2.cell? ⟨w.heap.size + 1, 1, none⟩ = some (.slice q.B M2 q.d) := HK2'.cell 1
  have g1 : w.heap.size < w2.heap.size := HK1'.lt
  have g2 : w.heap.size + 1 < w2.heap.size := HK2'.lt
  have HB2 : Hid (Below w.heap.size w w2) := Lib.hid (HBW.out.trans (hb2.mono HBW.out.size))
  clear hb2 hbb HK1' HK2'
  go_wp2_with fail
  refine (HM.out _ HB2.out).mono ?_
  rintro e w3 ⟨⟨b', rfl, hbb'⟩, hb3⟩
  have HBB' := Lib.hid hbb'
  have HB3 : Hid (Below w.heap.size w w3) := Lib.hid (HB2.out.trans (hb3.mono HB2.out.size))
  have HN : Hid (b = true ∧ b' = true ↔ p.prg = q.prg) := Lib.hid (by
    rw [HBB.out, HBB'.out]
    unfold PV.prg
    exact Iff.intro (fun h => by rw [h.1, h.2]) (fun h => by injection h with h1 h2; exact ⟨h1, h2⟩))
  clear hbb' hb3 p1 r1 g1 g2
  cases b
  · go_wp2
    go_ret
    exact ypost_false (fun h => absurd (HN.out.2 h).1 (by decide)) HB3.out
  · cases b'
    · go_wp2
      go_ret
      exact ypost_false (fun h => absurd (HN.out.2 h).2 (by decide)) HB3.out
    · go_wp2
      go_ret
      exact ypost_true (HN.out.1 (by simp)) HB3.out
end Go.Proofs.YtnojejplckhifaaDoor
