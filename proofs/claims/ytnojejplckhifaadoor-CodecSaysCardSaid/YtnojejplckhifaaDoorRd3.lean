/- The contracts of the reader's whole and number. -/
import Derived.Test.YtnojejplckhifaaDoorRd2
namespace Go.Proofs.YtnojejplckhifaaDoor
open Go.RowKit
set_option linter.unusedVariables false

theorem take_some (A : Option Addr) (n c at_ : Nat) (l : List Nat) (u nx : Nat) (w : World) (ha : Reads w w.heap.size 1 A n (l.map bv)) (hb : ∀ x ∈ l, x < 256) (hn : n ≤ 1048576) (h : tk l (at_ : Int) = some (u, nx)) :
    Calls Tryd.prog 76 #[.slice A n c, .int .i64 (at_ : Int)] w fun e w' => e = .returned (.tuple #[.int .u64 (u : Int), .int .i64 (nx : Int), .bool true]) ∧ w' = w := by
  refine (take_any A n c at_ l w ha hb hn).mono ?_
  rintro e w' ⟨rfl, rfl⟩
  rw [h]
  exact ⟨rfl, rfl⟩
theorem take_none_ (A : Option Addr) (n c at_ : Nat) (l : List Nat) (w : World) (ha : Reads w w.heap.size 1 A n (l.map bv)) (hb : ∀ x ∈ l, x < 256) (hn : n ≤ 1048576) (h : tk l (at_ : Int) = none) :
    Calls Tryd.prog 76 #[.slice A n c, .int .i64 (at_ : Int)] w fun e w' => e = .returned (.tuple #[.int .u64 0, .int .i64 0, .bool false]) ∧ w' = w := by
  refine (take_any A n c at_ l w ha hb hn).mono ?_
  rintro e w' ⟨rfl, rfl⟩
  rw [h]
  exact ⟨rfl, rfl⟩
def WhRel (w : World) (g : Nat) (B : Option Addr) (n c : Nat) (l : List Nat) (ad : Nat → Addr) (a : Nat) (si : Value) (wr : World) : Prop :=
  ∃ k : Nat, k ≤ 10 ∧ a + k ≤ n ∧ si = .int .i64 ((a + k : Nat) : Int) ∧ (∀ x ∈ (l.drop a).take k, 128 ≤ x) ∧ RdAt wr g B n c ad ⟨a, none⟩ ∧ But g w wr
theorem tk_bound {l : List Nat} {a u nx : Nat} (h : tk l (a : Int) = some (u, nx)) : nx ≤ l.length := tk_le h
theorem shortB_false1 {l : List Nat} {a k x : Nat} (hx : l[a + k]? = some x) (hlow : x < 128) : shortB l a = false := by
  unfold shortB
  rw [Bool.and_eq_false_iff]
  right
  rw [List.all_eq_false]
  refine ⟨x, ?_, by simpa using hlow⟩
  have : (l.drop a)[k]? = some x := by rw [List.getElem?_drop]; exact hx
  exact List.mem_of_getElem? this
theorem shortB_false2 {l : List Nat} {a : Nat} (h : a + 10 ≤ l.length) : shortB l a = false := by
  unfold shortB
  rw [Bool.and_eq_false_iff]
  left
  simpa using h
theorem shortB_true {l : List Nat} {a k : Nat} (hk : k < 10) (hl : a + k = l.length) (h : ∀ x ∈ (l.drop a).take k, 128 ≤ x) : shortB l a = true := by
  unfold shortB
  rw [Bool.and_eq_true]
  refine ⟨by simpa using (show l.length < a + 10 by omega), List.all_eq_true.2 fun x hx => ?_⟩
  rw [List.take_of_length_le (by simp; omega)] at h
  simpa using h x hx
set_option maxRecDepth 100000 in
set_option maxHeartbeats 1000000 in
theorem whole_any (g : Nat) (B : Option Addr) (n c : Nat) (l : List Nat) (ad : Nat → Addr) (s : RS) (w : World) (h : RdAt w g B n c ad s) (hE : Env w g B n c l ad) :
    Calls Tryd.prog 63 #[.pointer (some ⟨g, 0, none⟩)] w (RPost w g B n c ad (.int .u64 ((wholeR l s).1 : Int)) (wholeR l s).2) := by
  have HL := Lib.hid hE.len
  obtain ⟨ev, hblk, herr⟩ := h.blk
  have HH := Lib.hid h
  have HE := Lib.hid hE
  have c0 : w.cell? ⟨g, 0, none⟩ = some (.slice B n c) := hblk.cell 0
  have c1 : w.cell? ⟨g, 1, none⟩ = some (.int .i64 (s.at_ : Int)) := hblk.cell 1
  have c2 : w.cell? ⟨g, 2, none⟩ = some ev := hblk.cell 2
  have hlt := hblk.lt
  have hle := h.le
  have hn := hE.hn
  obtain ⟨a, er⟩ := s
  simp only [] at c1 herr hle
  cases er with
  | some kp =>
    obtain ⟨p, he, hp, hpb⟩ := herr
    subst he
    have HR : Hid (wholeR l ⟨a, some kp⟩ = (0, ⟨a, some kp⟩)) := Lib.hid rfl
    clear hblk h hE hp hpb hle
    go_enter Tryd.func63, Tryd.ntmps63
    go_wp2
    go_ret
    rw [HR.out]
    exact ⟨rfl, HH.out, But.refl⟩
  | none =>
    have he : ev = .nilIface := herr
    subst he
    have HRD : Hid (Reads w w.heap.size 1 B n (l.map bv)) := Lib.hid (hE.reads.more (Nat.le_of_lt hE.lt))
    have f1 : w.frozen? ⟨g, 1, none⟩ = false := hblk.frozen 1
    clear herr
    cases hk : tk l (a : Int) with
    | some p =>
      obtain ⟨u, nx⟩ := p
      have HK := Lib.hid hk
      have hnx : nx ≤ n := by rw [← HL.out]; exact tk_bound hk
      have HR : Hid (wholeR l ⟨a, none⟩ = (u, ⟨nx, none⟩)) := Lib.hid (by simp [wholeR, hk])
      clear hblk h hE hk
      go_enter Tryd.func63, Tryd.ntmps63
      go_wp2
      go_quiet ((refine Calls.quiet_of_same (take_some B n c a l u nx _ (by exact HRD.out) HE.out.byte (by omega) HK.out)))
      obtain ⟨V, hV⟩ : ∃ V, V = w.drewN nq := ⟨_, rfl⟩
      rw [← hV]
      have HVR : Hid (RdAt V g B n c ad ⟨a, none⟩ ∧ But g w V) := Lib.hid (by rw [hV]; exact ⟨HH.out.drewN nq, But.refl.drewN nq⟩)
      clear hV c0 c1 c2 f1
      have c1 := HVR.out.1.c1
      have f1 := HVR.out.1.f1
      go_wp2
      go_ret
      rw [HR.out]
      exact ⟨rfl, HVR.out.1.step rfl nx hnx, HVR.out.2.setCell 1 _⟩
    | none =>
      have HK := Lib.hid hk
      have HRX : Hid (wholeR l ⟨a, none⟩ = (0, failR ⟨a, none⟩ (if shortB l a = true then 5 else 6) (if shortB l a = true then n else a))) := Lib.hid (by
        simp only [wholeR, hk, failR]
        rw [HL.out]
        cases shortB l a <;> rfl)
      clear hblk h hE hk
      go_enter Tryd.func63, Tryd.ntmps63
      go_wp2
      go_quiet ((refine Calls.quiet_of_same (take_none_ B n c a l _ (by exact HRD.out) HE.out.byte (by omega) HK.out)))
      obtain ⟨V, hV⟩ : ∃ V, V = w.drewN nq := ⟨_, rfl⟩
      rw [← hV]
      have HVR : Hid (RdAt V g B n c ad ⟨a, none⟩ ∧ But g w V) := Lib.hid (by rw [hV]; exact ⟨HH.out.drewN nq, But.refl.drewN nq⟩)
      clear hV c0 c1 c2 f1
      have c1 := HVR.out.1.c1
      go_wp2_with fail
      go_loopw [6] (fun si wr => WhRel w g B n c l ad a si wr) (fun si _ => 2 * n - (intOf si).toNat)
      case atStart => exact ⟨0, by omega, by omega, rfl, by simp, HVR.out.1, HVR.out.2⟩
      case round =>
        obtain ⟨k, hk, hkn, rfl, hall, hrd, hbt⟩ := hrel
        have HA := Lib.hid hall
        have HRR := Lib.hid hrd
        have HBR := Lib.hid hbt
        clear hall hrd hbt
        have c0 := HRR.out.c0
        have c1 := HRR.out.c1
        by_cases h10 : k = 10
        · have t1 : decide (((a + k : Nat) : Int) < (a : Int) + 10) = false := by simp; omega
          have t1b : decide ((a : Int) + (k : Int) < (a : Int) + 10) = false := by simp; omega
          have h10' : 10 ≤ k := by omega
          have HS : Hid (shortB l a = false) := Lib.hid (shortB_false2 (by have := HL.out; omega))
          have HR : Hid (wholeR l ⟨a, none⟩ = (0, failR ⟨a, none⟩ 6 a)) := Lib.hid (by rw [HRX.out, HS.out]; rfl)
          clear h10 HS HRX
          have hEV := HE.out.but HBR.out
          have c1 := HRR.out.c1
          have eb := hEV.eb
          have HEV := Lib.hid hEV
          have hb1 : 1 < wr.heap.size := by have := hEV.big; have := hEV.lt; omega
          have hb2 : g < wr.heap.size := hEV.lt
          clear hEV
          go_wp2_with fail
          go_region_held3 (fun w' => w'.cell? ⟨g, 1, none⟩ = some (.int .i64 (a : Int)) ∧ w'.cell? ⟨1, 0, none⟩ = some (.iface 147 (.pointer (some (ad 6))))) (go_keep) ((go_at_call 46; refine (fail_any g B n c ad ⟨a, none⟩ 6 a _ HRR.out.drew).mono ?_; rintro e w2 ⟨rfl, hr2, hb2⟩; have HR2 := Lib.hid hr2; have HB2 : Hid (But g wr w2) := Lib.hid (But.refl.drew.trans hb2); have c1'' := HR2.out.c1; rw [failR_at] at c1''; have eb' := (HEV.out.but HB2.out).eb))
          all_goals go_wp2
          all_goals go_ret
          all_goals rw [HR.out]
          all_goals exact ⟨rfl, HR2.out, HBR.out.trans HB2.out⟩
        · have t1 : decide (((a + k : Nat) : Int) < (a : Int) + 10) = true := by simp; omega
          by_cases hend : a + k = n
          · have t2 : decide ((n : Int) ≤ ((a + k : Nat) : Int)) = true := by simp; omega
            have t2b : decide ((n : Int) ≤ (a : Int) + (k : Int)) = true := by simp; omega
            have hend' : n ≤ a + k := by omega
            have HS : Hid (shortB l a = true) := Lib.hid (shortB_true (k := k) (by omega) (by have := HL.out; omega) HA.out)
            have HR : Hid (wholeR l ⟨a, none⟩ = (0, failR ⟨a, none⟩ 5 n)) := Lib.hid (by rw [HRX.out, HS.out]; rfl)
            clear HS HRX hend
            have hEV := HE.out.but HBR.out
            have ee := hEV.ee
            have HEV := Lib.hid hEV
            have hb1 : 3 < wr.heap.size := by have := hEV.big; have := hEV.lt; omega
            have hb2 : g < wr.heap.size := hEV.lt
            clear hEV
            go_wp2_with fail
            go_region_held3 (fun w' => w'.cell? ⟨g, 0, none⟩ = some (.slice B n c) ∧ w'.cell? ⟨3, 0, none⟩ = some (.iface 147 (.pointer (some (ad 5))))) (go_keep) ((go_at_call 46; refine (fail_any g B n c ad ⟨a, none⟩ 5 n _ HRR.out.drew).mono ?_; rintro e w2 ⟨rfl, hr2, hb2⟩; have HR2 := Lib.hid hr2; have HB2 : Hid (But g wr w2) := Lib.hid (But.refl.drew.trans hb2); have c0'' := HR2.out.c0; have ee' := (HEV.out.but HB2.out).ee))
            all_goals go_wp2
            all_goals go_ret
            all_goals rw [HR.out]
            all_goals exact ⟨rfl, HR2.out, HBR.out.trans HB2.out⟩
          · have t2 : decide ((n : Int) ≤ ((a + k : Nat) : Int)) = false := by simp; omega
            have hin : a + k < n := by omega
            obtain ⟨A, u, hA, hAb, hu, hcell⟩ := (HE.out.but HBR.out).reads.at_ hin
            rw [List.getElem?_map] at hu
            obtain ⟨x, hx, rfl⟩ := Option.map_eq_some_iff.1 hu
            have hx' : wr.cell? (A.add (a + k)) = some (.int .u8 (x : Int)) := hcell
            have HX := Lib.hid hx
            have hin' : ((a + k : Nat) : Int) < (n : Int) := by omega
            rw [hA] at c0
            clear hu hcell hx hA
            by_cases hlow : x < 128
            · have t3 : decide ((x : Int) < 128) = true := by simp; omega
              have t3' : decide (x < 128) = true := by simpa using hlow
              have HS : Hid (shortB l a = false) := Lib.hid (shortB_false1 HX.out hlow)
              have HR : Hid (wholeR l ⟨a, none⟩ = (0, failR ⟨a, none⟩ 6 a)) := Lib.hid (by rw [HRX.out, HS.out]; rfl)
              clear HS HRX
              have hEV := HE.out.but HBR.out
              have eb := hEV.eb
              have HEV := Lib.hid hEV
              have hb1 : 1 < wr.heap.size := by have := hEV.big; have := hEV.lt; omega
              have hb2 : g < wr.heap.size := hEV.lt
              clear hEV
              go_wp2_with fail
              go_region_held3 (fun w' => w'.cell? ⟨g, 1, none⟩ = some (.int .i64 (a : Int)) ∧ w'.cell? ⟨1, 0, none⟩ = some (.iface 147 (.pointer (some (ad 6))))) (go_keep) ((go_at_call 46; refine (fail_any g B n c ad ⟨a, none⟩ 6 a _ HRR.out.drew).mono ?_; rintro e w2 ⟨rfl, hr2, hb2⟩; have HR2 := Lib.hid hr2; have HB2 : Hid (But g wr w2) := Lib.hid (But.refl.drew.trans hb2); have c1'' := HR2.out.c1; rw [failR_at] at c1''; have eb' := (HEV.out.but HB2.out).eb))
              all_goals go_wp2
              all_goals go_ret
              all_goals rw [HR.out]
              all_goals exact ⟨rfl, HR2.out, HBR.out.trans HB2.out⟩
            · have t3 : decide ((x : Int) < 128) = false := by simp; omega
              have t3' : decide (x < 128) = false := by simpa using hlow
              go_wp2
              refine ⟨⟨k + 1, by omega, by omega, by go_num, ?_, HRR.out, HBR.out⟩, by simp [intOf]; omega⟩
              intro y hy
              rw [List.take_add_one] at hy
              rcases List.mem_append.1 hy with hy | hy
              · exact HA.out y hy
              · rw [List.getElem?_drop, HX.out] at hy
                simp at hy
                omega
set_option maxRecDepth 100000 in
set_option maxHeartbeats 1000000 in
theorem number_any (least greatest : Nat) (hg : greatest ≤ 1048576) (hlo : least ≤ 1048576) (g : Nat) (B : Option Addr) (n c : Nat) (l : List Nat) (ad : Nat → Addr) (s : RS) (w : World) (h : RdAt w g B n c ad s) (hE : Env w g B n c l ad) :
    Calls Tryd.prog 43 #[.pointer (some ⟨g, 0, none⟩), .int .i64 (least : Int), .int .i64 (greatest : Int)] w (RPost w g B n c ad (.int .i64 ((numberR l least greatest s).1 : Int)) (numberR l least greatest s).2) := by
  have HH := Lib.hid h
  have HE := Lib.hid hE
  have c1 := h.c1
  have hle := h.le
  have hn := hE.hn
  clear h hE
  go_enter Tryd.func43, Tryd.ntmps43
  obtain ⟨q, hq⟩ : ∃ q, q = wholeR l s := ⟨_, rfl⟩
  have HN : Hid (numberR l least greatest s = if greatest < q.1 ∨ q.1 < least then (0, failR q.2 6 s.at_) else q) := Lib.hid (by rw [hq]; rfl)
  have hw1 : IntKind.u64.wrap (greatest : Int) = (greatest : Int) := by rw [IntKind.wrap_u64]; omega
  have hw2 : IntKind.u64.wrap (least : Int) = (least : Int) := by rw [IntKind.wrap_u64]; omega
  go_wp2_with fail
  refine (whole_any g B n c l ad s _ HH.out HE.out).mono ?_
  rintro e w1 ⟨rfl, hr1, hb1⟩
  rw [← hq] at hr1 ⊢
  have HR1 := Lib.hid hr1
  have HB1 := Lib.hid hb1
  clear hr1 hb1 hq
  obtain ⟨u, hu⟩ : ∃ u, u = q.1 := ⟨_, rfl⟩
  rw [← hu] at HN ⊢
  have HU := Lib.hid hu
  clear hu
  have hle1 := HR1.out.le
  by_cases hbad : greatest < u ∨ u < least
  · have HR : Hid (numberR l least greatest s = (0, failR q.2 6 s.at_)) := Lib.hid (by rw [HN.out, if_pos hbad])
    have hEV := HE.out.but HB1.out
    have eb := hEV.eb
    have HEV := Lib.hid hEV
    have hb1 : 1 < w1.heap.size := by have := hEV.big; have := hEV.lt; omega
    have hb2 : g < w1.heap.size := hEV.lt
    clear hEV HN
    by_cases h1 : greatest < u
    · have t1 : decide ((greatest : Int) < (u : Int)) = true := by simpa using h1
      have t1' : decide (greatest < u) = true := by simpa using h1
      clear hbad
      go_wp2_with fail
      refine (fail_any g B n c ad q.2 6 s.at_ _ HR1.out).mono ?_
      rintro e w2 ⟨rfl, hr2, hb2⟩
      have HR2 := Lib.hid hr2
      have HB2 := Lib.hid hb2
      clear hr2 hb2
      go_wp2
      go_ret
      rw [HR.out]
      exact ⟨rfl, HR2.out, HB1.out.trans HB2.out⟩
    · have t1 : decide ((greatest : Int) < (u : Int)) = false := by simp; omega
      have t1' : decide (greatest < u) = false := by simpa using h1
      have t2 : decide ((u : Int) < (least : Int)) = true := by simp; omega
      have t2' : decide (u < least) = true := by simp; omega
      clear hbad
      go_wp2_with fail
      refine (fail_any g B n c ad q.2 6 s.at_ _ HR1.out).mono ?_
      rintro e w2 ⟨rfl, hr2, hb2⟩
      have HR2 := Lib.hid hr2
      have HB2 := Lib.hid hb2
      clear hr2 hb2
      go_wp2
      go_ret
      rw [HR.out]
      exact ⟨rfl, HR2.out, HB1.out.trans HB2.out⟩
  · have HR : Hid (numberR l least greatest s = q) := Lib.hid (by rw [HN.out, if_neg hbad])
    have t1 : decide ((greatest : Int) < (u : Int)) = false := by simp; omega
    have t1' : decide (greatest < u) = false := by simp; omega
    have t2 : decide ((u : Int) < (least : Int)) = false := by simp; omega
    have t2' : decide (u < least) = false := by simp; omega
    have hw3 : IntKind.i64.wrap (u : Int) = (u : Int) := by rw [IntKind.wrap_i64]; omega
    clear hbad HN
    go_wp2
    go_ret
    rw [HR.out]
    exact ⟨by rw [← HU.out]; rfl, HR1.out, HB1.out⟩
end Go.Proofs.YtnojejplckhifaaDoor
