/- The contract of script.Parse. -/
import Derived.Test.YtomabogjoampnaaDoorParse0
import Derived.Test.YtomabogjoampnaaDoorFirstS
namespace Go.Proofs.YtomabogjoampnaaDoor
open Go.RowKit
set_option linter.unusedVariables false

def PsMeas (n g : Nat) (wr : World) : Nat := match wr.cell? ⟨g, 1, none⟩, wr.cell? ⟨g, 2, none⟩ with
  | some (.int _ a), some .nilIface => n - a.toNat + 1
  | _, _ => 0
theorem meas_good {w : World} {g n c a m : Nat} {B : Option Addr} (h : Rdr w g B n c a .nilIface) : PsMeas m g w = m - a + 1 := by
  have h1 : w.cell? ⟨g, 1, none⟩ = some (.int .i64 (a : Int)) := h.cell 1
  have h2 : w.cell? ⟨g, 2, none⟩ = some .nilIface := h.cell 2
  unfold PsMeas
  rw [h1, h2]
  simp
theorem meas_bad {w : World} {g n c a m : Nat} {B : Option Addr} {t : TypeId} {v : Value} (h : Rdr w g B n c a (.iface t v)) : PsMeas m g w = 0 := by
  have h1 : w.cell? ⟨g, 1, none⟩ = some (.int .i64 (a : Int)) := h.cell 1
  have h2 : w.cell? ⟨g, 2, none⟩ = some (.iface t v) := h.cell 2
  unfold PsMeas
  rw [h1, h2]
def PsBad (wr : World) (g : Nat) (B : Option Addr) (n c : Nat) (l : List Nat) (ad : Nat → Addr) : Prop :=
  ∃ (a : Nat) (out0 : List Pk) (last0 : Int) (a0 e k pos p : Nat), Run l out0 a0 last0 ∧ a0 < l.length ∧ StepErr l a0 e ∧ NErr l e k pos ∧ Rdr wr g B n c a (.iface 58 (.pointer (some ⟨p, 0, none⟩))) ∧ Blk wr p 60 #[.int .i64 (pos : Int), .iface 91 (.pointer (some (ad k)))]
def PsRel (w : World) (g : Nat) (B : Option Addr) (n c : Nat) (l : List Nat) (ad : Nat → Addr) (so sl : Value) (wr : World) : Prop :=
  ∃ (out : List Pk) (last : Int), wr.ownsRow (g + 1) 26 4 so out.length (pks out) ∧ sl = .int .i64 last ∧ out.length ≤ n + 1 ∧ Below g w wr ∧ ((∃ a, Run l out a last ∧ Rdr wr g B n c a .nilIface) ∨ PsBad wr g B n c l ad)
theorem own_lt {w : World} {base : Nat} {e : TypeId} {size n : Nat} {v : Value} {xs : List Value} (h : w.ownsRow base e size v n xs) {k : Nat} (hk : v.ownBlock = some k) : k < w.heap.size := by
  rcases h.2 with ⟨rfl, _⟩ | ⟨g, cap, cur, rfl, hb, hh, _⟩
  · simp [Value.ownBlock] at hk
  · simp [Value.ownBlock] at hk
    subst hk
    exact Blk.lt (t := e) (cs := cur) hh
theorem own_ne_low {w : World} {g : Nat} {e : TypeId} {size n : Nat} {v : Value} {xs : List Value} (h : w.ownsRow (g + 1) e size v n xs) : some g ≠ v.ownBlock := fun e => by
  have := own_ge h e.symm; omega
theorem own_ne_high {w : World} {base h : Nat} {e : TypeId} {size n : Nat} {v : Value} {xs : List Value} (ho : w.ownsRow base e size v n xs) (hh : w.heap.size ≤ h) : some h ≠ v.ownBlock := fun e => by
  have := own_lt ho e.symm; omega
theorem ps_next_good {w wr Z w2 : World} {g n c a a' : Nat} {B : Option Addr} {l : List Nat} {ad : Nat → Addr} {so v2 : Value} {out : List Pk} {last : Int} {p : Pk} (hbr : Below g w wr) (hgw : g ≤ wr.heap.size) (ho : wr.ownsRow (g + 1) 26 4 so out.length (pks out))
    (hz : But g wr Z) (hrz : Rdr Z g B n c a' .nilIface) (hg2 : Z.grownBy w2 so.ownBlock) (hown2 : w2.ownsRow (g + 1) 26 4 v2 (out.length + 1) (pks out ++ pkc p)) (hr0 : Rdr wr g B n c a .nilIface) (hrun : Run l out a last) (ha : a < n) (hln : l.length = n)
    (hst : prsStep l a last = some (p, a')) (haa : a < a') (hol : out.length ≤ n) : PsRel w g B n c l ad v2 (.int .i64 p.at_) w2 ∧ PsMeas n g w2 < PsMeas n g wr := by
  have hr2 : Rdr w2 g B n c a' .nilIface := Blk.grown hrz hg2 (own_ne_low ho)
  refine ⟨⟨out ++ [p], p.at_, by rw [pks_snoc, List.length_append]; exact hown2, rfl, by simp; omega, ((hbr.trans (hz.below (Nat.le_refl _) hgw)).grown hg2 (Nat.le_trans hgw hz.size) (fun k hk => by have := own_ge ho hk; omega)), .inl ⟨a', .step hrun (by omega) hst, hr2⟩⟩, ?_⟩
  rw [meas_good hr2, meas_good hr0]
  omega
theorem ps_next_bad {w wr Z w2 : World} {g n c a a' e k pos p0 : Nat} {B : Option Addr} {l : List Nat} {ad : Nat → Addr} {so v2 : Value} {out : List Pk} {last x : Int} {p : Pk} (hbr : Below g w wr) (hgw : g ≤ wr.heap.size) (ho : wr.ownsRow (g + 1) 26 4 so out.length (pks out))
    (hz : But g wr Z) (hrz : Rdr Z g B n c a' (.iface 58 (.pointer (some ⟨p0, 0, none⟩)))) (hkz : Blk Z p0 60 #[.int .i64 (pos : Int), .iface 91 (.pointer (some (ad k)))]) (hg2 : Z.grownBy w2 so.ownBlock) (hoz : Z.ownsRow (g + 1) 26 4 so out.length (pks out))
    (hown2 : w2.ownsRow (g + 1) 26 4 v2 (out.length + 1) (pks out ++ pkc p)) (hr0 : Rdr wr g B n c a .nilIface) (hrun : Run l out a last) (ha : a < n) (hln : l.length = n)
    (hst : StepErr l a e) (hne : NErr l e k pos) (hol : out.length ≤ n) : PsRel w g B n c l ad v2 (.int .i64 x) w2 ∧ PsMeas n g w2 < PsMeas n g wr := by
  have hr2 : Rdr w2 g B n c a' (.iface 58 (.pointer (some ⟨p0, 0, none⟩))) := Blk.grown hrz hg2 (own_ne_low ho)
  have hk2 := hkz.grown hg2 (fun e => own_blk_ne hoz hkz (by decide) e.symm)
  refine ⟨⟨out ++ [p], x, by rw [pks_snoc, List.length_append]; exact hown2, rfl, by simp; omega, ((hbr.trans (hz.below (Nat.le_refl _) hgw)).grown hg2 (Nat.le_trans hgw hz.size) (fun k hk => by have := own_ge ho hk; omega)), .inr ⟨a', out, last, a, e, k, pos, p0, hrun, by omega, hst, hne, hr2, hk2⟩⟩, ?_⟩
  rw [meas_bad hr2, meas_good hr0]
  omega
/-- what Parse leaves -/
def PsPost (w : World) (l : List Nat) (ad : Nat → Addr) (e : Ending) (w' : World) : Prop :=
  Below w.heap.size w w' ∧ ((∃ z le, Run l z l.length le ∧ z.length ≤ 400 ∧ mayF 0 0 z = none ∧ ∃ A c, e = .returned (.tuple #[.slice A z.length c, .nilIface]) ∧ Reads w' w'.heap.size 4 A z.length (pks z))
  ∨ (∃ z le, Run l z l.length le ∧ (400 < z.length ∨ mayF 0 0 z ≠ none) ∧ ∃ t v, e = .returned (.tuple #[.slice none 0 0, .iface t v]))
  ∨ (∃ (out0 : List Pk) (last0 : Int) (a0 x k pos p : Nat), Run l out0 a0 last0 ∧ a0 < l.length ∧ StepErr l a0 x ∧ NErr l x k pos ∧ e = .returned (.tuple #[.slice none 0 0, .iface 58 (.pointer (some ⟨p, 0, none⟩))]) ∧ Blk w' p 60 #[.int .i64 (pos : Int), .iface 91 (.pointer (some (ad k)))]))
set_option maxRecDepth 100000 in
set_option maxHeartbeats 4000000 in
theorem parse_any (A : Option Addr) (n c : Nat) (l : List Nat) (ad : Nat → Addr) (w : World) (ha : Reads w w.heap.size 1 A n (l.map bv)) (hb : ∀ x ∈ l, x < 256) (hn0 : n ≤ 16384) (hc : n ≤ c) (hcm : c ≤ maxLen)
    (ak ai as_ : Addr) (h3 : E3 w ak ai as_) (hB : w.cell? ⟨4, 0, none⟩ = some (.iface 91 (.pointer (some (ad 6))))) (hE : w.cell? ⟨5, 0, none⟩ = some (.iface 91 (.pointer (some (ad 5)))))
    (am : Addr) (hM : w.cell? ⟨0, 0, none⟩ = some (eV am)) (hg5' : 5 < w.heap.size) : Calls Tryd.prog 19 #[.slice A n c] w (PsPost w l ad) := by
  have HLN : Hid (l.length = n) := Lib.hid (by have := ha.1; simpa using this)
  have hn : n ≤ 1048576 := by omega
  obtain ⟨i0, hi0, hz0, hz1, hz2⟩ := info_parts pick_info
  have t16 : decide (16384 < n) = false := by simp; omega
  have HA := Lib.hid ha
  have HB := Lib.hid hb
  have H3 := Lib.hid h3
  have HEB0 := Lib.hid hB
  have HEE0 := Lib.hid hE
  have HM := Lib.hid hM
  clear ha hb h3 hB hE hM
  obtain ⟨g, hgw0⟩ : ∃ g, g = w.heap.size := ⟨_, rfl⟩
  have hg5 : 5 < g := by omega
  have HG := Lib.hid hgw0
  go_enter Tryd.func19, Tryd.ntmps19
  go_wp2
  rw [← HG.out]
  clear hgw0
  go_loopw [5, 6] (fun so sl wr => PsRel w g A n c l ad so sl wr) (fun _ _ wr => PsMeas n g wr)
  case atStart => exact ⟨[], 0, ⟨rfl, .inl ⟨rfl, rfl⟩⟩, rfl, by simp, by rw [HG.out]; exact (Below.refl _ _).alloc (Nat.le_refl _) _, .inl ⟨0, .start, by rw [HG.out]; exact Blk.new _ _ _⟩⟩
  case round =>
    obtain ⟨out, last, hown, rfl, hol, hbr, hst⟩ := hrel
    have HO := Lib.hid hown
    have HBR := Lib.hid hbr
    clear hown hbr
    rcases hst with ⟨a, hrun, hr0⟩ | ⟨a, out0, last0, a0, ex, k, pos, p, h1, h2, h3, h4, h5, h6⟩
    · obtain ⟨x1, x2, x3, x4⟩ := run_bytes HB.out hrun
      rw [HLN.out] at x1
      have HRUN := Lib.hid hrun
      have HR0 := Lib.hid hr0
      have r0 : wr.cell? ⟨g, 0, none⟩ = some (.slice A n c) := hr0.cell 0
      have r1 : wr.cell? ⟨g, 1, none⟩ = some (.int .i64 (a : Int)) := hr0.cell 1
      have r2 : wr.cell? ⟨g, 2, none⟩ = some .nilIface := hr0.cell 2
      have hgw : g ≤ wr.heap.size := Nat.le_of_lt (Blk.lt hr0)
      have hgw' : g < wr.heap.size := Blk.lt hr0
      clear hrun hr0
      by_cases hlt : a < n
      · obtain ⟨A0, hA0, _⟩ := HA.out.2 (by omega)
        subst hA0
        have HRD : Hid (Reads wr g 1 (some A0) n (l.map bv)) := Lib.hid (by have := HA.out; rw [← HG.out] at this; exact this.below HBR.out)
        have HEB : Hid (wr.cell? ⟨4, 0, none⟩ = some (.iface 91 (.pointer (some (ad 6))))) := Lib.hid ((HBR.out.cell (p := ⟨4, 0, none⟩) (by simp; omega)).trans HEB0.out)
        have HEE : Hid (wr.cell? ⟨5, 0, none⟩ = some (.iface 91 (.pointer (some (ad 5))))) := Lib.hid ((HBR.out.cell (p := ⟨5, 0, none⟩) (by simp; omega)).trans HEE0.out)
        have HT0 : Hid (But g wr wr) := Lib.hid But.refl
        have x5 : last ≤ 17179869184 := by omega
        clear x4
        cases k1x : nr l a with
        | none =>
          have HK1 := Lib.hid k1x
          clear k1x
          go_wp2_with fail
          go_must (refine (number_do g A0 n c a l ad _ HR0.out (HT0.out.reads hgw HRD.out) HB.out hn hg5 ((HT0.out.cell (p := ⟨4, 0, none⟩) (by simp; omega) (by simp; omega)).trans HEB.out) ((HT0.out.cell (p := ⟨5, 0, none⟩) (by simp; omega) (by simp; omega)).trans HEE.out) (by omega) hc hcm HK1.out).mono ?_)
          rintro e w1 ⟨rfl, hbt, pe, ke, pos, hr, hpe, hkp, hne⟩
          have HR1 := Lib.hid hr
          have HPE1 := Lib.hid hkp
          have HNE := Lib.hid hne
          have HT1 := Lib.hid (HT0.out.trans hbt)
          clear hr hbt hkp hne hpe
          go_wp2_with fail
          go_must (refine (number_past g (some A0) n c a _ _ _ HR1.out).mono ?_)
          rintro e wz ⟨rfl, rfl⟩
          go_wp2_with (at_builtin
                       go_must (refine wpList_append_any _ rfl (.tmp 54) (.tmp 56) _ rfl (g + 1) 26 i0 _ 4 32 Tryd.underlying24 hi0 hz0 hz1 hz2 rfl (by omega) u5 out.length (pks out) rfl ((But.own (HT1.out.alloc _) HO.out (Nat.lt_succ_self _)).alloc _) _ (some ⟨(w1.heap.size + 1), 0, none⟩) 1 1 (pkc ⟨last, 0, 0, 0⟩) rfl (by exact reads_newA _ _ _ 4 1 _ _ (by simp [World.setCell]) rfl rfl) (pkc_one _) (by unfold maxLen; omega) (by omega) (by have := HT1.out.size; simp [World.setCell]; omega) ?_)
                       intro v2 W hown2 hg2 hat2
                       have ch0 : W.cell? ⟨w1.heap.size, 0, none⟩ = some (.int .i64 last) := ((Blk.alloc (Blk.new w1 _ _) _).grown hg2 (own_ne_high HO.out HT1.out.size)).cell 0
                       have HG2 := Lib.hid hg2
                       have HW2 := Lib.hid hown2
                       clear hg2 hown2 hat2)
          exact ps_next_bad (p := ⟨last, 0, 0, 0⟩) HBR.out hgw HO.out ((HT1.out.alloc _).alloc _) (Blk.alloc (Blk.alloc HR1.out _) _) ((HPE1.out.alloc _).alloc _) HG2.out ((But.own (HT1.out.alloc _) HO.out (Nat.lt_succ_self _)).alloc _) HW2.out HR0.out HRUN.out hlt HLN.out (.one HK1.out) HNE.out (by omega)
        | some rk1 =>
          obtain ⟨d, a1⟩ := rk1
          have HK1 := Lib.hid k1x
          have bk1 := (nr_some k1x).2
          have ck1 := (tk_next HB.out (nr_some k1x).1).2.1
          have dk1 := (tk_next HB.out (nr_some k1x).1).2.2.1
          rw [HLN.out] at dk1
          clear k1x
          cases k2x : nr l a1 with
          | none =>
            have HK2 := Lib.hid k2x
            clear k2x
            go_wp2_with fail
            go_must (refine (number_ok g (some A0) n c a l d a1 _ HR0.out (HT0.out.reads hgw HRD.out) HB.out hn (nr_some HK1.out).1 (nr_some HK1.out).2).mono ?_)
            rintro e w1 ⟨rfl, hr, hbt⟩
            have HR1 := Lib.hid hr
            have HT1 := Lib.hid (HT0.out.trans hbt)
            clear hr hbt
            go_wp2_with fail
            go_must (refine (number_do g A0 n c a1 l ad _ HR1.out (HT1.out.reads hgw HRD.out) HB.out hn hg5 ((HT1.out.cell (p := ⟨4, 0, none⟩) (by simp; omega) (by simp; omega)).trans HEB.out) ((HT1.out.cell (p := ⟨5, 0, none⟩) (by simp; omega) (by simp; omega)).trans HEE.out) (by omega) hc hcm HK2.out).mono ?_)
            rintro e w2 ⟨rfl, hbt, pe, ke, pos, hr, hpe, hkp, hne⟩
            have HR2 := Lib.hid hr
            have HPE2 := Lib.hid hkp
            have HNE := Lib.hid hne
            have HT2 := Lib.hid (HT1.out.trans hbt)
            clear hr hbt hkp hne hpe
            go_wp2_with (at_builtin
                         go_must (refine wpList_append_any _ rfl (.tmp 54) (.tmp 56) _ rfl (g + 1) 26 i0 _ 4 32 Tryd.underlying24 hi0 hz0 hz1 hz2 rfl (by omega) u5 out.length (pks out) rfl ((But.own (HT2.out.alloc _) HO.out (Nat.lt_succ_self _)).alloc _) _ (some ⟨(w2.heap.size + 1), 0, none⟩) 1 1 (pkc ⟨(last + (d : Int)), 0, 0, 0⟩) rfl (by exact reads_newA _ _ _ 4 1 _ _ (by simp [World.setCell]) rfl rfl) (pkc_one _) (by unfold maxLen; omega) (by omega) (by have := HT2.out.size; simp [World.setCell]; omega) ?_)
                         intro v2 W hown2 hg2 hat2
                         have ch0 : W.cell? ⟨w2.heap.size, 0, none⟩ = some (.int .i64 (last + (d : Int))) := ((Blk.alloc (Blk.new w2 _ _) _).grown hg2 (own_ne_high HO.out HT2.out.size)).cell 0
                         have HG2 := Lib.hid hg2
                         have HW2 := Lib.hid hown2
                         clear hg2 hown2 hat2)
            exact ps_next_bad (p := ⟨(last + (d : Int)), 0, 0, 0⟩) HBR.out hgw HO.out ((HT2.out.alloc _).alloc _) (Blk.alloc (Blk.alloc HR2.out _) _) ((HPE2.out.alloc _).alloc _) HG2.out ((But.own (HT2.out.alloc _) HO.out (Nat.lt_succ_self _)).alloc _) HW2.out HR0.out HRUN.out hlt HLN.out (.two HK1.out HK2.out) HNE.out (by omega)
          | some rk2 =>
            obtain ⟨act, a2⟩ := rk2
            have HK2 := Lib.hid k2x
            have bk2 := (nr_some k2x).2
            have ck2 := (tk_next HB.out (nr_some k2x).1).2.1
            have dk2 := (tk_next HB.out (nr_some k2x).1).2.2.1
            rw [HLN.out] at dk2
            clear k2x
            by_cases e3 : act = 3
            · subst e3
              cases k3x : nr l a2 with
              | none =>
                have HK3 := Lib.hid k3x
                clear k3x
                go_wp2_with fail
                go_must (refine (number_ok g (some A0) n c a l d a1 _ HR0.out (HT0.out.reads hgw HRD.out) HB.out hn (nr_some HK1.out).1 (nr_some HK1.out).2).mono ?_)
                rintro e w1 ⟨rfl, hr, hbt⟩
                have HR1 := Lib.hid hr
                have HT1 := Lib.hid (HT0.out.trans hbt)
                clear hr hbt
                go_wp2_with fail
                go_must (refine (number_ok g (some A0) n c a1 l 3 a2 _ HR1.out (HT1.out.reads hgw HRD.out) HB.out hn (nr_some HK2.out).1 (nr_some HK2.out).2).mono ?_)
                rintro e w2 ⟨rfl, hr, hbt⟩
                have HR2 := Lib.hid hr
                have HT2 := Lib.hid (HT1.out.trans hbt)
                clear hr hbt
                go_wp2_with fail
                obtain ⟨w3, hX⟩ : ∃ X, X = w2.alloc (Obj.cells #[.int .i64 (last + (d : Int)), .int .i64 3, .int .i64 0, .int .i64 0] 26) := ⟨_, rfl⟩
                rw [← hX]
                have HT3 : Hid (But g wr w3) := Lib.hid (by rw [hX]; exact HT2.out.alloc _)
                have HH3 : Hid (Blk w3 w2.heap.size 26 #[.int .i64 (last + (d : Int)), .int .i64 3, .int .i64 0, .int .i64 0]) := Lib.hid (by rw [hX]; exact Blk.new _ _ _)
                have HR3 : Hid (Rdr w3 g (some A0) n c a2 .nilIface) := Lib.hid (by rw [hX]; exact Blk.alloc HR2.out _)
                obtain ⟨h, hh⟩ : ∃ h, h = w2.heap.size := ⟨_, rfl⟩
                rw [← hh] at HH3 ⊢
                have HHG : Hid (wr.heap.size ≤ h ∧ h ≠ g) := Lib.hid (by have := HT2.out.size; omega)
                clear hX hh
                go_must (refine (number_do g A0 n c a2 l ad _ HR3.out (HT3.out.reads hgw HRD.out) HB.out hn hg5 ((HT3.out.cell (p := ⟨4, 0, none⟩) (by simp; omega) (by simp; omega)).trans HEB.out) ((HT3.out.cell (p := ⟨5, 0, none⟩) (by simp; omega) (by simp; omega)).trans HEE.out) (by omega) hc hcm HK3.out).mono ?_)
                rintro e w4 ⟨rfl, hbt, pe, ke, pos, hr, hpe, hkp, hne⟩
                have HR4 := Lib.hid hr
                have HPE4 := Lib.hid hkp
                have HNE := Lib.hid hne
                have HH4 := Lib.hid (hbt.blk HH3.out HHG.out.2)
                have HT4 := Lib.hid (HT3.out.trans hbt)
                clear hr hbt hkp hne hpe
                have q40 : w4.cell? ⟨h, 0, none⟩ = some (.int .i64 (last + (d : Int))) := HH4.out.cell 0
                have p40 : w4.frozen? ⟨h, 0, none⟩ = false := HH4.out.frozen 0
                have q41 : w4.cell? ⟨h, 1, none⟩ = some (.int .i64 3) := HH4.out.cell 1
                have p41 : w4.frozen? ⟨h, 1, none⟩ = false := HH4.out.frozen 1
                have q42 : w4.cell? ⟨h, 2, none⟩ = some (.int .i64 0) := HH4.out.cell 2
                have p42 : w4.frozen? ⟨h, 2, none⟩ = false := HH4.out.frozen 2
                have q43 : w4.cell? ⟨h, 3, none⟩ = some (.int .i64 0) := HH4.out.cell 3
                have p43 : w4.frozen? ⟨h, 3, none⟩ = false := HH4.out.frozen 3
                go_wp2_with fail
                obtain ⟨w5, hX⟩ : ∃ X, X = w4.setCell ⟨h, 2, none⟩ (.int .i64 0) := ⟨_, rfl⟩
                rw [← hX]
                have HT5 : Hid (But g wr w5) := Lib.hid (by rw [hX]; exact HT4.out.setFar HHG.out.1 _)
                have HH5 : Hid (Blk w5 h 26 #[.int .i64 (last + (d : Int)), .int .i64 3, .int .i64 0, .int .i64 0]) := Lib.hid (by rw [hX]; exact HH4.out.set_ 2 _)
                have HR5 : Hid (Rdr w5 g (some A0) n c a2 (.iface 58 (.pointer (some ⟨pe, 0, none⟩)))) := Lib.hid (by rw [hX]; exact Blk.far HR4.out (fun e => HHG.out.2 e.symm) _)
                have HPE5 : Hid (Blk w5 pe 60 #[.int .i64 (pos : Int), .iface 91 (.pointer (some (ad ke)))]) := Lib.hid (by rw [hX]; exact HPE4.out.far (p := ⟨h, 2, none⟩) (Blk.ne_ HPE4.out HH4.out (by decide)) _)
                clear hX
                go_must (refine (number_past g (some A0) n c a2 _ _ _ HR5.out).mono ?_)
                rintro e wz ⟨rfl, rfl⟩
                have q50 : w5.cell? ⟨h, 0, none⟩ = some (.int .i64 (last + (d : Int))) := HH5.out.cell 0
                have p50 : w5.frozen? ⟨h, 0, none⟩ = false := HH5.out.frozen 0
                have q51 : w5.cell? ⟨h, 1, none⟩ = some (.int .i64 3) := HH5.out.cell 1
                have p51 : w5.frozen? ⟨h, 1, none⟩ = false := HH5.out.frozen 1
                have q52 : w5.cell? ⟨h, 2, none⟩ = some (.int .i64 0) := HH5.out.cell 2
                have p52 : w5.frozen? ⟨h, 2, none⟩ = false := HH5.out.frozen 2
                have q53 : w5.cell? ⟨h, 3, none⟩ = some (.int .i64 0) := HH5.out.cell 3
                have p53 : w5.frozen? ⟨h, 3, none⟩ = false := HH5.out.frozen 3
                go_wp2_with (at_builtin
                             go_must (refine wpList_append_any _ rfl (.tmp 54) (.tmp 56) _ rfl (g + 1) 26 i0 _ 4 32 Tryd.underlying24 hi0 hz0 hz1 hz2 rfl (by omega) u5 out.length (pks out) rfl ((But.own (HT5.out.setFar (p := ⟨h, 3, none⟩) HHG.out.1 _) HO.out (Nat.lt_succ_self _)).alloc _) _ (some ⟨w5.heap.size, 0, none⟩) 1 1 (pkc ⟨(last + (d : Int)), 3, 0, 0⟩) rfl (by exact reads_newA _ _ _ 4 1 _ _ (by simp [World.setCell]) rfl rfl) (pkc_one _) (by unfold maxLen; omega) (by omega) (by have := HT5.out.size; simp [World.setCell]; omega) ?_)
                             intro v2 W hown2 hg2 hat2
                             have ch0 : W.cell? ⟨h, 0, none⟩ = some (.int .i64 (last + (d : Int))) := ((Blk.alloc (HH5.out.set_ 3 _) _).grown hg2 (own_ne_high HO.out HHG.out.1)).cell 0
                             have HG2 := Lib.hid hg2
                             have HW2 := Lib.hid hown2
                             clear hg2 hown2 hat2)
                exact ps_next_bad (p := ⟨(last + (d : Int)), 3, 0, 0⟩) HBR.out hgw HO.out ((HT5.out.setFar (p := ⟨h, 3, none⟩) HHG.out.1 _).alloc _) (Blk.alloc (Blk.far HR5.out (p := ⟨h, 3, none⟩) (fun e => HHG.out.2 e.symm) _) _) ((HPE5.out.far (p := ⟨h, 3, none⟩) (Blk.ne_ HPE5.out HH5.out (by decide)) _).alloc _) HG2.out ((But.own (HT5.out.setFar (p := ⟨h, 3, none⟩) HHG.out.1 _) HO.out (Nat.lt_succ_self _)).alloc _) HW2.out HR0.out HRUN.out hlt HLN.out (.thr HK1.out HK2.out (.inl rfl) HK3.out) HNE.out (by omega)
              | some rk3 =>
                obtain ⟨x, a3⟩ := rk3
                have HK3 := Lib.hid k3x
                have bk3 := (nr_some k3x).2
                have ck3 := (tk_next HB.out (nr_some k3x).1).2.1
                have dk3 := (tk_next HB.out (nr_some k3x).1).2.2.1
                rw [HLN.out] at dk3
                clear k3x
                cases k4x : nr l a3 with
                | none =>
                  have HK4 := Lib.hid k4x
                  clear k4x
                  go_wp2_with fail
                  go_must (refine (number_ok g (some A0) n c a l d a1 _ HR0.out (HT0.out.reads hgw HRD.out) HB.out hn (nr_some HK1.out).1 (nr_some HK1.out).2).mono ?_)
                  rintro e w1 ⟨rfl, hr, hbt⟩
                  have HR1 := Lib.hid hr
                  have HT1 := Lib.hid (HT0.out.trans hbt)
                  clear hr hbt
                  go_wp2_with fail
                  go_must (refine (number_ok g (some A0) n c a1 l 3 a2 _ HR1.out (HT1.out.reads hgw HRD.out) HB.out hn (nr_some HK2.out).1 (nr_some HK2.out).2).mono ?_)
                  rintro e w2 ⟨rfl, hr, hbt⟩
                  have HR2 := Lib.hid hr
                  have HT2 := Lib.hid (HT1.out.trans hbt)
                  clear hr hbt
                  go_wp2_with fail
                  obtain ⟨w3, hX⟩ : ∃ X, X = w2.alloc (Obj.cells #[.int .i64 (last + (d : Int)), .int .i64 3, .int .i64 0, .int .i64 0] 26) := ⟨_, rfl⟩
                  rw [← hX]
                  have HT3 : Hid (But g wr w3) := Lib.hid (by rw [hX]; exact HT2.out.alloc _)
                  have HH3 : Hid (Blk w3 w2.heap.size 26 #[.int .i64 (last + (d : Int)), .int .i64 3, .int .i64 0, .int .i64 0]) := Lib.hid (by rw [hX]; exact Blk.new _ _ _)
                  have HR3 : Hid (Rdr w3 g (some A0) n c a2 .nilIface) := Lib.hid (by rw [hX]; exact Blk.alloc HR2.out _)
                  obtain ⟨h, hh⟩ : ∃ h, h = w2.heap.size := ⟨_, rfl⟩
                  rw [← hh] at HH3 ⊢
                  have HHG : Hid (wr.heap.size ≤ h ∧ h ≠ g) := Lib.hid (by have := HT2.out.size; omega)
                  clear hX hh
                  go_must (refine (number_ok g (some A0) n c a2 l x a3 _ HR3.out (HT3.out.reads hgw HRD.out) HB.out hn (nr_some HK3.out).1 (nr_some HK3.out).2).mono ?_)
                  rintro e w4 ⟨rfl, hr, hbt⟩
                  have HR4 := Lib.hid hr
                  have HT4 := Lib.hid (HT3.out.trans hbt)
                  have HH4 := Lib.hid (hbt.blk HH3.out HHG.out.2)
                  clear hr hbt
                  have q40 : w4.cell? ⟨h, 0, none⟩ = some (.int .i64 (last + (d : Int))) := HH4.out.cell 0
                  have p40 : w4.frozen? ⟨h, 0, none⟩ = false := HH4.out.frozen 0
                  have q41 : w4.cell? ⟨h, 1, none⟩ = some (.int .i64 3) := HH4.out.cell 1
                  have p41 : w4.frozen? ⟨h, 1, none⟩ = false := HH4.out.frozen 1
                  have q42 : w4.cell? ⟨h, 2, none⟩ = some (.int .i64 0) := HH4.out.cell 2
                  have p42 : w4.frozen? ⟨h, 2, none⟩ = false := HH4.out.frozen 2
                  have q43 : w4.cell? ⟨h, 3, none⟩ = some (.int .i64 0) := HH4.out.cell 3
                  have p43 : w4.frozen? ⟨h, 3, none⟩ = false := HH4.out.frozen 3
                  go_wp2_with fail
                  obtain ⟨w5, hX⟩ : ∃ X, X = w4.setCell ⟨h, 2, none⟩ (.int .i64 (x : Int)) := ⟨_, rfl⟩
                  rw [← hX]
                  have HT5 : Hid (But g wr w5) := Lib.hid (by rw [hX]; exact HT4.out.setFar HHG.out.1 _)
                  have HH5 : Hid (Blk w5 h 26 #[.int .i64 (last + (d : Int)), .int .i64 3, .int .i64 (x : Int), .int .i64 0]) := Lib.hid (by rw [hX]; exact HH4.out.set_ 2 _)
                  have HR5 : Hid (Rdr w5 g (some A0) n c a3 .nilIface) := Lib.hid (by rw [hX]; exact Blk.far HR4.out (fun e => HHG.out.2 e.symm) _)
                  clear hX
                  go_must (refine (number_do g A0 n c a3 l ad _ HR5.out (HT5.out.reads hgw HRD.out) HB.out hn hg5 ((HT5.out.cell (p := ⟨4, 0, none⟩) (by simp; omega) (by simp; omega)).trans HEB.out) ((HT5.out.cell (p := ⟨5, 0, none⟩) (by simp; omega) (by simp; omega)).trans HEE.out) (by omega) hc hcm HK4.out).mono ?_)
                  rintro e w6 ⟨rfl, hbt, pe, ke, pos, hr, hpe, hkp, hne⟩
                  have HR6 := Lib.hid hr
                  have HPE6 := Lib.hid hkp
                  have HNE := Lib.hid hne
                  have HH6 := Lib.hid (hbt.blk HH5.out HHG.out.2)
                  have HT6 := Lib.hid (HT5.out.trans hbt)
                  clear hr hbt hkp hne hpe
                  have q60 : w6.cell? ⟨h, 0, none⟩ = some (.int .i64 (last + (d : Int))) := HH6.out.cell 0
                  have p60 : w6.frozen? ⟨h, 0, none⟩ = false := HH6.out.frozen 0
                  have q61 : w6.cell? ⟨h, 1, none⟩ = some (.int .i64 3) := HH6.out.cell 1
                  have p61 : w6.frozen? ⟨h, 1, none⟩ = false := HH6.out.frozen 1
                  have q62 : w6.cell? ⟨h, 2, none⟩ = some (.int .i64 (x : Int)) := HH6.out.cell 2
                  have p62 : w6.frozen? ⟨h, 2, none⟩ = false := HH6.out.frozen 2
                  have q63 : w6.cell? ⟨h, 3, none⟩ = some (.int .i64 0) := HH6.out.cell 3
                  have p63 : w6.frozen? ⟨h, 3, none⟩ = false := HH6.out.frozen 3
                  go_wp2_with (at_builtin
                               go_must (refine wpList_append_any _ rfl (.tmp 54) (.tmp 56) _ rfl (g + 1) 26 i0 _ 4 32 Tryd.underlying24 hi0 hz0 hz1 hz2 rfl (by omega) u5 out.length (pks out) rfl ((But.own (HT6.out.setFar (p := ⟨h, 3, none⟩) HHG.out.1 _) HO.out (Nat.lt_succ_self _)).alloc _) _ (some ⟨w6.heap.size, 0, none⟩) 1 1 (pkc ⟨(last + (d : Int)), 3, (x : Int), 0⟩) rfl (by exact reads_newA _ _ _ 4 1 _ _ (by simp [World.setCell]) rfl rfl) (pkc_one _) (by unfold maxLen; omega) (by omega) (by have := HT6.out.size; simp [World.setCell]; omega) ?_)
                               intro v2 W hown2 hg2 hat2
                               have ch0 : W.cell? ⟨h, 0, none⟩ = some (.int .i64 (last + (d : Int))) := ((Blk.alloc (HH6.out.set_ 3 _) _).grown hg2 (own_ne_high HO.out HHG.out.1)).cell 0
                               have HG2 := Lib.hid hg2
                               have HW2 := Lib.hid hown2
                               clear hg2 hown2 hat2)
                  exact ps_next_bad (p := ⟨(last + (d : Int)), 3, (x : Int), 0⟩) HBR.out hgw HO.out ((HT6.out.setFar (p := ⟨h, 3, none⟩) HHG.out.1 _).alloc _) (Blk.alloc (Blk.far HR6.out (p := ⟨h, 3, none⟩) (fun e => HHG.out.2 e.symm) _) _) ((HPE6.out.far (p := ⟨h, 3, none⟩) (Blk.ne_ HPE6.out HH6.out (by decide)) _).alloc _) HG2.out ((But.own (HT6.out.setFar (p := ⟨h, 3, none⟩) HHG.out.1 _) HO.out (Nat.lt_succ_self _)).alloc _) HW2.out HR0.out HRUN.out hlt HLN.out (.four HK1.out HK2.out HK3.out HK4.out) HNE.out (by omega)
                | some rk4 =>
                  obtain ⟨y, a4⟩ := rk4
                  have HK4 := Lib.hid k4x
                  have bk4 := (nr_some k4x).2
                  have ck4 := (tk_next HB.out (nr_some k4x).1).2.1
                  have dk4 := (tk_next HB.out (nr_some k4x).1).2.2.1
                  rw [HLN.out] at dk4
                  clear k4x
                  go_wp2_with fail
                  go_must (refine (number_ok g (some A0) n c a l d a1 _ HR0.out (HT0.out.reads hgw HRD.out) HB.out hn (nr_some HK1.out).1 (nr_some HK1.out).2).mono ?_)
                  rintro e w1 ⟨rfl, hr, hbt⟩
                  have HR1 := Lib.hid hr
                  have HT1 := Lib.hid (HT0.out.trans hbt)
                  clear hr hbt
                  go_wp2_with fail
                  go_must (refine (number_ok g (some A0) n c a1 l 3 a2 _ HR1.out (HT1.out.reads hgw HRD.out) HB.out hn (nr_some HK2.out).1 (nr_some HK2.out).2).mono ?_)
                  rintro e w2 ⟨rfl, hr, hbt⟩
                  have HR2 := Lib.hid hr
                  have HT2 := Lib.hid (HT1.out.trans hbt)
                  clear hr hbt
                  go_wp2_with fail
                  obtain ⟨w3, hX⟩ : ∃ X, X = w2.alloc (Obj.cells #[.int .i64 (last + (d : Int)), .int .i64 3, .int .i64 0, .int .i64 0] 26) := ⟨_, rfl⟩
                  rw [← hX]
                  have HT3 : Hid (But g wr w3) := Lib.hid (by rw [hX]; exact HT2.out.alloc _)
                  have HH3 : Hid (Blk w3 w2.heap.size 26 #[.int .i64 (last + (d : Int)), .int .i64 3, .int .i64 0, .int .i64 0]) := Lib.hid (by rw [hX]; exact Blk.new _ _ _)
                  have HR3 : Hid (Rdr w3 g (some A0) n c a2 .nilIface) := Lib.hid (by rw [hX]; exact Blk.alloc HR2.out _)
                  obtain ⟨h, hh⟩ : ∃ h, h = w2.heap.size := ⟨_, rfl⟩
                  rw [← hh] at HH3 ⊢
                  have HHG : Hid (wr.heap.size ≤ h ∧ h ≠ g) := Lib.hid (by have := HT2.out.size; omega)
                  clear hX hh
                  go_must (refine (number_ok g (some A0) n c a2 l x a3 _ HR3.out (HT3.out.reads hgw HRD.out) HB.out hn (nr_some HK3.out).1 (nr_some HK3.out).2).mono ?_)
                  rintro e w4 ⟨rfl, hr, hbt⟩
                  have HR4 := Lib.hid hr
                  have HT4 := Lib.hid (HT3.out.trans hbt)
                  have HH4 := Lib.hid (hbt.blk HH3.out HHG.out.2)
                  clear hr hbt
                  have q40 : w4.cell? ⟨h, 0, none⟩ = some (.int .i64 (last + (d : Int))) := HH4.out.cell 0
                  have p40 : w4.frozen? ⟨h, 0, none⟩ = false := HH4.out.frozen 0
                  have q41 : w4.cell? ⟨h, 1, none⟩ = some (.int .i64 3) := HH4.out.cell 1
                  have p41 : w4.frozen? ⟨h, 1, none⟩ = false := HH4.out.frozen 1
                  have q42 : w4.cell? ⟨h, 2, none⟩ = some (.int .i64 0) := HH4.out.cell 2
                  have p42 : w4.frozen? ⟨h, 2, none⟩ = false := HH4.out.frozen 2
                  have q43 : w4.cell? ⟨h, 3, none⟩ = some (.int .i64 0) := HH4.out.cell 3
                  have p43 : w4.frozen? ⟨h, 3, none⟩ = false := HH4.out.frozen 3
                  go_wp2_with fail
                  obtain ⟨w5, hX⟩ : ∃ X, X = w4.setCell ⟨h, 2, none⟩ (.int .i64 (x : Int)) := ⟨_, rfl⟩
                  rw [← hX]
                  have HT5 : Hid (But g wr w5) := Lib.hid (by rw [hX]; exact HT4.out.setFar HHG.out.1 _)
                  have HH5 : Hid (Blk w5 h 26 #[.int .i64 (last + (d : Int)), .int .i64 3, .int .i64 (x : Int), .int .i64 0]) := Lib.hid (by rw [hX]; exact HH4.out.set_ 2 _)
                  have HR5 : Hid (Rdr w5 g (some A0) n c a3 .nilIface) := Lib.hid (by rw [hX]; exact Blk.far HR4.out (fun e => HHG.out.2 e.symm) _)
                  clear hX
                  go_must (refine (number_ok g (some A0) n c a3 l y a4 _ HR5.out (HT5.out.reads hgw HRD.out) HB.out hn (nr_some HK4.out).1 (nr_some HK4.out).2).mono ?_)
                  rintro e w6 ⟨rfl, hr, hbt⟩
                  have HR6 := Lib.hid hr
                  have HT6 := Lib.hid (HT5.out.trans hbt)
                  have HH6 := Lib.hid (hbt.blk HH5.out HHG.out.2)
                  clear hr hbt
                  have q60 : w6.cell? ⟨h, 0, none⟩ = some (.int .i64 (last + (d : Int))) := HH6.out.cell 0
                  have p60 : w6.frozen? ⟨h, 0, none⟩ = false := HH6.out.frozen 0
                  have q61 : w6.cell? ⟨h, 1, none⟩ = some (.int .i64 3) := HH6.out.cell 1
                  have p61 : w6.frozen? ⟨h, 1, none⟩ = false := HH6.out.frozen 1
                  have q62 : w6.cell? ⟨h, 2, none⟩ = some (.int .i64 (x : Int)) := HH6.out.cell 2
                  have p62 : w6.frozen? ⟨h, 2, none⟩ = false := HH6.out.frozen 2
                  have q63 : w6.cell? ⟨h, 3, none⟩ = some (.int .i64 0) := HH6.out.cell 3
                  have p63 : w6.frozen? ⟨h, 3, none⟩ = false := HH6.out.frozen 3
                  go_wp2_with (at_builtin
                               go_must (refine wpList_append_any _ rfl (.tmp 54) (.tmp 56) _ rfl (g + 1) 26 i0 _ 4 32 Tryd.underlying24 hi0 hz0 hz1 hz2 rfl (by omega) u5 out.length (pks out) rfl ((But.own (HT6.out.setFar (p := ⟨h, 3, none⟩) HHG.out.1 _) HO.out (Nat.lt_succ_self _)).alloc _) _ (some ⟨w6.heap.size, 0, none⟩) 1 1 (pkc ⟨(last + (d : Int)), 3, (x : Int), (y : Int)⟩) rfl (by exact reads_newA _ _ _ 4 1 _ _ (by simp [World.setCell]) rfl rfl) (pkc_one _) (by unfold maxLen; omega) (by omega) (by have := HT6.out.size; simp [World.setCell]; omega) ?_)
                               intro v2 W hown2 hg2 hat2
                               have ch0 : W.cell? ⟨h, 0, none⟩ = some (.int .i64 (last + (d : Int))) := ((Blk.alloc (HH6.out.set_ 3 _) _).grown hg2 (own_ne_high HO.out HHG.out.1)).cell 0
                               have HG2 := Lib.hid hg2
                               have HW2 := Lib.hid hown2
                               clear hg2 hown2 hat2)
                  exact ps_next_good (p := ⟨(last + (d : Int)), 3, (x : Int), (y : Int)⟩) HBR.out hgw HO.out ((HT6.out.setFar (p := ⟨h, 3, none⟩) HHG.out.1 _).alloc _) (Blk.alloc (Blk.far HR6.out (p := ⟨h, 3, none⟩) (fun e => HHG.out.2 e.symm) _) _) HG2.out HW2.out HR0.out HRUN.out hlt HLN.out (by simp [prsStep, HK1.out, HK2.out, HK3.out, HK4.out]) (by omega) (by omega)
            · by_cases e5 : act = 5
              · subst e5
                cases k3x : nr l a2 with
                | none =>
                  have HK3 := Lib.hid k3x
                  clear k3x
                  go_wp2_with fail
                  go_must (refine (number_ok g (some A0) n c a l d a1 _ HR0.out (HT0.out.reads hgw HRD.out) HB.out hn (nr_some HK1.out).1 (nr_some HK1.out).2).mono ?_)
                  rintro e w1 ⟨rfl, hr, hbt⟩
                  have HR1 := Lib.hid hr
                  have HT1 := Lib.hid (HT0.out.trans hbt)
                  clear hr hbt
                  go_wp2_with fail
                  go_must (refine (number_ok g (some A0) n c a1 l 5 a2 _ HR1.out (HT1.out.reads hgw HRD.out) HB.out hn (nr_some HK2.out).1 (nr_some HK2.out).2).mono ?_)
                  rintro e w2 ⟨rfl, hr, hbt⟩
                  have HR2 := Lib.hid hr
                  have HT2 := Lib.hid (HT1.out.trans hbt)
                  clear hr hbt
                  go_wp2_with fail
                  obtain ⟨w3, hX⟩ : ∃ X, X = w2.alloc (Obj.cells #[.int .i64 (last + (d : Int)), .int .i64 5, .int .i64 0, .int .i64 0] 26) := ⟨_, rfl⟩
                  rw [← hX]
                  have HT3 : Hid (But g wr w3) := Lib.hid (by rw [hX]; exact HT2.out.alloc _)
                  have HH3 : Hid (Blk w3 w2.heap.size 26 #[.int .i64 (last + (d : Int)), .int .i64 5, .int .i64 0, .int .i64 0]) := Lib.hid (by rw [hX]; exact Blk.new _ _ _)
                  have HR3 : Hid (Rdr w3 g (some A0) n c a2 .nilIface) := Lib.hid (by rw [hX]; exact Blk.alloc HR2.out _)
                  obtain ⟨h, hh⟩ : ∃ h, h = w2.heap.size := ⟨_, rfl⟩
                  rw [← hh] at HH3 ⊢
                  have HHG : Hid (wr.heap.size ≤ h ∧ h ≠ g) := Lib.hid (by have := HT2.out.size; omega)
                  clear hX hh
                  go_must (refine (number_do g A0 n c a2 l ad _ HR3.out (HT3.out.reads hgw HRD.out) HB.out hn hg5 ((HT3.out.cell (p := ⟨4, 0, none⟩) (by simp; omega) (by simp; omega)).trans HEB.out) ((HT3.out.cell (p := ⟨5, 0, none⟩) (by simp; omega) (by simp; omega)).trans HEE.out) (by omega) hc hcm HK3.out).mono ?_)
                  rintro e w4 ⟨rfl, hbt, pe, ke, pos, hr, hpe, hkp, hne⟩
                  have HR4 := Lib.hid hr
                  have HPE4 := Lib.hid hkp
                  have HNE := Lib.hid hne
                  have HH4 := Lib.hid (hbt.blk HH3.out HHG.out.2)
                  have HT4 := Lib.hid (HT3.out.trans hbt)
                  clear hr hbt hkp hne hpe
                  have q40 : w4.cell? ⟨h, 0, none⟩ = some (.int .i64 (last + (d : Int))) := HH4.out.cell 0
                  have p40 : w4.frozen? ⟨h, 0, none⟩ = false := HH4.out.frozen 0
                  have q41 : w4.cell? ⟨h, 1, none⟩ = some (.int .i64 5) := HH4.out.cell 1
                  have p41 : w4.frozen? ⟨h, 1, none⟩ = false := HH4.out.frozen 1
                  have q42 : w4.cell? ⟨h, 2, none⟩ = some (.int .i64 0) := HH4.out.cell 2
                  have p42 : w4.frozen? ⟨h, 2, none⟩ = false := HH4.out.frozen 2
                  have q43 : w4.cell? ⟨h, 3, none⟩ = some (.int .i64 0) := HH4.out.cell 3
                  have p43 : w4.frozen? ⟨h, 3, none⟩ = false := HH4.out.frozen 3
                  go_wp2_with (at_builtin
                               go_must (refine wpList_append_any _ rfl (.tmp 54) (.tmp 56) _ rfl (g + 1) 26 i0 _ 4 32 Tryd.underlying24 hi0 hz0 hz1 hz2 rfl (by omega) u5 out.length (pks out) rfl ((But.own (HT4.out.setFar (p := ⟨h, 3, none⟩) HHG.out.1 _) HO.out (Nat.lt_succ_self _)).alloc _) _ (some ⟨w4.heap.size, 0, none⟩) 1 1 (pkc ⟨(last + (d : Int)), 5, 0, 0⟩) rfl (by exact reads_newA _ _ _ 4 1 _ _ (by simp [World.setCell]) rfl rfl) (pkc_one _) (by unfold maxLen; omega) (by omega) (by have := HT4.out.size; simp [World.setCell]; omega) ?_)
                               intro v2 W hown2 hg2 hat2
                               have ch0 : W.cell? ⟨h, 0, none⟩ = some (.int .i64 (last + (d : Int))) := ((Blk.alloc (HH4.out.set_ 3 _) _).grown hg2 (own_ne_high HO.out HHG.out.1)).cell 0
                               have HG2 := Lib.hid hg2
                               have HW2 := Lib.hid hown2
                               clear hg2 hown2 hat2)
                  exact ps_next_bad (p := ⟨(last + (d : Int)), 5, 0, 0⟩) HBR.out hgw HO.out ((HT4.out.setFar (p := ⟨h, 3, none⟩) HHG.out.1 _).alloc _) (Blk.alloc (Blk.far HR4.out (p := ⟨h, 3, none⟩) (fun e => HHG.out.2 e.symm) _) _) ((HPE4.out.far (p := ⟨h, 3, none⟩) (Blk.ne_ HPE4.out HH4.out (by decide)) _).alloc _) HG2.out ((But.own (HT4.out.setFar (p := ⟨h, 3, none⟩) HHG.out.1 _) HO.out (Nat.lt_succ_self _)).alloc _) HW2.out HR0.out HRUN.out hlt HLN.out (.thr HK1.out HK2.out (.inr rfl) HK3.out) HNE.out (by omega)
                | some rk3 =>
                  obtain ⟨y, a3⟩ := rk3
                  have HK3 := Lib.hid k3x
                  have bk3 := (nr_some k3x).2
                  have ck3 := (tk_next HB.out (nr_some k3x).1).2.1
                  have dk3 := (tk_next HB.out (nr_some k3x).1).2.2.1
                  rw [HLN.out] at dk3
                  clear k3x
                  go_wp2_with fail
                  go_must (refine (number_ok g (some A0) n c a l d a1 _ HR0.out (HT0.out.reads hgw HRD.out) HB.out hn (nr_some HK1.out).1 (nr_some HK1.out).2).mono ?_)
                  rintro e w1 ⟨rfl, hr, hbt⟩
                  have HR1 := Lib.hid hr
                  have HT1 := Lib.hid (HT0.out.trans hbt)
                  clear hr hbt
                  go_wp2_with fail
                  go_must (refine (number_ok g (some A0) n c a1 l 5 a2 _ HR1.out (HT1.out.reads hgw HRD.out) HB.out hn (nr_some HK2.out).1 (nr_some HK2.out).2).mono ?_)
                  rintro e w2 ⟨rfl, hr, hbt⟩
                  have HR2 := Lib.hid hr
                  have HT2 := Lib.hid (HT1.out.trans hbt)
                  clear hr hbt
                  go_wp2_with fail
                  obtain ⟨w3, hX⟩ : ∃ X, X = w2.alloc (Obj.cells #[.int .i64 (last + (d : Int)), .int .i64 5, .int .i64 0, .int .i64 0] 26) := ⟨_, rfl⟩
                  rw [← hX]
                  have HT3 : Hid (But g wr w3) := Lib.hid (by rw [hX]; exact HT2.out.alloc _)
                  have HH3 : Hid (Blk w3 w2.heap.size 26 #[.int .i64 (last + (d : Int)), .int .i64 5, .int .i64 0, .int .i64 0]) := Lib.hid (by rw [hX]; exact Blk.new _ _ _)
                  have HR3 : Hid (Rdr w3 g (some A0) n c a2 .nilIface) := Lib.hid (by rw [hX]; exact Blk.alloc HR2.out _)
                  obtain ⟨h, hh⟩ : ∃ h, h = w2.heap.size := ⟨_, rfl⟩
                  rw [← hh] at HH3 ⊢
                  have HHG : Hid (wr.heap.size ≤ h ∧ h ≠ g) := Lib.hid (by have := HT2.out.size; omega)
                  clear hX hh
                  go_must (refine (number_ok g (some A0) n c a2 l y a3 _ HR3.out (HT3.out.reads hgw HRD.out) HB.out hn (nr_some HK3.out).1 (nr_some HK3.out).2).mono ?_)
                  rintro e w4 ⟨rfl, hr, hbt⟩
                  have HR4 := Lib.hid hr
                  have HT4 := Lib.hid (HT3.out.trans hbt)
                  have HH4 := Lib.hid (hbt.blk HH3.out HHG.out.2)
                  clear hr hbt
                  have q40 : w4.cell? ⟨h, 0, none⟩ = some (.int .i64 (last + (d : Int))) := HH4.out.cell 0
                  have p40 : w4.frozen? ⟨h, 0, none⟩ = false := HH4.out.frozen 0
                  have q41 : w4.cell? ⟨h, 1, none⟩ = some (.int .i64 5) := HH4.out.cell 1
                  have p41 : w4.frozen? ⟨h, 1, none⟩ = false := HH4.out.frozen 1
                  have q42 : w4.cell? ⟨h, 2, none⟩ = some (.int .i64 0) := HH4.out.cell 2
                  have p42 : w4.frozen? ⟨h, 2, none⟩ = false := HH4.out.frozen 2
                  have q43 : w4.cell? ⟨h, 3, none⟩ = some (.int .i64 0) := HH4.out.cell 3
                  have p43 : w4.frozen? ⟨h, 3, none⟩ = false := HH4.out.frozen 3
                  go_wp2_with (at_builtin
                               go_must (refine wpList_append_any _ rfl (.tmp 54) (.tmp 56) _ rfl (g + 1) 26 i0 _ 4 32 Tryd.underlying24 hi0 hz0 hz1 hz2 rfl (by omega) u5 out.length (pks out) rfl ((But.own (HT4.out.setFar (p := ⟨h, 3, none⟩) HHG.out.1 _) HO.out (Nat.lt_succ_self _)).alloc _) _ (some ⟨w4.heap.size, 0, none⟩) 1 1 (pkc ⟨(last + (d : Int)), 5, 0, (y : Int)⟩) rfl (by exact reads_newA _ _ _ 4 1 _ _ (by simp [World.setCell]) rfl rfl) (pkc_one _) (by unfold maxLen; omega) (by omega) (by have := HT4.out.size; simp [World.setCell]; omega) ?_)
                               intro v2 W hown2 hg2 hat2
                               have ch0 : W.cell? ⟨h, 0, none⟩ = some (.int .i64 (last + (d : Int))) := ((Blk.alloc (HH4.out.set_ 3 _) _).grown hg2 (own_ne_high HO.out HHG.out.1)).cell 0
                               have HG2 := Lib.hid hg2
                               have HW2 := Lib.hid hown2
                               clear hg2 hown2 hat2)
                  exact ps_next_good (p := ⟨(last + (d : Int)), 5, 0, (y : Int)⟩) HBR.out hgw HO.out ((HT4.out.setFar (p := ⟨h, 3, none⟩) HHG.out.1 _).alloc _) (Blk.alloc (Blk.far HR4.out (p := ⟨h, 3, none⟩) (fun e => HHG.out.2 e.symm) _) _) HG2.out HW2.out HR0.out HRUN.out hlt HLN.out (by simp [prsStep, HK1.out, HK2.out, HK3.out]) (by omega) (by omega)
              · have N3 := Lib.hid e3
                have N5 := Lib.hid e5
                have t3 : ((act : Int) == 3) = false := by simp; omega
                have t5 : ((act : Int) == 5) = false := by simp; omega
                clear e3 e5
                go_wp2_with fail
                go_must (refine (number_ok g (some A0) n c a l d a1 _ HR0.out (HT0.out.reads hgw HRD.out) HB.out hn (nr_some HK1.out).1 (nr_some HK1.out).2).mono ?_)
                rintro e w1 ⟨rfl, hr, hbt⟩
                have HR1 := Lib.hid hr
                have HT1 := Lib.hid (HT0.out.trans hbt)
                clear hr hbt
                go_wp2_with fail
                go_must (refine (number_ok g (some A0) n c a1 l act a2 _ HR1.out (HT1.out.reads hgw HRD.out) HB.out hn (nr_some HK2.out).1 (nr_some HK2.out).2).mono ?_)
                rintro e w2 ⟨rfl, hr, hbt⟩
                have HR2 := Lib.hid hr
                have HT2 := Lib.hid (HT1.out.trans hbt)
                clear hr hbt
                go_wp2_with (at_builtin
                             go_must (refine wpList_append_any _ rfl (.tmp 54) (.tmp 56) _ rfl (g + 1) 26 i0 _ 4 32 Tryd.underlying24 hi0 hz0 hz1 hz2 rfl (by omega) u5 out.length (pks out) rfl ((But.own (HT2.out.alloc _) HO.out (Nat.lt_succ_self _)).alloc _) _ (some ⟨(w2.heap.size + 1), 0, none⟩) 1 1 (pkc ⟨(last + (d : Int)), (act : Int), 0, 0⟩) rfl (by exact reads_newA _ _ _ 4 1 _ _ (by simp [World.setCell]) rfl rfl) (pkc_one _) (by unfold maxLen; omega) (by omega) (by have := HT2.out.size; simp [World.setCell]; omega) ?_)
                             intro v2 W hown2 hg2 hat2
                             have ch0 : W.cell? ⟨w2.heap.size, 0, none⟩ = some (.int .i64 (last + (d : Int))) := ((Blk.alloc (Blk.new w2 _ _) _).grown hg2 (own_ne_high HO.out HT2.out.size)).cell 0
                             have HG2 := Lib.hid hg2
                             have HW2 := Lib.hid hown2
                             clear hg2 hown2 hat2)
                exact ps_next_good (p := ⟨(last + (d : Int)), (act : Int), 0, 0⟩) HBR.out hgw HO.out ((HT2.out.alloc _).alloc _) (Blk.alloc (Blk.alloc HR2.out _) _) HG2.out HW2.out HR0.out HRUN.out hlt HLN.out (by simp [prsStep, HK1.out, HK2.out, N3.out, N5.out]) (by omega) (by omega)
      · have tlt : decide ((a : Int) < n) = false := by simp; omega
        have tlt' : decide (a < n) = false := by simp; omega
        have HZ : Hid (Run l out l.length last) := Lib.hid (by rw [HLN.out, show n = a by omega]; exact HRUN.out)
        obtain ⟨OA, oc, rfl, hro⟩ := own_reads HO.out
        have HRO := Lib.hid hro
        have HEr := Lib.hid (H3.out.below (HG.out ▸ HBR.out))
        clear hro
        by_cases h400 : 400 < out.length
        · have H4 := Lib.hid h400
          clear h400
          go_wp2_with fail
          go_must (refine (mayL_many OA out.length oc (eV am) _ H4.out ((HBR.out.cell (p := ⟨0, 0, none⟩) (by simp; omega)).trans HM.out)).mono ?_)
          rintro e wz ⟨rfl, rfl⟩
          unfold eV
          go_wp2
          go_ret2
          exact ⟨HG.out ▸ HBR.out, .inr (.inl ⟨out, last, HZ.out, .inl H4.out, _, _, rfl⟩)⟩
        · have H4 := Lib.hid h400
          clear h400
          go_wp2_with fail
          go_must (refine (mayL_in OA out.length oc out ak ai as_ _ HRO.out rfl (by have := H4.out; omega) HEr.out.hg HEr.out.hk HEr.out.hi HEr.out.hs).mono ?_)
          rintro e w2 ⟨hb2, he⟩
          have HB2 : Hid (Below w.heap.size w w2) := Lib.hid ((HG.out ▸ HBR.out).trans (hb2.mono (by have := HBR.out.size; omega)))
          have HR2 := Lib.hid ((HRO.out.below hb2).more hb2.size)
          clear hb2
          cases hm : mayF 0 0 out with
          | none =>
            rw [hm] at he
            replace he : e = .returned .nilIface := he
            subst he
            have HMF := Lib.hid hm
            clear hm
            go_wp2
            go_ret2
            exact ⟨HB2.out, .inl ⟨out, last, HZ.out, by have := H4.out; omega, HMF.out, OA, oc, rfl, HR2.out⟩⟩
          | some ic =>
            obtain ⟨i, cc⟩ := ic
            rw [hm] at he
            obtain ⟨b, rfl, _, _⟩ := he
            have HMF := Lib.hid hm
            clear hm
            go_wp2
            go_ret2
            exact ⟨HB2.out, .inr (.inl ⟨out, last, HZ.out, .inr (by rw [HMF.out]; exact Option.some_ne_none _), _, _, rfl⟩)⟩
    · have r0 : wr.cell? ⟨g, 0, none⟩ = some (.slice A n c) := h5.cell 0
      have r1 : wr.cell? ⟨g, 1, none⟩ = some (.int .i64 (a : Int)) := h5.cell 1
      have r2 : wr.cell? ⟨g, 2, none⟩ = some (.iface 58 (.pointer (some ⟨p, 0, none⟩))) := h5.cell 2
      have HX : Hid (∀ nq, PsPost w l ad (.returned (.tuple #[.slice none 0 0, .iface 58 (.pointer (some ⟨p, 0, none⟩))])) (wr.drewN nq)) := Lib.hid fun nq => ⟨below_drewN (HG.out ▸ HBR.out) nq, .inr (.inr ⟨out0, last0, a0, ex, k, pos, p, h1, h2, h3, h4, rfl, h6.drewN nq⟩)⟩
      clear h1 h2 h3 h4 h5 h6
      by_cases hlt : a < n
      · have tlt : decide ((a : Int) < n) = true := by simp; omega
        have tlt' : decide (a < n) = true := by simp; omega
        go_wp2
        go_quiet (fail)
        go_wp2
        go_ret2
        exact HX.out nq
      · have tlt : decide ((a : Int) < n) = false := by simp; omega
        have tlt' : decide (a < n) = false := by simp; omega
        go_wp2
        go_quiet (fail)
        go_wp2
        go_ret2
        exact HX.out nq
end Go.Proofs.YtomabogjoampnaaDoor
