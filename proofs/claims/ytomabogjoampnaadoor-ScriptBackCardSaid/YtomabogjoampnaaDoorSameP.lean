/- The contracts of overdriveref.SamePick and SamePicks. -/
import Derived.Test.YtomabogjoampnaaDoorNew
namespace Go.Proofs.YtomabogjoampnaaDoor
open Go.RowKit
set_option linter.unusedVariables false

def eqPk (p q : Pk) : Bool := p.at_ == q.at_ && (p.act == q.act && (p.a == q.a && p.b == q.b))
theorem eqPk_iff (p q : Pk) : eqPk p q = true ↔ p = q := by
  cases p; cases q; simp [eqPk]
def pv (p : Pk) : Value := .agg #[.int .i64 p.at_, .int .i64 p.act, .int .i64 p.a, .int .i64 p.b]
def SPost (w : World) (b : Bool) (e : Ending) (w' : World) : Prop := e = .returned (.bool b) ∧ Below w.heap.size w w'
set_option maxRecDepth 100000 in
set_option maxHeartbeats 400000 in
theorem sameP1_any (p q : Pk) (w : World) : Calls Tryd.prog 29 #[.agg #[.int .i64 p.at_, .int .i64 p.act, .int .i64 p.a, .int .i64 p.b], .agg #[.int .i64 q.at_, .int .i64 q.act, .int .i64 q.a, .int .i64 q.b]] w (SPost w (eqPk p q)) := by
  have hb : ∀ X Y, Below w.heap.size w ((w.alloc X).alloc Y) := fun X Y => ((Below.refl _ _).alloc (Nat.le_refl _) X).alloc (by simp) Y
  have HB := Lib.hid hb
  clear hb
  unfold eqPk
  cases h1 : p.at_ == q.at_
  · go_enter Tryd.func29, Tryd.ntmps29
    go_wp2
    go_ret
    exact ⟨rfl, HB.out _ _⟩
  cases h2 : p.act == q.act
  · go_enter Tryd.func29, Tryd.ntmps29
    go_wp2
    go_ret
    exact ⟨rfl, HB.out _ _⟩
  cases h3 : p.a == q.a
  · go_enter Tryd.func29, Tryd.ntmps29
    go_wp2
    go_ret
    exact ⟨rfl, HB.out _ _⟩
  go_enter Tryd.func29, Tryd.ntmps29
  go_wp2
  go_ret
  exact ⟨rfl, HB.out _ _⟩
def SPsPost (w : World) (l l' : List Pk) (e : Ending) (w' : World) : Prop := (∃ b, e = .returned (.bool b) ∧ (b = true ↔ l = l')) ∧ Below w.heap.size w w'
def SPsRel (w : World) (l l' : List Pk) (si : Value) (wr : World) : Prop :=
  ∃ k : Nat, k ≤ l.length ∧ si = .int .i64 (k : Int) ∧ l.take k = l'.take k ∧ Below w.heap.size w wr
set_option maxRecDepth 100000 in
set_option maxHeartbeats 1000000 in
theorem samePs_any (A B : Option Addr) (n m c d : Nat) (l l' : List Pk) (w : World) (ha : Reads w w.heap.size 4 A n (pks l)) (hl : l.length = n) (hb : Reads w w.heap.size 4 B m (pks l')) (hl' : l'.length = m)
    (hn : n ≤ 1099511627776) :
    Calls Tryd.prog 16 #[.slice A n c, .slice B m d] w (SPsPost w l l') := by
  by_cases hnm : n = m
  · subst hnm
    have HL := Lib.hid hl
    have HL' := Lib.hid hl'
    clear hl hl'
    go_enter Tryd.func16, Tryd.ntmps16
    go_wp2
    go_loopw [5] (fun si wr => SPsRel w l l' si wr) (fun si _ => n - (intOf si).toNat)
    case atStart => exact ⟨0, Nat.zero_le _, rfl, rfl, Below.refl _ _⟩
    case round =>
      obtain ⟨k, hk, rfl, htake, hbr⟩ := hrel
      have HT := Lib.hid htake
      have HBR := Lib.hid hbr
      clear htake
      by_cases hlt : k < n
      · have hk1 : k < l.length := by have := HL.out; omega
        have hk2 : k < l'.length := by have := HL'.out; omega
        obtain ⟨ad, rfl, had, q0, q1, q2, q3⟩ := (ha.below hbr).pick HL.out hk1
        obtain ⟨bd, rfl, hbd, r0, r1, r2, r3⟩ := (hb.below hbr).pick HL'.out hk2
        obtain ⟨x, hx⟩ : ∃ x, x = l[k] := ⟨_, rfl⟩
        obtain ⟨y, hy⟩ : ∃ y, y = l'[k] := ⟨_, rfl⟩
        rw [← hx] at q0 q1 q2 q3
        rw [← hy] at r0 r1 r2 r3
        have HX := Lib.hid hx
        have HY := Lib.hid hy
        clear hx hy
        have k0 : (0 : Int) ≤ k := by omega
        have kn : (k : Int) < n := by omega
        clear hbr
        go_wp2_with fail
        go_region_held3 (fun w' => w'.cell? (ad.add (k * 4)) = some (.int .i64 x.at_) ∧ w'.cell? ⟨(ad.add (k * 4)).block, (ad.add (k * 4)).off + 1, none⟩ = some (.int .i64 x.act) ∧ w'.cell? ⟨(ad.add (k * 4)).block, (ad.add (k * 4)).off + 2, none⟩ = some (.int .i64 x.a) ∧ w'.cell? ⟨(ad.add (k * 4)).block, (ad.add (k * 4)).off + 3, none⟩ = some (.int .i64 x.b) ∧ w'.cell? (bd.add (k * 4)) = some (.int .i64 y.at_) ∧ w'.cell? ⟨(bd.add (k * 4)).block, (bd.add (k * 4)).off + 1, none⟩ = some (.int .i64 y.act) ∧ w'.cell? ⟨(bd.add (k * 4)).block, (bd.add (k * 4)).off + 2, none⟩ = some (.int .i64 y.a) ∧ w'.cell? ⟨(bd.add (k * 4)).block, (bd.add (k * 4)).off + 3, none⟩ = some (.int .i64 y.b)) (first | go_keep | exact HS.out) ((go_at_call 29; refine (sameP1_any x y _).mono ?_; rintro e w2 ⟨rfl, hb2⟩; have HB2 : Hid (Below w.heap.size w w2) := Lib.hid (HBR.out.drew.trans (hb2.mono HBR.out.size)); have hz : w.heap.size ≤ wr.drew.heap.size := HBR.out.size; have HS := Lib.hid (show _ ∧ _ ∧ _ ∧ _ ∧ _ ∧ _ ∧ _ ∧ _ from ⟨(hb2.cell (p := ad.add (k * 4)) (by rw [block_of_add]; omega)).trans q0, (hb2.cell (p := ⟨(ad.add (k * 4)).block, (ad.add (k * 4)).off + 1, none⟩) (by simp only [block_of_add]; omega)).trans q1, (hb2.cell (p := ⟨(ad.add (k * 4)).block, (ad.add (k * 4)).off + 2, none⟩) (by simp only [block_of_add]; omega)).trans q2, (hb2.cell (p := ⟨(ad.add (k * 4)).block, (ad.add (k * 4)).off + 3, none⟩) (by simp only [block_of_add]; omega)).trans q3, (hb2.cell (p := bd.add (k * 4)) (by rw [block_of_add]; omega)).trans r0, (hb2.cell (p := ⟨(bd.add (k * 4)).block, (bd.add (k * 4)).off + 1, none⟩) (by simp only [block_of_add]; omega)).trans r1, (hb2.cell (p := ⟨(bd.add (k * 4)).block, (bd.add (k * 4)).off + 2, none⟩) (by simp only [block_of_add]; omega)).trans r2, (hb2.cell (p := ⟨(bd.add (k * 4)).block, (bd.add (k * 4)).off + 3, none⟩) (by simp only [block_of_add]; omega)).trans r3⟩)))
        cases hxy : eqPk x y
        · go_wp2
          go_ret
          refine ⟨⟨false, rfl, ?_⟩, HB2.out⟩
          constructor
          · intro h; cases h
          · intro e
            subst e
            have : eqPk x y = true := (eqPk_iff x y).2 (by rw [HX.out, HY.out])
            rw [hxy] at this
            exact this
        · have hxy2 : x = y := (eqPk_iff x y).1 hxy
          have HXY := Lib.hid hxy2
          clear hxy2
          go_wp2
          refine ⟨⟨k + 1, by omega, by go_num, ?_, HB2.out⟩, by simp [intOf]; omega⟩
          rw [List.take_succ_eq_append_getElem hk1, List.take_succ_eq_append_getElem hk2, HT.out, ← HX.out, ← HY.out, HXY.out]
      · go_wp2
        go_ret
        refine ⟨⟨true, rfl, ?_⟩, hbr⟩
        have h := HT.out
        rw [List.take_of_length_le (by have := HL.out; omega), List.take_of_length_le (by have := HL'.out; omega)] at h
        exact ⟨fun _ => h, fun _ => rfl⟩
  · have hnm' : ((n : Int) == (m : Int)) = false := beq_eq_false_iff_ne.2 (by omega)
    have hnm2 : ((n : Int) != (m : Int)) = true := by rw [bne_iff_ne]; omega
    have HD : Hid (¬ l = l') := Lib.hid (by
      intro e
      apply hnm
      rw [← hl, ← hl', e])
    clear hl hl' hnm
    go_enter Tryd.func16, Tryd.ntmps16
    go_wp2
    go_ret
    exact ⟨⟨false, rfl, Iff.intro (fun h => absurd h (by decide)) (fun e => absurd e HD.out)⟩, Below.refl _ _⟩
end Go.Proofs.YtomabogjoampnaaDoor
