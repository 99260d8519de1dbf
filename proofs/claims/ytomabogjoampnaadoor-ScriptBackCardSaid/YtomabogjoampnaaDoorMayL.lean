/- The contract of script.May: what is amiss with picks, and where. -/
import Derived.Test.YtomabogjoampnaaDoorMay
namespace Go.Proofs.YtomabogjoampnaaDoor
open Go.RowKit
set_option linter.unusedVariables false

/-- A pick. -/
structure Pk where
  at_ : Int
  act : Int
  a : Int
  b : Int
def pkc (p : Pk) : List Value := [.int .i64 p.at_, .int .i64 p.act, .int .i64 p.a, .int .i64 p.b]
def pks (l : List Pk) : List Value := l.flatMap pkc
theorem pks_len (l : List Pk) : (pks l).length = l.length * 4 := by
  induction l with
  | nil => rfl
  | cons p l ih => simp [pks, pkc] at *; omega
theorem pks_at (l : List Pk) : ∀ (k j : Nat) (h : k < l.length), j < 4 → (pks l)[k * 4 + j]? = (pkc l[k])[j]? := by
  induction l with
  | nil => intro k j h; simp at h
  | cons p l ih =>
    intro k j h hj
    have e : pks (p :: l) = pkc p ++ pks l := rfl
    rw [e]
    rcases k with _ | k
    · rw [List.getElem?_append_left (by simp [pkc]; omega)]; simp
    · rw [List.getElem?_append_right (by simp [pkc]; omega)]
      have := ih k j (by simpa using h) hj
      simp [pkc] at this ⊢
      rw [show (k + 1) * 4 + j - 4 = k * 4 + j by omega]
      exact this
theorem add_mk (a : Addr) (j : Nat) (hj : 0 < j) : (⟨a.block, a.off + j, none⟩ : Addr) = a.add j := by
  unfold Addr.add; rw [if_neg (by omega)]
theorem Reads.pick {w : World} {B n k : Nat} {A : Option Addr} {l : List Pk} (h : Reads w B 4 A n (pks l)) (hl : l.length = n) (hk : k < l.length) : ∃ ad, A = some ad ∧ ad.block < B ∧
    w.cell? (ad.add (k * 4)) = some (.int .i64 l[k].at_) ∧ w.cell? ⟨(ad.add (k * 4)).block, (ad.add (k * 4)).off + 1, none⟩ = some (.int .i64 l[k].act) ∧
    w.cell? ⟨(ad.add (k * 4)).block, (ad.add (k * 4)).off + 2, none⟩ = some (.int .i64 l[k].a) ∧ w.cell? ⟨(ad.add (k * 4)).block, (ad.add (k * 4)).off + 3, none⟩ = some (.int .i64 l[k].b) := by
  obtain ⟨ad, e, hb, hc⟩ := h.2 (by omega)
  have hj : ∀ j, 0 < j → (⟨(ad.add (k * 4)).block, (ad.add (k * 4)).off + j, none⟩ : Addr) = ad.add (k * 4 + j) := by
    intro j hj
    rw [add_mk _ _ hj, add_of_add]
  refine ⟨ad, e, hb, ?_, ?_, ?_, ?_⟩
  · exact hc (k * 4 + 0) _ (by rw [pks_at l k 0 hk (by omega)]; rfl)
  · rw [hj 1 (by omega)]; exact hc (k * 4 + 1) _ (by rw [pks_at l k 1 hk (by omega)]; rfl)
  · rw [hj 2 (by omega)]; exact hc (k * 4 + 2) _ (by rw [pks_at l k 2 hk (by omega)]; rfl)
  · rw [hj 3 (by omega)]; exact hc (k * 4 + 3) _ (by rw [pks_at l k 3 hk (by omega)]; rfl)
def mayP (p : Pk) (last : Int) : Nat := mayC p.at_ p.act p.a p.b last
/-- the first pick that may not be: its place, and why -/
def mayF : Nat → Int → List Pk → Option (Nat × Nat)
  | _, _, [] => none
  | i, last, p :: r => if mayP p last = 0 then mayF (i + 1) p.at_ r else some (i, mayP p last)
/-- the place of the last pick of the first k (0: there is none) -/
def lastAt (l : List Pk) (k : Nat) : Int := if k = 0 then 0 else (l[k - 1]?.map (·.at_)).getD 0
def MayRel (w : World) (l : List Pk) (n : Nat) (sl si : Value) (wr : World) : Prop :=
  ∃ k : Nat, k ≤ n ∧ si = .int .i64 (k : Int) ∧ sl = .int .i64 (lastAt l k) ∧ mayF 0 0 l = mayF k (lastAt l k) (l.drop k) ∧ Below w.heap.size w wr

def eV (a : Addr) : Value := .iface 91 (.pointer (some a))
theorem mayC_le (at_ act a b last : Int) : mayC at_ act a b last ≤ 3 := by
  unfold mayC
  split
  · decide
  · split
    · decide
    · split <;> decide
theorem errV_eV (ak ai as_ : Addr) (c : Nat) (h : c ≤ 3) (h0 : c ≠ 0) : ∃ x, errV (eV ak) (eV ai) (eV as_) c = .iface 91 (.pointer (some x)) := by
  rcases c with _ | _ | _ | _ | c
  · omega
  · exact ⟨ak, rfl⟩
  · exact ⟨ai, rfl⟩
  · exact ⟨as_, rfl⟩
  · omega
/-- what May leaves -/
def MayLPost (w : World) (l : List Pk) (kv iv sv : Value) (e : Ending) (w' : World) : Prop :=
  Below w.heap.size w w' ∧ match mayF 0 0 l with
  | none => e = .returned .nilIface
  | some (i, c) => ∃ b, e = .returned (.iface 58 (.pointer (some ⟨b, 0, none⟩))) ∧ w.heap.size ≤ b ∧ Blk w' b 60 #[.int .i64 (i : Int), errV kv iv sv c]

set_option maxRecDepth 100000 in
set_option maxHeartbeats 2000000 in
theorem mayL_in (A : Option Addr) (n c : Nat) (l : List Pk) (ak ai as_ : Addr) (w : World) (ha : Reads w w.heap.size 4 A n (pks l)) (hl : l.length = n) (hn : n ≤ 400) (hg : 3 < w.heap.size)
    (hk : w.cell? ⟨1, 0, none⟩ = some (eV ak)) (hi : w.cell? ⟨2, 0, none⟩ = some (eV ai)) (hs : w.cell? ⟨3, 0, none⟩ = some (eV as_)) :
    Calls Tryd.prog 9 #[.slice A n c] w (MayLPost w l (eV ak) (eV ai) (eV as_)) := by
  have h400 : decide (400 < n) = false := by simp; omega
  have HL := Lib.hid hl
  have HK := Lib.hid hk
  have HI := Lib.hid hi
  have HS := Lib.hid hs
  clear hl hk hi hs
  go_enter Tryd.func9, Tryd.ntmps9
  go_wp2
  go_loopw [3, 13] (fun sl si wr => MayRel w l n sl si wr) (fun _ si _ => n - (intOf si).toNat)
  case atStart => exact ⟨0, Nat.zero_le _, rfl, rfl, rfl, Below.refl _ _⟩
  case round =>
    obtain ⟨k, hkn, rfl, rfl, hm, hbr⟩ := hrel
    have HM := Lib.hid hm
    clear hm
    by_cases hlt : k < n
    · have hlk : k < l.length := by have := HL.out; omega
      obtain ⟨ad, rfl, had, q0, q1, q2, q3⟩ := (ha.below hbr).pick HL.out hlk
      have hz := hbr.size
      have G : ∀ (g : Nat) (o : Obj) v, g < 4 → w.cell? ⟨g, 0, none⟩ = some v → (wr.alloc o).cell? ⟨g, 0, none⟩ = some v := fun g o v h4 hv =>
        (World.cell?_alloc_lt wr o ⟨g, 0, none⟩ (by simp; omega)).trans ((hbr.cell (p := ⟨g, 0, none⟩) (by simp; omega)).trans hv)
      have HG := Lib.hid G
      clear G
      have HD : Hid (mayF k (lastAt l k) (l.drop k) = if mayP l[k] (lastAt l k) = 0 then mayF (k + 1) l[k].at_ (l.drop (k + 1)) else some (k, mayP l[k] (lastAt l k))) := Lib.hid (by
        rw [List.drop_eq_getElem_cons hlk]; rfl)
      have HLA : Hid (lastAt l (k + 1) = l[k].at_) := Lib.hid (by simp [lastAt, List.getElem?_eq_getElem hlk])
      obtain ⟨p, hp⟩ : ∃ p, p = l[k] := ⟨_, rfl⟩
      rw [← hp] at q0 q1 q2 q3 HD HLA
      obtain ⟨lst, hlst⟩ : ∃ x, x = lastAt l k := ⟨_, rfl⟩
      rw [← hlst] at HD ⊢
      have HLS := Lib.hid hlst
      clear hp hlst
      go_wp2_with fail
      refine (may_any p.at_ p.act p.a p.b lst (eV ak) (eV ai) (eV as_) _ (by simp; omega) (by exact HG.out _ _ _ (by omega) HK.out) (by exact HG.out _ _ _ (by omega) HI.out) (by exact HG.out _ _ _ (by omega) HS.out)).mono ?_
      rintro e w1 ⟨rfl, hb1⟩
      have hbw : Below w.heap.size w w1 := (hbr.alloc hbr.size _).trans (hb1.mono (by simp; omega))
      have hc5 : w1.cell? ⟨wr.heap.size, 0, none⟩ = some (.int .i64 p.at_) := (hb1.cell (p := ⟨wr.heap.size, 0, none⟩) (by simp)).trans ((Blk.new wr _ _).cell 0)
      by_cases h0 : mayC p.at_ p.act p.a p.b lst = 0
      · rw [h0]
        simp only [errV]
        have HN : Hid (mayF 0 0 l = mayF (k + 1) p.at_ (l.drop (k + 1))) := Lib.hid (by
          rw [HM.out, ← HLS.out, HD.out, if_pos (by exact h0)])
        clear h0
        go_wp2
        exact ⟨⟨k + 1, by omega, by go_num, by rw [HLA.out], by rw [HN.out, HLA.out], hbw⟩, by simp [intOf]; omega⟩
      · obtain ⟨x, hx⟩ := errV_eV ak ai as_ _ (mayC_le p.at_ p.act p.a p.b lst) h0
        have HX := Lib.hid hx
        rw [hx]
        clear hx
        have HN : Hid (mayF 0 0 l = some (k, mayC p.at_ p.act p.a p.b lst)) := Lib.hid (by
          rw [HM.out, ← HLS.out, HD.out, if_neg (by exact h0)]; rfl)
        clear h0
        go_wp2
        go_ret
        refine ⟨hbw.alloc hbw.size _, ?_⟩
        rw [HN.out]
        refine ⟨w1.heap.size, rfl, hbw.size, ?_⟩
        rw [HX.out]
        exact Blk.new w1 _ _
    · have HN : Hid (mayF 0 0 l = none) := Lib.hid (by
        rw [HM.out, List.drop_eq_nil_of_le (by have := HL.out; omega)]; rfl)
      go_wp2
      go_ret
      refine ⟨hbr, ?_⟩
      rw [HN.out]
      rfl
theorem mayL_many (A : Option Addr) (n c : Nat) (v : Value) (w : World) (hn : 400 < n) (hm : w.cell? ⟨0, 0, none⟩ = some v) :
    Calls Tryd.prog 9 #[.slice A n c] w fun e w' => e = .returned v ∧ w = w' := by
  have h400 : decide (400 < n) = true := by simpa using hn
  go_enter Tryd.func9, Tryd.ntmps9
  go_wp2
  go_ret
  exact ⟨rfl, rfl⟩
end Go.Proofs.YtomabogjoampnaaDoor
