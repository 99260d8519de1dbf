/- The document's reader in memory; the contracts of its bad, fail, byte, long, number, letters. -/
import Derived.Test.YtnojejplckhifaaDoorRT3
import Derived.Test.YtnojejplckhifaaDoorRd7
import Derived.Test.YtnojejplckhifaaDoorPC
import Derived.Test.YtnojejplckhifaaDoorRm1
namespace Go.Proofs.YtnojejplckhifaaDoor
open Go.RowKit
set_option linter.unusedVariables false

/-- the document's reader in block g, over the bytes B, stands in the state s; where it has met an error its place is no matter -/
structure QAt (w : World) (g : Nat) (B : Option Addr) (n c : Nat) (s : RS) : Prop where
  blk : ∃ (a code : Int) (sl : Value), Blk w g 86 #[.slice B n c, .int .i64 a, .int .i64 code, sl] ∧ (s.err = none → a = (s.at_ : Int) ∧ code = 0 ∧ sl = .slice none 0 0) ∧
    ∀ kp, s.err = some kp → code = 101 + (kp.1 : Int) ∧ ∃ b, sl = .slice (some ⟨b, 0, none⟩) 1 1 ∧ g < b ∧ Blk w b 3 #[.int .i64 (kp.2 : Int)]
  le : s.err = none → s.at_ ≤ n
theorem QAt.lt {w : World} {g : Nat} {B : Option Addr} {n c : Nat} {s : RS} (h : QAt w g B n c s) : g < w.heap.size := by
  obtain ⟨_, _, _, h1, _⟩ := h.blk
  exact h1.lt
theorem QAt.c0 {w : World} {g : Nat} {B : Option Addr} {n c : Nat} {s : RS} (h : QAt w g B n c s) : w.cell? ⟨g, 0, none⟩ = some (.slice B n c) := by
  obtain ⟨_, _, _, h1, _⟩ := h.blk
  exact h1.cell 0
theorem QAt.open_ {w : World} {g : Nat} {B : Option Addr} {n c : Nat} {s : RS} (h : QAt w g B n c s) (he : s.err = none) : Blk w g 86 #[.slice B n c, .int .i64 (s.at_ : Int), .int .i64 0, .slice none 0 0] := by
  obtain ⟨a, cd, sl, h1, h2, _⟩ := h.blk
  obtain ⟨rfl, rfl, rfl⟩ := h2 he
  exact h1
theorem QAt.shut {w : World} {g : Nat} {B : Option Addr} {n c : Nat} {s : RS} (h : QAt w g B n c s) {kp : Nat × Nat} (he : s.err = some kp) : ∃ (a : Int) (b : Nat), g < b ∧ Blk w g 86 #[.slice B n c, .int .i64 a, .int .i64 (101 + (kp.1 : Int)), .slice (some ⟨b, 0, none⟩) 1 1] ∧ Blk w b 3 #[.int .i64 (kp.2 : Int)] := by
  obtain ⟨a, cd, sl, h1, _, h3⟩ := h.blk
  obtain ⟨rfl, b, rfl, hb, hk⟩ := h3 kp he
  exact ⟨a, b, hb, h1, hk⟩
theorem QAt.mk0 {w : World} {g : Nat} {B : Option Addr} {n c : Nat} {s : RS} (he : s.err = none) (h : Blk w g 86 #[.slice B n c, .int .i64 (s.at_ : Int), .int .i64 0, .slice none 0 0]) (hl : s.at_ ≤ n) : QAt w g B n c s :=
  ⟨⟨_, _, _, h, fun _ => ⟨rfl, rfl, rfl⟩, fun kp hk => by rw [he] at hk; cases hk⟩, fun _ => hl⟩
theorem QAt.mk1 {w : World} {g b : Nat} {B : Option Addr} {n c : Nat} {s : RS} {a : Int} {kp : Nat × Nat} (he : s.err = some kp) (h : Blk w g 86 #[.slice B n c, .int .i64 a, .int .i64 (101 + (kp.1 : Int)), .slice (some ⟨b, 0, none⟩) 1 1]) (hb : g < b) (hk : Blk w b 3 #[.int .i64 (kp.2 : Int)]) : QAt w g B n c s :=
  ⟨⟨_, _, _, h, (fun h0 => by rw [he] at h0; cases h0), fun kp' hk' => by rw [he] at hk'; cases hk'; exact ⟨rfl, b, rfl, hb, hk⟩⟩, fun h0 => by rw [he] at h0; cases h0⟩
theorem QAt.but {w w' : World} {g : Nat} {B : Option Addr} {n c : Nat} {s : RS} (h : QAt w g B n c s) (hb : Below w.heap.size w w') : QAt w' g B n c s := by
  obtain ⟨a, cd, sl, h1, h2, h3⟩ := h.blk
  exact ⟨⟨a, cd, sl, h1.below hb h1.lt, h2, fun kp hk => by obtain ⟨e1, b, e2, e3, e4⟩ := h3 kp hk; exact ⟨e1, b, e2, e3, e4.below hb e4.lt⟩⟩, h.le⟩
theorem QAt.set {w : World} {g : Nat} {B : Option Addr} {n c : Nat} {s : RS} (h : QAt w g B n c s) {k i : Nat} {t : TypeId} {cs : Array Value} (hk : Blk w k t cs) (ht : t ≠ 86) (ht2 : t ≠ 3) (u : Value) : QAt (w.setCell ⟨k, i, none⟩ u) g B n c s := by
  obtain ⟨a, cd, sl, h1, h2, h3⟩ := h.blk
  exact ⟨⟨a, cd, sl, h1.far (p := ⟨k, i, none⟩) (Blk.ne_ h1 hk (fun e => ht e.symm)) u, h2, fun kp hq => by obtain ⟨e1, b, e2, e3, e4⟩ := h3 kp hq; exact ⟨e1, b, e2, e3, e4.far (p := ⟨k, i, none⟩) (Blk.ne_ e4 hk (fun e => ht2 e.symm)) u⟩⟩, h.le⟩
structure QEnv (w : World) (g : Nat) (B : Option Addr) (n c : Nat) (l : List Nat) : Prop where
  reads : Reads w g 1 B n (l.map bv)
  byte : ∀ x ∈ l, x < 256
  hn : n ≤ 16384
  hc : n ≤ c
  hcm : c ≤ maxLen
  lt : g < w.heap.size
theorem QEnv.but {w w' : World} {g : Nat} {B : Option Addr} {n c : Nat} {l : List Nat} (h : QEnv w g B n c l) (hb : But g w w') : QEnv w' g B n c l :=
  ⟨hb.reads (Nat.le_of_lt h.lt) h.reads, h.byte, h.hn, h.hc, h.hcm, Nat.lt_of_lt_of_le h.lt hb.size⟩
theorem QEnv.len {w : World} {g : Nat} {B : Option Addr} {n c : Nat} {l : List Nat} (h : QEnv w g B n c l) : l.length = n := by have := h.reads.1; simpa using this
def QPost (w : World) (g : Nat) (B : Option Addr) (n c : Nat) (v : Value) (s : RS) (e : Ending) (w' : World) : Prop := e = .returned v ∧ QAt w' g B n c s ∧ But g w w'
theorem qbad_is (g : Nat) (B : Option Addr) (n c : Nat) (s : RS) (t : Bool) (w : World) (h : QAt w g B n c s) (ht : s.err.isSome = t) : Calls Tryd.prog 49 #[.pointer (some ⟨g, 0, none⟩)] w fun e w' => e = .returned (.bool t) ∧ w' = w := by
  subst ht
  cases he : s.err with
  | none =>
    have hb := h.open_ he
    have c2 : w.cell? ⟨g, 2, none⟩ = some (.int .i64 0) := hb.cell 2
    have hlt := hb.lt
    clear hb h he
    go_enter Tryd.func49, Tryd.ntmps49
    go_wp2
    go_ret
    exact ⟨rfl, rfl⟩
  | some kp =>
    obtain ⟨a, b, _, hb, _⟩ := h.shut he
    have c2 : w.cell? ⟨g, 2, none⟩ = some (.int .i64 (101 + (kp.1 : Int))) := hb.cell 2
    have hlt := hb.lt
    have t1 : ((101 + (kp.1 : Int)) != 0) = true := by rw [bne_iff_ne]; omega
    clear hb h he
    go_enter Tryd.func49, Tryd.ntmps49
    go_wp2
    go_ret
    exact ⟨rfl, rfl⟩
set_option maxRecDepth 100000 in
set_option maxHeartbeats 1000000 in
theorem qfail_any (g : Nat) (B : Option Addr) (n c : Nat) (s : RS) (k pos : Nat) (cd : Int) (hcd : cd = 101 + (k : Int)) (w : World) (h : QAt w g B n c s) :
    Calls Tryd.prog 51 #[.pointer (some ⟨g, 0, none⟩), .int .i64 cd, .int .i64 (pos : Int)] w (QPost w g B n c (.tuple #[]) (failR s k pos)) := by
  have HQ := Lib.hid h
  cases he : s.err with
  | some kp =>
    have HF : Hid (failR s k pos = s) := Lib.hid (by unfold failR; rw [he])
    have hb := qbad_is g B n c s true w h (by rw [he]; rfl)
    have HB := Lib.hid hb
    clear hb h he
    go_enter Tryd.func51, Tryd.ntmps51
    go_wp2_with fail
    refine HB.out.mono ?_
    rintro e w1 ⟨rfl, hw⟩
    rw [hw]
    clear hw
    go_wp2
    go_end0
    exact ⟨rfl, by rw [HF.out]; exact HQ.out, But.refl⟩
  | none =>
    have HF : Hid ((failR s k pos).err = some (k, pos)) := Lib.hid (by unfold failR; rw [he])
    have HB := Lib.hid (qbad_is g B n c s false w h (by rw [he]; rfl))
    have HK := Lib.hid (h.open_ he)
    have HC := Lib.hid hcd
    have t1 : (cd == 0) = false := by rw [beq_eq_false_iff_ne]; omega
    clear h he hcd
    go_enter Tryd.func51, Tryd.ntmps51
    go_wp2_with fail
    refine HB.out.mono ?_
    rintro e w1 ⟨rfl, hw⟩
    rw [hw]
    clear hw
    go_wp2_with fail
    refine (placed_any cd pos _ t1).mono ?_
    rintro e w2 ⟨b2, rfl, hg2, hk2, hb2⟩
    have HK2 := Lib.hid (HK.out.below hb2 HK.out.lt)
    have HB2 := Lib.hid hb2
    have HKB := Lib.hid hk2
    have HGB : Hid (g < b2) := Lib.hid (Nat.lt_of_lt_of_le HK.out.lt hg2)
    unfold fV
    clear hg2 hk2 hb2
    have c2 : w2.cell? ⟨g, 2, none⟩ = some (.int .i64 0) := HK2.out.cell 2
    have c3 : w2.cell? ⟨g, 3, none⟩ = some (.slice none 0 0) := HK2.out.cell 3
    have f2 := HK2.out.frozen 2
    have f3 := HK2.out.frozen 3
    have hlt := HK2.out.lt
    go_wp2
    go_end0
    have hne : b2 ≠ g := by have := HGB.out; omega
    refine ⟨rfl, QAt.mk1 (a := (s.at_ : Int)) (b := b2) HF.out ?_ HGB.out ((HKB.out.far (p := ⟨g, 2, none⟩) hne _).far (p := ⟨g, 3, none⟩) hne _), ((But.of HB2.out).setCell 2 _).setCell 3 _⟩
    have := (HK2.out.set_ 2 (.int .i64 cd)).set_ 3 (.slice (some ⟨b2, 0, none⟩) 1 1)
    rw [HC.out] at this ⊢
    exact this
end Go.Proofs.YtnojejplckhifaaDoor
