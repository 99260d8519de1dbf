/- The chapter's examples: overdrivelaw4.first answers true. -/
import Derived.Test.YtnojejplckhifaaDoorEnc
import Derived.Test.YtnojejplckhifaaDoorDec
import Derived.Test.YtnojejplckhifaaDoorFlt
import Derived.Test.YtnojejplckhifaaDoorSame
namespace Go.Proofs.YtnojejplckhifaaDoor
open Go.RowKit
set_option linter.unusedVariables false

theorem encode_is (p : PV) (v : Value) (hv : v = p.val) (o : Option (List Nat) × Option (Nat × List Int)) (ho : encO p.prg = o) (ad : Nat → Addr) (w : World) (hE : Errs w ad) (hp : PAt w w.heap.size p) (hc : ∀ c ∈ p.cls, c.length ≤ maxLen) (hcl : p.cls.length ≤ maxLen) (hml : p.ms.length ≤ maxLen)
    (hm : ∀ x ∈ p.ms, x.m.par.length ≤ maxLen ∧ x.m.loc.length ≤ maxLen ∧ x.m.code.length ≤ maxLen) (hm2 : ∀ x ∈ p.ms, x.m.par.length + x.m.loc.length ≤ maxLen) (hI : ∀ m ∈ p.prg.mets, ∀ x ∈ m.code, I64 x.n) :
    Calls Tryd.prog 11 #[v] w (EPost w ad o) := by
  subst hv ho
  exact encode_any p ad w hE hp hc hcl hml hm hm2 hI
theorem decode_is (A : Option Addr) (n c : Nat) (l : List Nat) (o : Option Prg × Option (Nat × List Int)) (ho : decP l = o) (ad : Nat → Addr) (w : World) (ha : Reads w w.heap.size 1 A n (l.map bv)) (hby : ∀ x ∈ l, x < 256) (hc : n ≤ c) (hcm : c ≤ maxLen) (hE : Errs w ad) :
    Calls Tryd.prog 17 #[.slice A n c] w (DPost w ad o) := by
  subst ho
  exact decode_any A n c l ad w ha hby hc hcm hE
theorem epost_some {w w' : World} {ad : Nat → Addr} {L : List Nat} {e : Ending} (h : EPost w ad (some L, none) e w') : Below w.heap.size w w' ∧ ∃ A c, e = .returned (.tuple #[.slice A L.length c, .nilIface]) ∧ w'.ownsRow w.heap.size 5 1 (.slice A L.length c) L.length (L.map bv) := by
  obtain ⟨hb, ⟨L', A, c, ho, he, hw⟩ | ⟨f, v, ho, _, _⟩⟩ := h
  · injection ho with h1 h2
    injection h1 with h1
    subst h1
    exact ⟨hb, A, c, he, hw⟩
  · cases ho
theorem epost_none {w w' : World} {ad : Nat → Addr} {f : Nat × List Int} {e : Ending} (h : EPost w ad (none, some f) e w') : Below w.heap.size w w' ∧ ∃ v, e = .returned (.tuple #[.slice none 0 0, v]) ∧ FltV w' ad v (some f) := by
  obtain ⟨hb, ⟨L', A, c, ho, he, hw⟩ | ⟨f, v, ho, he, hv⟩⟩ := h
  · cases ho
  · injection ho with h1 h2
    injection h2 with h2
    subst h2
    exact ⟨hb, v, he, hv⟩
theorem dpost_some {w w' : World} {ad : Nat → Addr} {P : Prg} {e : Ending} (h : DPost w ad (some P, none) e w') : Below w.heap.size w w' ∧ ∃ p : PV, p.prg = P ∧ e = .returned (.tuple #[p.val, .nilIface]) ∧ PAt w' w'.heap.size p := by
  obtain ⟨hb, ⟨p, ho, he, hw⟩ | ⟨f, v, ho, _, _⟩⟩ := h
  · injection ho with h1 h2
    injection h1 with h1
    exact ⟨hb, p, h1.symm, he, hw.1⟩
  · cases ho
theorem dpost_far {w w' : World} {ad : Nat → Addr} {P : Prg} {e : Ending} (h : DPost w ad (some P, none) e w') : Below w.heap.size w w' ∧ ∃ p : PV, p.prg = P ∧ e = .returned (.tuple #[p.val, .nilIface]) ∧ PAt w' w'.heap.size p ∧ PFar w.heap.size p := by
  obtain ⟨hb, ⟨p, ho, he, hw⟩ | ⟨f, v, ho, _, _⟩⟩ := h
  · injection ho with h1 h2
    injection h1 with h1
    exact ⟨hb, p, h1.symm, he, hw⟩
  · cases ho
theorem dpost_none {w w' : World} {ad : Nat → Addr} {f : Nat × List Int} {e : Ending} (h : DPost w ad (none, some f) e w') : Below w.heap.size w w' ∧ ∃ v, e = .returned (.tuple #[.agg #[.slice none 0 0, .slice none 0 0], v]) ∧ FltV w' ad v (some f) := by
  obtain ⟨hb, ⟨p, ho, he, hw⟩ | ⟨f, v, ho, he, hv⟩⟩ := h
  · cases ho
  · injection ho with h1 h2
    injection h2 with h2
    subst h2
    exact ⟨hb, v, he, hv⟩
def firstM : Met := ⟨[], [], [73], [⟨1, 0, 0, 1⟩, ⟨33, 0, 0, 0⟩]⟩
theorem first_enc : encO ⟨[], [firstM]⟩ = (some [79, 68, 1, 0, 1, 0, 0, 73, 2, 1, 2, 33], none) := by decide +kernel
theorem first_dec1 : decP [79, 68, 2] = (none, some (6, [2])) := by kernel_rfl
theorem first_dec2 : decP [79] = (none, some (5, [1])) := by kernel_rfl
theorem firstM_ok : firstM.par.length ≤ maxLen ∧ firstM.loc.length ≤ maxLen ∧ firstM.code.length ≤ maxLen := by decide
theorem firstM_ok2 : firstM.par.length + firstM.loc.length ≤ maxLen := by decide
theorem firstM_n : ∀ x ∈ firstM.code, I64 x.n := by
  intro x hx
  simp [firstM] at hx
  rcases hx with rfl | rfl <;> (unfold I64; simp)
theorem first_is1 : fltIs (some (6, [2])) 107 [2] = true := by decide
theorem first_is2 : fltIs (some (5, [1])) 106 [1] = true := by decide
theorem first_small {f : Nat × List Int} {k : Nat} {l : List Int} (hk : k < 14) : some (k, l) = some f → f.1 < 14 := fun h => by injection h with h; subst h; exact hk
def FirstPost (w : World) (e : Ending) (w' : World) : Prop := e = .returned (.bool true) ∧ Below w.heap.size w w'
set_option maxRecDepth 100000 in
set_option maxHeartbeats 2000000 in
theorem first_any (ad : Nat → Addr) (w : World) (hE : Errs w ad) : Calls Tryd.prog 9 #[] w (FirstPost w) := by
  have HE := Lib.hid hE
  clear hE
  obtain ⟨W1, hW1⟩ : ∃ W, W = w.alloc (.cells #[.int .i64 1, .int .i64 0, .int .i64 0, .int .i64 1, .int .i64 33, .int .i64 0, .int .i64 0, .int .i64 0] 56) := ⟨_, rfl⟩
  obtain ⟨W2, hW2⟩ : ∃ W, W = W1.alloc (.cells #[.string ⟨#[]⟩, .string ⟨#[]⟩, .string ⟨#[73]⟩, .slice (some ⟨w.heap.size, 0, none⟩) 2 2] 54) := ⟨_, rfl⟩
  have hs1 : W1.heap.size = w.heap.size + 1 := by rw [hW1]; simp
  obtain ⟨W3, hW3⟩ : ∃ W, W = W2.alloc (.cells #[.slice none 0 0, .slice (some ⟨w.heap.size + 1, 0, none⟩) 1 1] 25) := ⟨_, rfl⟩
  have HB1 : Hid (Below w.heap.size w W1) := Lib.hid (by rw [hW1]; exact (Below.refl _ _).alloc (Nat.le_refl _) _)
  have HB2 : Hid (Below w.heap.size w W2) := Lib.hid (by rw [hW2]; exact HB1.out.alloc HB1.out.size _)
  have HB3 : Hid (Below w.heap.size w W3) := Lib.hid (by rw [hW3]; exact HB2.out.alloc HB2.out.size _)
  have HP : Hid (PAt W3 W3.heap.size ⟨[], none, 0, [⟨firstM, some ⟨w.heap.size, 0, none⟩, 2⟩], some ⟨w.heap.size + 1, 0, none⟩, 1⟩) := Lib.hid (by
    have hI : Reads W1 W1.heap.size 4 (some ⟨w.heap.size, 0, none⟩) 2 (insL firstM.code) := by rw [hW1]; exact reads_newA _ _ _ 4 2 _ _ rfl rfl rfl
    have hM : Reads W2 W2.heap.size 4 (some ⟨w.heap.size + 1, 0, none⟩) 1 ([⟨firstM, some ⟨w.heap.size, 0, none⟩, 2⟩].flatMap mvC) := by rw [hW2]; exact reads_newA _ _ _ 4 1 _ _ hs1 rfl rfl
    have b12 : Below W1.heap.size W1 W2 := by rw [hW2]; exact (Below.refl _ _).alloc (Nat.le_refl _) _
    have b23 : Below W2.heap.size W2 W3 := by rw [hW3]; exact (Below.refl _ _).alloc (Nat.le_refl _) _
    refine ⟨Reads.none_, (hM.below b23).more b23.size, fun x hx => ?_⟩
    obtain rfl := List.mem_singleton.1 hx
    exact ((((hI.below b12).more b12.size).below b23).more b23.size))
  clear hs1
  go_enter Tryd.func9, Tryd.ntmps9
  go_wp2_with fail
  rw [← hW1, ← hW2, ← hW3]
  clear hW1 hW2 hW3
  refine (encode_is ⟨[], none, 0, [⟨firstM, some ⟨w.heap.size, 0, none⟩, 2⟩], some ⟨w.heap.size + 1, 0, none⟩, 1⟩ _ rfl _ first_enc ad _ (HE.out.below HB3.out) HP.out (by simp) (Nat.zero_le _) (show 1 ≤ maxLen by decide) (fun x hx => by obtain rfl := List.mem_singleton.1 hx; exact firstM_ok) (fun x hx => by obtain rfl := List.mem_singleton.1 hx; exact firstM_ok2) (fun x hx => by obtain rfl := List.mem_singleton.1 hx; exact firstM_n)).mono ?_
  rintro e w4 he
  obtain ⟨hb4, A, c, rfl, hown⟩ := epost_some he
  have HR : Hid (Reads w4 w4.heap.size 1 A 12 ([79, 68, 1, 0, 1, 0, 0, 73, 2, 1, 2, 33].map bv)) := Lib.hid (Reads.of_own hown)
  have HB4 : Hid (Below w.heap.size w w4) := Lib.hid (HB3.out.trans (hb4.mono HB3.out.size))
  clear he hb4 hown HP HB1 HB2 HB3
  go_wp2_with fail
  have HBa : Hid (Below w4.heap.size w4 (w4.alloc (.cells #[.int .u8 79, .int .u8 68, .int .u8 2] 5))) := Lib.hid ((Below.refl _ _).alloc (Nat.le_refl _) _)
  refine (decode_is (some ⟨w4.heap.size, 0, none⟩) 3 3 [79, 68, 2] _ first_dec1 ad _ (by exact reads_newA _ _ _ 1 3 _ _ rfl rfl rfl) (by decide) (by decide) (by decide) (HE.out.below (HB4.out.trans (HBa.out.mono HB4.out.size)))).mono ?_
  rintro e w5 he
  obtain ⟨hb5, v5, rfl, hf5⟩ := dpost_none he
  have HB5 : Hid (Below w4.heap.size w4 w5) := Lib.hid (HBa.out.trans (hb5.mono HBa.out.size))
  have HF5 := Lib.hid hf5
  clear he hb5 hf5 HBa
  go_wp2_with fail
  have HBa : Hid (Below w5.heap.size w5 ((w5.alloc (.cells #[.slice none 0 0, .slice none 0 0] 25)).alloc (.cells #[.int .u8 79] 5))) := Lib.hid (((Below.refl _ _).alloc (Nat.le_refl _) _).alloc (by simp) _)
  refine (decode_is (some ⟨w5.heap.size + 1, 0, none⟩) 1 1 [79] _ first_dec2 ad _ (by exact reads_newA _ _ _ 1 1 _ _ (by simp) rfl rfl) (by decide) (by decide) (by decide) (HE.out.below ((HB4.out.trans (HB5.out.mono HB4.out.size)).trans (HBa.out.mono (HB4.out.trans (HB5.out.mono HB4.out.size)).size)))).mono ?_
  rintro e w6 he
  obtain ⟨hb6, v6, rfl, hf6⟩ := dpost_none he
  have HB6 : Hid (Below w5.heap.size w5 w6) := Lib.hid (HBa.out.trans (hb6.mono HBa.out.size))
  have HF6 := Lib.hid hf6
  clear he hb6 hf6 HBa
  go_wp2_with fail
  have HW6 : Hid (Below w4.heap.size w4 w6) := Lib.hid (HB5.out.trans (HB6.out.mono HB5.out.size))
  have HV5 : Hid (FltV w6 ad v5 (some (6, [2]))) := Lib.hid (HF5.out.below HB6.out)
  have HE6 : Hid (Errs w6 ad) := Lib.hid (HE.out.below (HB4.out.trans (HW6.out.mono HB4.out.size)))
  obtain ⟨W7, hW7⟩ : ∃ W, W = (w6.alloc (.cells #[.slice none 0 0, .slice none 0 0] 25)).alloc (.cells #[.int .u8 79, .int .u8 68, .int .u8 1, .int .u8 0, .int .u8 1, .int .u8 0, .int .u8 0, .int .u8 73, .int .u8 2, .int .u8 1, .int .u8 2, .int .u8 33] 5) := ⟨_, rfl⟩
  have HB7 : Hid (Below w6.heap.size w6 W7) := Lib.hid (by rw [hW7]; exact ((Below.refl _ _).alloc (Nat.le_refl _) _).alloc (by simp) _)
  have HL7 : Hid (Reads W7 W7.heap.size 1 (some ⟨w6.heap.size + 1, 0, none⟩) 12 ([79, 68, 1, 0, 1, 0, 0, 73, 2, 1, 2, 33].map bv)) := Lib.hid (by rw [hW7]; exact reads_newA _ _ _ 1 12 _ _ (by simp) rfl rfl)
  have HR7 : Hid (Reads W7 W7.heap.size 1 A 12 ([79, 68, 1, 0, 1, 0, 0, 73, 2, 1, 2, 33].map bv)) := Lib.hid ((((HR.out.below HW6.out).more HW6.out.size).below HB7.out).more HB7.out.size)
  rw [← hW7]
  clear hW7
  refine (same_any A _ 12 12 c 12 [79, 68, 1, 0, 1, 0, 0, 73, 2, 1, 2, 33] [79, 68, 1, 0, 1, 0, 0, 73, 2, 1, 2, 33] _ HR7.out HL7.out (by decide)).mono ?_
  rintro e w8 ⟨rfl, hb8⟩
  rw [show sameB [79, 68, 1, 0, 1, 0, 0, 73, 2, 1, 2, 33] [79, 68, 1, 0, 1, 0, 0, 73, 2, 1, 2, 33] = true by decide]
  have HB8 : Hid (Below w6.heap.size w6 w8) := Lib.hid (HB7.out.trans (hb8.mono HB7.out.size))
  clear hb8 HB7 HL7 HR7
  go_wp2_with fail
  refine (placed_any 107 2 _ (by decide)).mono ?_
  rintro e w9 ⟨b9, rfl, hg9, hk9, hb9⟩
  have HB9 : Hid (Below w6.heap.size w6 w9) := Lib.hid (HB8.out.trans (hb9.mono HB8.out.size))
  have HR9 : Hid (Reads w9 w9.heap.size 1 (some ⟨b9, 0, none⟩) 1 ([2].map (Value.int .i64))) := Lib.hid ⟨rfl, fun _ => ⟨_, rfl, hk9.lt, World.news_of_block hk9⟩⟩
  clear hg9 hk9 hb9
  go_wp2_with fail
  refine (Same_flt v5 ad (some (6, [2])) 107 [2] _ 1 1 _ (HV5.out.below HB9.out) (HE6.out.below HB9.out) (fun f h => first_small (by decide) h) HR9.out).mono ?_
  rintro e w10 ⟨rfl, hb10⟩
  rw [first_is1]
  have HB10 : Hid (Below w6.heap.size w6 w10) := Lib.hid (HB9.out.trans (hb10.mono HB9.out.size))
  clear hb10 HR9
  go_wp2_with fail
  refine (placed_any 106 1 _ (by decide)).mono ?_
  rintro e w11 ⟨b11, rfl, hg11, hk11, hb11⟩
  have HB11 : Hid (Below w6.heap.size w6 w11) := Lib.hid (HB10.out.trans (hb11.mono HB10.out.size))
  have HR11 : Hid (Reads w11 w11.heap.size 1 (some ⟨b11, 0, none⟩) 1 ([1].map (Value.int .i64))) := Lib.hid ⟨rfl, fun _ => ⟨_, rfl, hk11.lt, World.news_of_block hk11⟩⟩
  clear hg11 hk11 hb11
  go_wp2_with fail
  refine (Same_flt v6 ad (some (5, [1])) 106 [1] _ 1 1 _ (HF6.out.below HB11.out) (HE6.out.below HB11.out) (fun f h => first_small (by decide) h) HR11.out).mono ?_
  rintro e w12 ⟨rfl, hb12⟩
  rw [first_is2]
  go_wp2
  go_ret
  exact ⟨rfl, (HB4.out.trans (HW6.out.mono HB4.out.size)).trans ((HB11.out.trans (hb12.mono HB11.out.size)).mono (HB4.out.trans (HW6.out.mono HB4.out.size)).size)⟩
end Go.Proofs.YtnojejplckhifaaDoor
