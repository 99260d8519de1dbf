/- The contract of script.Print: the picks' bytes, or why there are none. -/
import Derived.Test.YtomabogjoampnaaDoorMayL
import Derived.Test.YtomabogjoampnaaDoorPut
import Derived.Deep.RegionHeld3
namespace Go.Proofs.YtomabogjoampnaaDoor
open Go.RowKit
set_option linter.unusedVariables false

theorem put_z (L : List Nat) (A : Option Addr) (n c u : Nat) (z : Int) (l : List Nat) (w : World) (hz : z = (u : Int)) (hL : L = l ++ enc u) (ha : Reads w w.heap.size 1 A n (l.map bv)) (hn : n ≤ 1048576) (hu : U64 u) :
    Calls Tryd.prog 30 #[.slice A n c, .int .u64 z] w (PutPost w L) := by
  subst hz
  exact put_is L A n c u l w hL ha hn hu
theorem zU {d : Int} (h0 : 0 ≤ d) (h1 : d ≤ 1048576) : IntKind.u64.wrap d = (d.toNat : Int) := by
  rw [IntKind.wrap_u64]; omega
theorem zD {d : Int} (h0 : 0 ≤ d) (h1 : d ≤ 1048576) : IntKind.u64.wrap (IntKind.i64.wrap d) = (d.toNat : Int) := by
  have e1 : IntKind.i64.wrap d = d := by rw [IntKind.wrap_i64]; omega
  rw [e1]
  exact zU h0 h1
/-- a pick's bytes, behind one at last -/
def prn1 (last : Int) (p : Pk) : List Nat :=
  ((enc (p.at_ - last).toNat ++ enc p.act.toNat) ++ (if p.act = 3 then enc p.a.toNat else [])) ++ (if p.act = 3 ∨ p.act = 5 then enc p.b.toNat else [])
def prn : Int → List Pk → List Nat
  | _, [] => []
  | last, p :: r => prn1 last p ++ prn p.at_ r
theorem enc_len' (u : Nat) : (enc u).length ≤ 10 := encF_length_le 10 u
theorem mayP_in {p : Pk} {last : Int} (h : mayP p last = 0) : 1 ≤ p.act ∧ p.act ≤ 5 ∧ 0 ≤ p.at_ ∧ p.at_ ≤ 1048576 ∧ 0 ≤ p.a ∧ p.a ≤ limA p.act ∧ 0 ≤ p.b ∧ p.b ≤ limB p.act ∧ last ≤ p.at_ := by
  unfold mayP mayC at h
  split at h
  · cases h
  · split at h
    · cases h
    · split at h
      · cases h
      · omega
theorem limA_le (x : Int) : limA x ≤ 11 := by unfold limA; repeat (first | decide | split)
theorem limB_le (x : Int) : limB x ≤ 2047 := by unfold limB; repeat (first | decide | split)
theorem mayF_none {l : List Pk} : ∀ {i : Nat} {last : Int}, mayF i last l = none → ∀ p r, l = p :: r → mayP p last = 0 ∧ mayF (i + 1) p.at_ r = none := by
  intro i last h p r e
  subst e
  unfold mayF at h
  split at h
  · exact ⟨by assumption, h⟩
  · cases h
def PrPost (w : World) (L : List Nat) (e : Ending) (w' : World) : Prop :=
  ∃ A c, e = .returned (.tuple #[.slice A L.length c, .nilIface]) ∧ Reads w' w'.heap.size 1 A L.length (L.map bv) ∧ Below w.heap.size w w'
def PrRel (w : World) (l : List Pk) (n : Nat) (sb sl si : Value) (wr : World) : Prop :=
  ∃ (k : Nat) (A : Option Addr) (c m : Nat) (ys : List Nat), k ≤ n ∧ si = .int .i64 (k : Int) ∧ sl = .int .i64 (lastAt l k) ∧ sb = .slice A m c ∧ ys.length = m ∧ m ≤ 40 * k ∧ Reads wr wr.heap.size 1 A m (ys.map bv) ∧
    0 ≤ lastAt l k ∧ mayF k (lastAt l k) (l.drop k) = none ∧ ys ++ prn (lastAt l k) (l.drop k) = prn 0 l ∧ Below w.heap.size w wr
theorem prRel_next {w w' : World} {l : List Pk} {n k m c : Nat} {A : Option Addr} {p : Pk} {lst : Int} {ys L : List Nat} (hk : k + 1 ≤ n) (hla : lastAt l (k + 1) = p.at_) (hp0 : 0 ≤ p.at_) (hm : m = L.length) (hm' : m ≤ 40 * k + 40)
    (hr : Reads w' w'.heap.size 1 A m (L.map bv)) (hf : mayF (k + 1) p.at_ (l.drop (k + 1)) = none) (hp : (ys ++ prn1 lst p) ++ prn p.at_ (l.drop (k + 1)) = prn 0 l) (hL : L = ys ++ prn1 lst p) (hb : Below w.heap.size w w') :
    PrRel w l n (.slice A m c) (.int .i64 p.at_) (.int .i64 ((k : Int) + 1)) w' :=
  ⟨k + 1, A, c, m, L, hk, by go_num, by rw [hla], rfl, hm.symm, by omega, hr, by rw [hla]; exact hp0, by rw [hla]; exact hf, by rw [hla, hL]; exact hp, hb⟩
set_option maxRecDepth 100000 in
set_option maxHeartbeats 1000000 in
theorem print_ok (A : Option Addr) (n c : Nat) (l : List Pk) (ak ai as_ : Addr) (w : World) (ha : Reads w w.heap.size 4 A n (pks l)) (hl : l.length = n) (hn : n ≤ 400) (hg : 3 < w.heap.size)
    (hk : w.cell? ⟨1, 0, none⟩ = some (eV ak)) (hi : w.cell? ⟨2, 0, none⟩ = some (eV ai)) (hs : w.cell? ⟨3, 0, none⟩ = some (eV as_)) (hm : mayF 0 0 l = none) :
    Calls Tryd.prog 18 #[.slice A n c] w (PrPost w (prn 0 l)) := by
  have HL := Lib.hid hl
  have HK := Lib.hid hk
  have HI := Lib.hid hi
  have HS := Lib.hid hs
  have HM := Lib.hid hm
  clear hl hk hi hs hm
  go_enter Tryd.func18, Tryd.ntmps18
  go_wp2_with fail
  refine (mayL_in A n c l ak ai as_ _ ha HL.out hn hg HK.out HI.out HS.out).mono ?_
  rintro e w1 ⟨hb1, he⟩
  rw [HM.out] at he
  replace he : e = .returned .nilIface := he
  subst he
  go_wp2
  go_loopw [5, 6, 16] (fun sb sl si wr => PrRel w l n sb sl si wr) (fun _ _ si _ => n - (intOf si).toNat)
  case atStart => exact ⟨0, none, 0, 0, [], Nat.zero_le _, rfl, rfl, rfl, rfl, by omega, Reads.none_, by simp [lastAt], HM.out, rfl, hb1⟩
  case round =>
    obtain ⟨k, A', c', m, ys, hkn, rfl, rfl, rfl, hys, hmk, hry, hl0, hmf, hpr, hbr⟩ := hrel
    have HMF := Lib.hid hmf
    have HPR := Lib.hid hpr
    have HRY := Lib.hid hry
    have HYS := Lib.hid hys
    clear hmf hpr hry hys
    by_cases hlt : k < n
    · have hlk : k < l.length := by have := HL.out; omega
      obtain ⟨ad, rfl, had, q0, q1, q2, q3⟩ := (ha.below hbr).pick HL.out hlk
      have hz := hbr.size
      have HD : Hid (l.drop k = l[k] :: l.drop (k + 1)) := Lib.hid (List.drop_eq_getElem_cons hlk)
      have HLA : Hid (lastAt l (k + 1) = l[k].at_) := Lib.hid (by simp [lastAt, List.getElem?_eq_getElem hlk])
      obtain ⟨p, hp⟩ : ∃ p, p = l[k] := ⟨_, rfl⟩
      rw [← hp] at q0 q1 q2 q3 HD HLA
      obtain ⟨lst, hlst⟩ : ∃ x, x = lastAt l k := ⟨_, rfl⟩
      rw [← hlst] at HMF HPR hl0 ⊢
      clear hp hlst
      have hf := mayF_none HMF.out p _ HD.out
      have HIN : Hid (0 ≤ lst ∧ (1 ≤ p.act ∧ p.act ≤ 5 ∧ 0 ≤ p.at_ ∧ p.at_ ≤ 1048576 ∧ 0 ≤ p.a ∧ p.a ≤ 11 ∧ 0 ≤ p.b ∧ p.b ≤ 2047 ∧ lst ≤ p.at_)) := Lib.hid (by
        have := mayP_in hf.1; have := limA_le p.act; have := limB_le p.act; omega)
      have HF := Lib.hid hf.2
      have HP : Hid ((ys ++ prn1 lst p) ++ prn p.at_ (l.drop (k + 1)) = prn 0 l) := Lib.hid (by rw [← HPR.out, HD.out]; simp [prn])
      clear hf hl0 HMF HPR HD
      have hbw : Below w.heap.size w (wr.alloc (Obj.cells #[.int .i64 p.at_, .int .i64 p.act, .int .i64 p.a, .int .i64 p.b] 26)) := hbr.alloc hz _
      have hn1 : m ≤ 16000 := by omega
      have HZ1 : Hid (U64 (p.at_ - lst).toNat ∧ U64 p.act.toNat ∧ U64 p.a.toNat ∧ U64 p.b.toNat) := Lib.hid (by have := HIN.out; unfold U64; omega)
      have HE1 := Lib.hid (enc_len' (p.at_ - lst).toNat)
      go_wp2_with fail
      obtain ⟨W, hW⟩ : ∃ W, W = wr.alloc (Obj.cells #[.int .i64 p.at_, .int .i64 p.act, .int .i64 p.a, .int .i64 p.b] 26) := ⟨_, rfl⟩
      rw [← hW] at hbw ⊢
      have HRA : Hid (Reads W.drew W.drew.heap.size 1 A' m (ys.map bv)) := Lib.hid (by rw [hW]; exact (HRY.out.alloc (Nat.le_refl _) _).more (by simp))
      have HBK : Hid (Blk W.drew wr.heap.size 26 #[.int .i64 p.at_, .int .i64 p.act, .int .i64 p.a, .int .i64 p.b] ∧ wr.heap.size < W.drew.heap.size) := Lib.hid (by rw [hW]; exact ⟨Blk.new _ _ _, by simp⟩)
      have k0 : W.cell? ⟨wr.heap.size, 0, none⟩ = some (.int .i64 p.at_) := HBK.out.1.cell 0
      have k1 : W.cell? ⟨wr.heap.size, 1, none⟩ = some (.int .i64 p.act) := HBK.out.1.cell 1
      have HBW : Hid (Below w.heap.size w W.drew) := Lib.hid hbw.drew
      clear hW q0 q1 q2 q3 hbw
      have HC1 : Hid (IntKind.u64.wrap (IntKind.i64.wrap (p.at_ - lst)) = ((p.at_ - lst).toNat : Int) ∧ IntKind.u64.wrap p.act = (p.act.toNat : Int) ∧ IntKind.u64.wrap p.a = (p.a.toNat : Int) ∧ IntKind.u64.wrap p.b = (p.b.toNat : Int)) := Lib.hid (by have := HIN.out; exact ⟨zD (by omega) (by omega), zU (by omega) (by omega), zU (by omega) (by omega), zU (by omega) (by omega)⟩)
      obtain ⟨L2, hL2⟩ : ∃ L, L = ys ++ enc (p.at_ - lst).toNat := ⟨_, rfl⟩
      have HL2 := Lib.hid hL2
      obtain ⟨m2, hm2⟩ : ∃ m, m = L2.length := ⟨_, rfl⟩
      have HM2 := Lib.hid hm2
      have hm2' : m2 ≤ 40 * k + 10 := (by have := HE1.out; have := HYS.out; rw [hm2, hL2]; simp; omega)
      clear hL2 hm2
      obtain ⟨L3, hL3⟩ : ∃ L, L = L2 ++ enc p.act.toNat := ⟨_, rfl⟩
      have HL3 := Lib.hid hL3
      obtain ⟨m3, hm3⟩ : ∃ m, m = L3.length := ⟨_, rfl⟩
      have HM3 := Lib.hid hm3
      have hm3' : m3 ≤ 40 * k + 20 := (by have := enc_len' p.act.toNat; have := HM2.out; rw [hm3, hL3]; simp; omega)
      clear hL3 hm3
      go_region_held3 (fun w' => w'.cell? ⟨wr.heap.size, 0, none⟩ = some (.int .i64 p.at_) ∧ w'.cell? ⟨wr.heap.size, 1, none⟩ = some (.int .i64 p.act)) (go_keep) ((first | (go_at_call 30; have HR2' := HR2.out; refine (put_z L3 A2 m2 c2 p.act.toNat _ L2 _ (by exact HC1.out.2.1) HL3.out HR2' (by omega) HZ1.out.2.1).mono ?_; clear HR2'; rintro e w3 ⟨A3, c3, rfl, hown3, hr3, hb3⟩; clear hown3; have HR3 : Hid (Reads w3 w3.heap.size 1 A3 m3 (L3.map bv)) := Lib.hid (by rw [HM3.out]; exact hr3); rw [← HM3.out]; clear hr3; have HB3 : Hid (Below w.heap.size w w3 ∧ Blk w3 wr.heap.size 26 #[.int .i64 p.at_, .int .i64 p.act, .int .i64 p.a, .int .i64 p.b]) := Lib.hid ⟨HB2.out.1.trans (hb3.mono HB2.out.1.size), HB2.out.2.below hb3 HB2.out.2.lt⟩; have k0'' : w3.cell? ⟨wr.heap.size, 0, none⟩ = some (.int .i64 p.at_) := HB3.out.2.cell 0; have k1'' : w3.cell? ⟨wr.heap.size, 1, none⟩ = some (.int .i64 p.act) := HB3.out.2.cell 1) | (go_at_call 30; refine (put_z L2 A' m c' (p.at_ - lst).toNat _ ys _ (by exact HC1.out.1) HL2.out (by exact HRA.out) (by omega) HZ1.out.1).mono ?_; rintro e w2 ⟨A2, c2, rfl, hown, hr2, hb2⟩; clear hown; have HR2 : Hid (Reads w2 w2.heap.size 1 A2 m2 (L2.map bv)) := Lib.hid (by rw [HM2.out]; exact hr2); rw [← HM2.out]; clear hr2; have HB2 : Hid (Below w.heap.size w w2 ∧ Blk w2 wr.heap.size 26 #[.int .i64 p.at_, .int .i64 p.act, .int .i64 p.a, .int .i64 p.b]) := Lib.hid ⟨HBW.out.trans (hb2.mono HBW.out.size), HBK.out.1.below hb2 HBK.out.2⟩; have k0' : w2.cell? ⟨wr.heap.size, 0, none⟩ = some (.int .i64 p.at_) := HB2.out.2.cell 0; have k1' : w2.cell? ⟨wr.heap.size, 1, none⟩ = some (.int .i64 p.act) := HB2.out.2.cell 1)))
      have r30 : w3.cell? ⟨wr.heap.size, 0, none⟩ = some (.int .i64 p.at_) := HB3.out.2.cell 0
      have r31 : w3.cell? ⟨wr.heap.size, 1, none⟩ = some (.int .i64 p.act) := HB3.out.2.cell 1
      have r32 : w3.cell? ⟨wr.heap.size, 2, none⟩ = some (.int .i64 p.a) := HB3.out.2.cell 2
      have r33 : w3.cell? ⟨wr.heap.size, 3, none⟩ = some (.int .i64 p.b) := HB3.out.2.cell 3
      by_cases h3 : p.act = 3
      · have t3 : (p.act == 3) = true := by simp [h3]
        obtain ⟨L4, hL4⟩ : ∃ L, L = L3 ++ enc p.a.toNat := ⟨_, rfl⟩
        have HL4 := Lib.hid hL4
        obtain ⟨m4, hm4⟩ : ∃ m, m = L4.length := ⟨_, rfl⟩
        have HM4 := Lib.hid hm4
        have hm4' : m4 ≤ 40 * k + 30 := (by have := enc_len' p.a.toNat; have := HM3.out; rw [hm4, hL4]; simp; omega)
        clear hL4 hm4
        obtain ⟨L5, hL5⟩ : ∃ L, L = L4 ++ enc p.b.toNat := ⟨_, rfl⟩
        have HL5 := Lib.hid hL5
        obtain ⟨m5, hm5⟩ : ∃ m, m = L5.length := ⟨_, rfl⟩
        have HM5 := Lib.hid hm5
        have hm5' : m5 ≤ 40 * k + 40 := (by have := enc_len' p.b.toNat; have := HM4.out; rw [hm5, hL5]; simp; omega)
        clear hL5 hm5
        have HLX : Hid (L5 = ys ++ prn1 lst p) := Lib.hid (by rw [HL5.out, HL4.out, HL3.out, HL2.out]; simp [prn1, h3])
        clear h3
        go_wp2_with fail
        refine (put_z L4 A3 m3 c3 p.a.toNat _ L3 _ (by exact HC1.out.2.2.1) HL4.out HR3.out (by omega) HZ1.out.2.2.1).mono ?_
        rintro e w4 ⟨A4, c4, rfl, hown, hr4, hb4⟩
        clear hown
        have HR4 : Hid (Reads w4 w4.heap.size 1 A4 m4 (L4.map bv)) := Lib.hid (by rw [HM4.out]; exact hr4)
        rw [← HM4.out]
        clear hr4
        have HB4 : Hid (Below w.heap.size w w4 ∧ Blk w4 wr.heap.size 26 #[.int .i64 p.at_, .int .i64 p.act, .int .i64 p.a, .int .i64 p.b]) := Lib.hid ⟨HB3.out.1.trans (hb4.mono HB3.out.1.size), HB3.out.2.below hb4 HB3.out.2.lt⟩
        have r40 : w4.cell? ⟨wr.heap.size, 0, none⟩ = some (.int .i64 p.at_) := HB4.out.2.cell 0
        have r41 : w4.cell? ⟨wr.heap.size, 1, none⟩ = some (.int .i64 p.act) := HB4.out.2.cell 1
        have r42 : w4.cell? ⟨wr.heap.size, 2, none⟩ = some (.int .i64 p.a) := HB4.out.2.cell 2
        have r43 : w4.cell? ⟨wr.heap.size, 3, none⟩ = some (.int .i64 p.b) := HB4.out.2.cell 3
        go_wp2_with fail
        refine (put_z L5 A4 m4 c4 p.b.toNat _ L4 _ (by exact HC1.out.2.2.2) HL5.out HR4.out (by omega) HZ1.out.2.2.2).mono ?_
        rintro e w5 ⟨A5, c5, rfl, hown, hr5, hb5⟩
        clear hown
        have HR5 : Hid (Reads w5 w5.heap.size 1 A5 m5 (L5.map bv)) := Lib.hid (by rw [HM5.out]; exact hr5)
        rw [← HM5.out]
        clear hr5
        have HB5 : Hid (Below w.heap.size w w5 ∧ Blk w5 wr.heap.size 26 #[.int .i64 p.at_, .int .i64 p.act, .int .i64 p.a, .int .i64 p.b]) := Lib.hid ⟨HB4.out.1.trans (hb5.mono HB4.out.1.size), HB4.out.2.below hb5 HB4.out.2.lt⟩
        have r50 : w5.cell? ⟨wr.heap.size, 0, none⟩ = some (.int .i64 p.at_) := HB5.out.2.cell 0
        have r51 : w5.cell? ⟨wr.heap.size, 1, none⟩ = some (.int .i64 p.act) := HB5.out.2.cell 1
        have r52 : w5.cell? ⟨wr.heap.size, 2, none⟩ = some (.int .i64 p.a) := HB5.out.2.cell 2
        have r53 : w5.cell? ⟨wr.heap.size, 3, none⟩ = some (.int .i64 p.b) := HB5.out.2.cell 3
        go_wp2
        go_roundw
        case rel => exact prRel_next (ys := ys) (lst := lst) (by omega) HLA.out (by have := HIN.out; omega) HM5.out (by omega) HR5.out HF.out HP.out (by rw [HLX.out]) HB5.out.1
        case measure => simp [intOf]; omega
      · have t3 : (p.act == 3) = false := by simp [h3]
        by_cases h5 : p.act = 5
        · have t5 : (p.act == 5) = true := by simp [h5]
          obtain ⟨L4, hL4⟩ : ∃ L, L = L3 ++ enc p.b.toNat := ⟨_, rfl⟩
          have HL4 := Lib.hid hL4
          obtain ⟨m4, hm4⟩ : ∃ m, m = L4.length := ⟨_, rfl⟩
          have HM4 := Lib.hid hm4
          have hm4' : m4 ≤ 40 * k + 30 := (by have := enc_len' p.b.toNat; have := HM3.out; rw [hm4, hL4]; simp; omega)
          clear hL4 hm4
          have HLX : Hid (L4 = ys ++ prn1 lst p) := Lib.hid (by rw [HL4.out, HL3.out, HL2.out]; simp [prn1, h3, h5])
          clear h3 h5
          go_wp2_with fail
          refine (put_z L4 A3 m3 c3 p.b.toNat _ L3 _ (by exact HC1.out.2.2.2) HL4.out HR3.out (by omega) HZ1.out.2.2.2).mono ?_
          rintro e w4 ⟨A4, c4, rfl, hown, hr4, hb4⟩
          clear hown
          have HR4 : Hid (Reads w4 w4.heap.size 1 A4 m4 (L4.map bv)) := Lib.hid (by rw [HM4.out]; exact hr4)
          rw [← HM4.out]
          clear hr4
          have HB4 : Hid (Below w.heap.size w w4 ∧ Blk w4 wr.heap.size 26 #[.int .i64 p.at_, .int .i64 p.act, .int .i64 p.a, .int .i64 p.b]) := Lib.hid ⟨HB3.out.1.trans (hb4.mono HB3.out.1.size), HB3.out.2.below hb4 HB3.out.2.lt⟩
          have r40 : w4.cell? ⟨wr.heap.size, 0, none⟩ = some (.int .i64 p.at_) := HB4.out.2.cell 0
          have r41 : w4.cell? ⟨wr.heap.size, 1, none⟩ = some (.int .i64 p.act) := HB4.out.2.cell 1
          have r42 : w4.cell? ⟨wr.heap.size, 2, none⟩ = some (.int .i64 p.a) := HB4.out.2.cell 2
          have r43 : w4.cell? ⟨wr.heap.size, 3, none⟩ = some (.int .i64 p.b) := HB4.out.2.cell 3
          go_wp2
          go_roundw
          case rel => exact prRel_next (ys := ys) (lst := lst) (by omega) HLA.out (by have := HIN.out; omega) HM4.out (by omega) HR4.out HF.out HP.out (by rw [HLX.out]) HB4.out.1
          case measure => simp [intOf]; omega
        · have t5 : (p.act == 5) = false := by simp [h5]
          have HLX : Hid (L3 = ys ++ prn1 lst p) := Lib.hid (by rw [HL3.out, HL2.out]; simp [prn1, h3, h5])
          clear h3 h5
          go_wp2
          go_roundw
          case rel => exact prRel_next (ys := ys) (lst := lst) (by omega) HLA.out (by have := HIN.out; omega) HM3.out (by omega) HR3.out HF.out HP.out (by rw [HLX.out]) HB3.out.1
          case measure => simp [intOf]; omega
    · have HN : Hid (ys = prn 0 l) := Lib.hid (by
        rw [← HPR.out, List.drop_eq_nil_of_le (by have := HL.out; omega)]; simp [prn])
      go_wp2
      go_ret2
      rw [← HN.out]
      exact ⟨A', c', by rw [HYS.out]; rfl, by rw [HYS.out]; exact HRY.out, hbr⟩
/-- where they may not be: no bytes, and May's error -/
def PrBad (w : World) (i c : Nat) (kv iv sv : Value) (e : Ending) (w' : World) : Prop :=
  Below w.heap.size w w' ∧ ∃ b, e = .returned (.tuple #[.slice none 0 0, .iface 58 (.pointer (some ⟨b, 0, none⟩))]) ∧ w.heap.size ≤ b ∧ Blk w' b 60 #[.int .i64 (i : Int), errV kv iv sv c]
set_option maxRecDepth 100000 in
set_option maxHeartbeats 1000000 in
theorem print_bad (A : Option Addr) (n c : Nat) (l : List Pk) (ak ai as_ : Addr) (w : World) (ha : Reads w w.heap.size 4 A n (pks l)) (hl : l.length = n) (hn : n ≤ 400) (hg : 3 < w.heap.size)
    (hk : w.cell? ⟨1, 0, none⟩ = some (eV ak)) (hi : w.cell? ⟨2, 0, none⟩ = some (eV ai)) (hs : w.cell? ⟨3, 0, none⟩ = some (eV as_)) (i cc : Nat) (hm : mayF 0 0 l = some (i, cc)) :
    Calls Tryd.prog 18 #[.slice A n c] w (PrBad w i cc (eV ak) (eV ai) (eV as_)) := by
  have HL := Lib.hid hl
  have HK := Lib.hid hk
  have HI := Lib.hid hi
  have HS := Lib.hid hs
  have HM := Lib.hid hm
  clear hl hk hi hs hm
  go_enter Tryd.func18, Tryd.ntmps18
  go_wp2_with fail
  refine (mayL_in A n c l ak ai as_ _ ha HL.out hn hg HK.out HI.out HS.out).mono ?_
  rintro e w1 ⟨hb1, he⟩
  rw [HM.out] at he
  obtain ⟨b, rfl, hbb, hB⟩ := he
  have HBB := Lib.hid hB
  clear hB
  go_wp2
  go_ret2
  exact ⟨hb1, b, rfl, hbb, HBB.out⟩
set_option maxRecDepth 100000 in
theorem print_many (A : Option Addr) (n c : Nat) (a : Addr) (w : World) (hn : 400 < n) (hm : w.cell? ⟨0, 0, none⟩ = some (eV a)) :
    Calls Tryd.prog 18 #[.slice A n c] w fun e w' => e = .returned (.tuple #[.slice none 0 0, eV a]) ∧ w = w' := by
  go_enter Tryd.func18, Tryd.ntmps18
  go_wp2_with fail
  refine (mayL_many A n c _ _ hn hm).mono ?_
  rintro e w1 ⟨rfl, rfl⟩
  unfold eV
  go_wp2
  go_ret2
  exact ⟨rfl, rfl⟩
end Go.Proofs.YtomabogjoampnaaDoor
