/- The contract of overdriveref3.Encode, of a program that may be (printed by mkrenc.py). -/
import Derived.Test.YtnojejplckhifaaDoorEnc
import Derived.Test.YtnojejplckhifaaDoorConsts0
import Derived.Test.YtnojejplckhifaaDoorRm2
import Derived.Test.YtnojejplckhifaaDoorProgO
import Derived.Test.YtnojejplckhifaaDoorLight
import Derived.Test.YtnojejplckhifaaDoorLaw5
namespace Go.Proofs.YtnojejplckhifaaDoor
open Go.RowKit
set_option linter.unusedVariables false

/-- where the walk stands: its bytes L (N of them) lie in v, a row of its own; the blocks bs are as they were made -/
structure OSt (w W : World) (v : Value) (N : Nat) (L : List Nat) (bs : List (Nat × TypeId × Array Value)) : Prop where
  len : L.length = N
  own : W.ownsRow w.heap.size 5 1 v N (L.map bv)
  bw : Below w.heap.size w W
  bl : ∀ b ∈ bs, Blk W b.1 b.2.1 b.2.2 ∧ b.2.1 ≠ 5
theorem OSt.next {w W W' : World} {v : Value} {N : Nat} {L : List Nat} {bs : List (Nat × TypeId × Array Value)} (h : OSt w W v N L bs) (hb : Below W.heap.size W W') : OSt w W' v N L bs :=
  ⟨h.len, own_below h.own hb, h.bw.trans (hb.mono h.bw.size), fun b hm => ⟨(h.bl b hm).1.below hb (h.bl b hm).1.lt, (h.bl b hm).2⟩⟩
theorem OSt.app {w W W2 : World} {v v2 : Value} {N m : Nat} {L l : List Nat} {bs : List (Nat × TypeId × Array Value)} (h : OSt w W v N L bs) (hl : l.length = m) (ho : W2.ownsRow w.heap.size 5 1 v2 (N + m) (L.map bv ++ l.map bv)) (hg : W.grownBy W2 v.ownBlock) : OSt w W2 v2 (N + m) (L ++ l) bs :=
  ⟨by rw [List.length_append, h.len, hl], by rw [List.map_append]; exact ho, h.bw.grown hg h.bw.size (fun k hk => own_ge h.own hk), fun b hm => ⟨(h.bl b hm).1.grown hg (fun e => own_blk_ne h.own (h.bl b hm).1 (fun e => (h.bl b hm).2 e.symm) e.symm), (h.bl b hm).2⟩⟩
theorem OSt.add {w W : World} {v : Value} {N g : Nat} {t : TypeId} {cs : Array Value} {L : List Nat} {bs : List (Nat × TypeId × Array Value)} (h : OSt w W v N L bs) (hb : Blk W g t cs) (ht : t ≠ 5) : OSt w W v N L ((g, t, cs) :: bs) :=
  ⟨h.len, h.own, h.bw, fun b hm => by
    rcases List.mem_cons.1 hm with rfl | hm
    · exact ⟨hb, ht⟩
    · exact h.bl b hm⟩
theorem OSt.less {w W : World} {v : Value} {N : Nat} {L : List Nat} {b : Nat × TypeId × Array Value} {bs : List (Nat × TypeId × Array Value)} (h : OSt w W v N L (b :: bs)) : OSt w W v N L bs := ⟨h.len, h.own, h.bw, fun c hm => h.bl c (List.mem_cons_of_mem _ hm)⟩
def OCRel (w : World) (P : Prg) (bs : List (Nat × TypeId × Array Value)) (sv si : Value) (wr : World) : Prop := ∃ (k N c : Nat) (A : Option Addr), k ≤ P.cls.length ∧ si = .int .i64 (k : Int) ∧ sv = .slice A N c ∧ OSt w wr (.slice A N c) N (preC P k) bs
def OMRel (w : World) (P : Prg) (bs : List (Nat × TypeId × Array Value)) (sv si : Value) (wr : World) : Prop := ∃ (k N c : Nat) (A : Option Addr), k ≤ P.mets.length ∧ si = .int .i64 (k : Int) ∧ sv = .slice A N c ∧ OSt w wr (.slice A N c) N (preM P k) bs
def OIRel (w : World) (code : List Ins) (L : List Nat) (bs : List (Nat × TypeId × Array Value)) (sv si : Value) (wr : World) : Prop := ∃ (k N c : Nat) (A : Option Addr), k ≤ code.length ∧ si = .int .i64 (k : Int) ∧ sv = .slice A N c ∧ OSt w wr (.slice A N c) N (L ++ (code.take k).flatMap encI) bs
def OCut (w : World) (T : List Nat) (B : Nat) (bs : List (Nat × TypeId × Array Value)) (sv : Value) (wx : World) : Prop := ∃ (N c : Nat) (A : Option Addr) (L : List Nat), sv = .slice A N c ∧ OSt w wx (.slice A N c) N L bs ∧ L = T ∧ N ≤ B
set_option maxRecDepth 100000 in
set_option maxHeartbeats 40000000 in
theorem rencode_any (p : PV) (v : Value) (hv : v = p.val) (w : World) (hp : PAt w w.heap.size p) (hok : okP p.prg) :
    Calls Tryd.prog 14 #[v] w (BytesPost w (encP p.prg)) := by
  obtain ⟨i0, hi0, hz0, hz1, hz2⟩ := info_parts u8_info
  subst hv
  obtain ⟨N1, hN1⟩ : ∃ n, n = p.cls.length := ⟨_, rfl⟩
  obtain ⟨N2, hN2⟩ : ∃ n, n = p.ms.length := ⟨_, rfl⟩
  obtain ⟨W0, hW0⟩ : ∃ W, W = (w.alloc (.cells #[.slice p.A N1 p.c, .slice p.B N2 p.d] 25)).alloc (.cells #[.int .u8 79, .int .u8 68, .int .u8 1] 5) := ⟨_, rfl⟩
  obtain ⟨gp, hgp⟩ : ∃ g, g = w.heap.size := ⟨_, rfl⟩
  have HS0 : Hid (OSt w W0 (.slice (some ⟨w.heap.size + 1, 0, none⟩) 3 3) 3 [79, 68, 1] [(gp, 25, #[.slice p.A N1 p.c, .slice p.B N2 p.d])]) := Lib.hid (by
    have ho := World.ownsRow_lit (base := w.heap.size) (e := 5) (size := 1) (w.alloc (.cells #[.slice p.A N1 p.c, .slice p.B N2 p.d] 25)) #[.int .u8 79, .int .u8 68, .int .u8 1] 3 (by simp) (by decide) rfl
    refine ⟨rfl, ?_, by rw [hW0]; exact ((Below.refl _ _).alloc (Nat.le_refl _) _).alloc (by simp) _, fun b hb => ?_⟩
    · rw [hW0]; simpa [bv] using ho
    · obtain rfl := List.mem_singleton.1 hb
      refine ⟨?_, show 25 ≠ 5 by decide⟩
      rw [hW0, hgp]
      exact (Blk.new _ _ _).alloc _)
  have HP := Lib.hid hp
  have HOKP := Lib.hid hok
  have H1 := Lib.hid hN1
  have H2 := Lib.hid hN2
  have hn1 : N1 ≤ 12 := by have := (ok_pv hok).1; omega
  have hn2 : N2 ≤ 12 := by have := (ok_pv hok).2.1; omega
  have hw1 : IntKind.u64.wrap (N1 : Int) = (N1 : Int) := by rw [IntKind.wrap_u64]; omega
  have hw2 : IntKind.u64.wrap (N2 : Int) = (N2 : Int) := by rw [IntKind.wrap_u64]; omega
  unfold PV.val
  rw [← hN1, ← hN2]
  obtain ⟨A0, hA0⟩ : ∃ a, a = some (⟨w.heap.size + 1, 0, none⟩ : Addr) := ⟨_, rfl⟩
  obtain ⟨N0, hN0⟩ : ∃ a : Nat, a = 3 := ⟨_, rfl⟩
  clear hp hok hN1 hN2
  go_enter Tryd.func14, Tryd.ntmps14
  go_upto_region 2 with fail
  rw [← hW0, ← hgp]
  clear hW0
  rw [← hgp] at HS0
  clear hgp hA0 hN0
  have x0 : W0.cell? ⟨gp, 0, none⟩ = some (.slice p.A N1 p.c) := (HS0.out.bl _ (List.Mem.head _)).1.cell 0
  have gpl := (HS0.out.bl _ (List.Mem.head _)).1.lt
  go_wp2_with fail
  refine (rput_is N1 _ rfl _ (u64_low (by omega))).mono ?_
  rintro e wap ⟨Aap, cap, rfl, _, hra, hba⟩
  have HQa : Hid (OSt w wap (.slice (some ⟨gp + 1, 0, none⟩) 3 3) 3 [79, 68, 1] [(gp, 25, #[.slice p.A N1 p.c, .slice p.B N2 p.d])]) := Lib.hid (HS0.out.next hba)
  have HRa := Lib.hid hra
  obtain ⟨ma, hma⟩ : ∃ m, m = (enc N1).length := ⟨_, rfl⟩
  have hma' : ma ≤ 10 := by rw [hma]; exact enc_len _
  rw [← hma] at HRa ⊢
  have HMa := Lib.hid hma
  clear hra hba hma x0 gpl
  go_wp2_with (at_builtin
               go_must (refine wpList_append_any _ rfl (.tmp 10) (.tmp 15) _ rfl w.heap.size 5 i0 _ 1 1 Tryd.underlying26 hi0 hz0 hz1 hz2 rfl (by omega) (.slice (some ⟨gp + 1, 0, none⟩) 3 3) 3 ([79, 68, 1].map bv) rfl HQa.out.own _ Aap ma cap ((enc N1).map bv) rfl HRa.out (bvs_one _) (by unfold maxLen; omega) (by omega) HQa.out.bw.size ?_)
               intro va wa howna hga hata
               obtain ⟨Aa, ca, hva, hrra⟩ := own_reads howna
               clear hrra hata
               have hoa := HQa.out.app HMa.out.symm howna hga
               obtain ⟨Na, hNa⟩ : ∃ n, n = 3 + ma := ⟨_, rfl⟩
               obtain ⟨La, hLa⟩ : ∃ l, l = [79, 68, 1] ++ enc N1 := ⟨_, rfl⟩
               rw [← hNa] at hva hoa
               rw [← hLa] at hoa
               subst hva
               have HSa := Lib.hid hoa
               have HLa := Lib.hid hLa
               have hNa' : Na ≤ 13 := by omega
               clear hoa howna hga hNa hLa
               have x0 : wa.cell? ⟨gp, 0, none⟩ = some (.slice p.A N1 p.c) := (HSa.out.bl _ (List.Mem.head _)).1.cell 0
               have gpl := (HSa.out.bl _ (List.Mem.head _)).1.lt)
  have HSL : Hid (OSt w wa (.slice Aa Na ca) Na (preC p.prg 0) [(gp, 25, #[.slice p.A N1 p.c, .slice p.B N2 p.d])]) := Lib.hid (by
    have e : preC p.prg 0 = La := by rw [HLa.out, H1.out]; simp [preC, PV.prg]
    rw [e]; exact HSa.out)
  clear x0 gpl HSa HQa HRa HMa HLa HS0
  go_loopw [3, 4] (fun sv si wr => OCRel w p.prg [(gp, 25, #[.slice p.A N1 p.c, .slice p.B N2 p.d])] sv si wr) (fun _ si _ => N1 - (intOf si).toNat)
  case atStart => exact ⟨0, _, _, _, Nat.zero_le _, rfl, rfl, HSL.out⟩
  case round =>
    clear HSL
    obtain ⟨k, N, cN, A, hk, rfl, rfl, hos⟩ := hrel
    have HS := Lib.hid hos
    have hpl := preC_len HOKP.out k
    have hNb : N ≤ 300 := by have := hos.len; omega
    obtain ⟨L, hL⟩ : ∃ l, l = preC p.prg k := ⟨_, rfl⟩
    rw [← hL] at HS
    have HLK := Lib.hid hL
    clear hos hpl hL
    have x0 : wr.cell? ⟨gp, 0, none⟩ = some (.slice p.A N1 p.c) := (HS.out.bl _ (List.Mem.head _)).1.cell 0
    have gpl := (HS.out.bl _ (List.Mem.head _)).1.lt
    by_cases hlt : k < N1
    · as_aux_lemma =>
        have hlt' : (k : Int) < (N1 : Int) := by omega
        have hk0 : (0 : Int) ≤ (k : Int) := by omega
        obtain ⟨c, hck⟩ : ∃ c, p.cls[k]? = some c := ⟨_, List.getElem?_eq_getElem (by have := H1.out; omega)⟩
        obtain ⟨B, u, hB, hBb, hu, hcell⟩ := HP.out.cls.at_ (k := k) (by have := H1.out; omega)
        rw [List.getElem?_map, hck] at hu
        obtain rfl : strV c = u := by simpa using hu
        have HCK := Lib.hid hck
        obtain ⟨q, hq⟩ : ∃ q, q = (⟨c.toArray⟩ : ByteArray) := ⟨_, rfl⟩
        obtain ⟨S, hS⟩ : ∃ n, n = c.length := ⟨_, rfl⟩
        have hqs : q.size = S := by rw [hq, hS]; exact size_mk _
        have HQC : Hid (Lib.strCells q = (nats c).map bv) := Lib.hid (by rw [hq]; exact strCells_bv c)
        have HSS := Lib.hid hS
        have hs10 : S ≤ 10 := by have := (HOKP.out.1.2 c (List.mem_of_getElem? hck)).1; omega
        have hwS : IntKind.u64.wrap (S : Int) = (S : Int) := by rw [IntKind.wrap_u64]; omega
        unfold strV at hcell
        rw [← hq] at hcell
        rw [hB] at x0 ⊢
        have hc0 : wr.cell? (B.add k) = some (.string q) := (HS.out.bw.cell (p := B.add k) (by rw [block_of_add]; exact hBb)).trans hcell
        have HCELL : Hid (∀ X, Below w.heap.size w X → X.cell? (B.add k) = some (.string q)) := Lib.hid (fun X hX => (hX.cell (p := B.add k) (by rw [block_of_add]; exact hBb)).trans hcell)
        have HSB := Lib.hid HS.out
        clear hck hu hq hS hcell
        go_wp2_with fail
        refine (rput_is S _ rfl _ (u64_low (by omega))).mono ?_
        rintro e wbp ⟨Abp, cbp, rfl, _, hrb, hbb⟩
        have HQb : Hid (OSt w wbp (.slice A N cN) N L [(gp, 25, #[.slice p.A N1 p.c, .slice p.B N2 p.d])]) := Lib.hid (HS.out.next hbb)
        have HRb := Lib.hid hrb
        obtain ⟨mb, hmb⟩ : ∃ m, m = (enc S).length := ⟨_, rfl⟩
        have hmb' : mb ≤ 10 := by rw [hmb]; exact enc_len _
        rw [← hmb] at HRb ⊢
        have HMb := Lib.hid hmb
        clear hrb hbb hmb x0 gpl hc0
        go_upto_region 7 with (at_builtin
                               go_must (refine wpList_append_any _ rfl (.tmp 24) (.tmp 33) _ rfl w.heap.size 5 i0 _ 1 1 Tryd.underlying26 hi0 hz0 hz1 hz2 rfl (by omega) (.slice A N cN) N (L.map bv) rfl HQb.out.own _ Abp mb cbp ((enc S).map bv) rfl HRb.out (bvs_one _) (by unfold maxLen; omega) (by omega) HQb.out.bw.size ?_)
                               intro vb wb hownb hgb hatb
                               obtain ⟨Ab, cb, hvb, hrrb⟩ := own_reads hownb
                               clear hrrb hatb
                               have hob := HQb.out.app HMb.out.symm hownb hgb
                               obtain ⟨Nb, hNb⟩ : ∃ n, n = N + mb := ⟨_, rfl⟩
                               obtain ⟨Lb, hLb⟩ : ∃ l, l = L ++ enc S := ⟨_, rfl⟩
                               rw [← hNb] at hvb hob
                               rw [← hLb] at hob
                               subst hvb
                               have HSb := Lib.hid hob
                               have HLb := Lib.hid hLb
                               have hNb' : Nb ≤ 310 := by omega
                               clear hob hownb hgb hNb hLb
                               have x0 : wb.cell? ⟨gp, 0, none⟩ = some (.slice (some B) N1 p.c) := by rw [← hB]; exact (HSb.out.bl _ (List.Mem.head _)).1.cell 0
                               have gpl := (HSb.out.bl _ (List.Mem.head _)).1.lt
                               have hc0 := HCELL.out _ HSb.out.bw)
        go_wp2_with (at_builtin
                     go_must (refine Lib.wpList_append_own_string _ rfl (.tmp 35) (.tmp 41) _ _ rfl w.heap.size 5 i0 Tryd.underlying26 Tryd.underlying9 hi0 hz0 hz1 hz2 (.slice Ab Nb cb) Nb (Lb.map bv) rfl HSb.out.own q rfl (by unfold maxLen; omega) (by omega) HSb.out.bw.size ?_)
                     intro vd wd hownd hgd hatd
                     obtain ⟨Ad, cd, hvd, hrrd⟩ := own_reads hownd
                     clear hrrd hatd
                     rw [HQC.out] at hownd
                     have hod := HSb.out.app (show (nats c).length = q.size by rw [hqs]; simp [nats]; have := HSS.out; omega) hownd hgd
                     obtain ⟨Nd, hNd⟩ : ∃ n, n = Nb + q.size := ⟨_, rfl⟩
                     obtain ⟨Ld, hLd⟩ : ∃ l, l = Lb ++ nats c := ⟨_, rfl⟩
                     rw [← hNd] at hvd hod
                     rw [← hLd] at hod
                     subst hvd
                     have HSd := Lib.hid hod
                     have HLd := Lib.hid hLd
                     have hNd' : Nd ≤ 320 := by omega
                     clear hod hownd hgd hNd hLd
                     have x0 : wd.cell? ⟨gp, 0, none⟩ = some (.slice (some B) N1 p.c) := by rw [← hB]; exact (HSd.out.bl _ (List.Mem.head _)).1.cell 0
                     have gpl := (HSd.out.bl _ (List.Mem.head _)).1.lt
                     have hc0 := HCELL.out _ HSd.out.bw)
        skip
        have HFIN : Hid (OSt w wd (.slice Ad Nd cd) Nd (preC p.prg (k + 1)) [(gp, 25, #[.slice p.A N1 p.c, .slice p.B N2 p.d])]) := Lib.hid (by
          have e : preC p.prg (k + 1) = Ld := by rw [preC_succ (show p.prg.cls[k]? = some c from HCK.out), HLd.out, HLb.out, HLK.out, HSS.out]; simp [encS]
          rw [e]; exact HSd.out)
        clear x0 gpl hc0 HSd
        go_roundw
        case rel => exact ⟨k + 1, _, _, _, by have := H1.out; simp [PV.prg]; omega, by go_num, rfl, by have h := HFIN.out; rw [hB] at h; exact h⟩
        case measure => simp [intOf]; omega
    · have hk' : k = N1 := by have := H1.out; simp [PV.prg] at hk; omega
      subst hk'
      have t1 : decide ((k : Int) < (k : Int)) = false := by simp
      have HEC : Hid (L = preC p.prg p.prg.cls.length) := Lib.hid (by rw [HLK.out, H1.out]; rfl)
      have x1 : wr.cell? ⟨gp, 1, none⟩ = some (.slice p.B N2 p.d) := (HS.out.bl _ (List.Mem.head _)).1.cell 1
      go_wp2_with fail
      refine (rput_is N2 _ rfl _ (u64_low (by omega))).mono ?_
      rintro e wep ⟨Aep, cep, rfl, _, hre, hbe⟩
      have HQe : Hid (OSt w wep (.slice A N cN) N L [(gp, 25, #[.slice p.A k p.c, .slice p.B N2 p.d])]) := Lib.hid (HS.out.next hbe)
      have HRe := Lib.hid hre
      obtain ⟨me, hme⟩ : ∃ m, m = (enc N2).length := ⟨_, rfl⟩
      have hme' : me ≤ 10 := by rw [hme]; exact enc_len _
      rw [← hme] at HRe ⊢
      have HMe := Lib.hid hme
      clear hre hbe hme x0 x1 gpl
      go_wp2_with (at_builtin
                   go_must (refine wpList_append_any _ rfl (.tmp 43) (.tmp 48) _ rfl w.heap.size 5 i0 _ 1 1 Tryd.underlying26 hi0 hz0 hz1 hz2 rfl (by omega) (.slice A N cN) N (L.map bv) rfl HQe.out.own _ Aep me cep ((enc N2).map bv) rfl HRe.out (bvs_one _) (by unfold maxLen; omega) (by omega) HQe.out.bw.size ?_)
                   intro ve we howne hge hate
                   obtain ⟨Ae, ce, hve, hrre⟩ := own_reads howne
                   clear hrre hate
                   have hoe := HQe.out.app HMe.out.symm howne hge
                   obtain ⟨Ne, hNe⟩ : ∃ n, n = N + me := ⟨_, rfl⟩
                   obtain ⟨Le, hLe⟩ : ∃ l, l = L ++ enc N2 := ⟨_, rfl⟩
                   rw [← hNe] at hve hoe
                   rw [← hLe] at hoe
                   subst hve
                   have HSe := Lib.hid hoe
                   have HLe := Lib.hid hLe
                   have hNe' : Ne ≤ 320 := by omega
                   clear hoe howne hge hNe hLe
                   have x1 : we.cell? ⟨gp, 1, none⟩ = some (.slice p.B N2 p.d) := (HSe.out.bl _ (List.Mem.head _)).1.cell 1
                   have gpl := (HSe.out.bl _ (List.Mem.head _)).1.lt)
      have HSM : Hid (OSt w we (.slice Ae Ne ce) Ne (preM p.prg 0) [(gp, 25, #[.slice p.A k p.c, .slice p.B N2 p.d])]) := Lib.hid (by
        have e : preM p.prg 0 = Le := by rw [HLe.out, HEC.out, H2.out]; simp [preM, PV.prg]
        rw [e]; exact HSe.out)
      clear x1 gpl HSe HQe HRe HMe HLe HS
      go_loopw [3, 5] (fun sv si wr => OMRel w p.prg [(gp, 25, #[.slice p.A k p.c, .slice p.B N2 p.d])] sv si wr) (fun _ si _ => N2 - (intOf si).toNat)
      case atStart => exact ⟨0, _, _, _, Nat.zero_le _, rfl, rfl, HSM.out⟩
      case round =>
        clear HSM
        obtain ⟨i, N, cN, A, hi, rfl, rfl, hos⟩ := hrel
        have HS := Lib.hid hos
        have hpl := preM_len HOKP.out i
        have hNb2 : N ≤ 60000 := by have := hos.len; omega
        obtain ⟨L, hL⟩ : ∃ l, l = preM p.prg i := ⟨_, rfl⟩
        rw [← hL] at HS
        have HLI := Lib.hid hL
        clear hos hpl hL
        have x1 : wr.cell? ⟨gp, 1, none⟩ = some (.slice p.B N2 p.d) := (HS.out.bl _ (List.Mem.head _)).1.cell 1
        have gpl := (HS.out.bl _ (List.Mem.head _)).1.lt
        by_cases hlti : i < N2
        · as_aux_lemma =>
            have hiN : (i : Int) < (N2 : Int) := by omega
            have hii0 : (0 : Int) ≤ (i : Int) := by omega
            obtain ⟨x, hx⟩ : ∃ x, p.ms[i]? = some x := ⟨_, List.getElem?_eq_getElem (by have := H2.out; omega)⟩
            have hpx : p.prg.mets[i]? = some x.m := by simp [PV.prg, hx]
            have HPX := Lib.hid hpx
            have HXM := Lib.hid (List.mem_of_getElem? hx)
            have HOM := Lib.hid (HOKP.out.2.2 x.m (List.mem_of_getElem? hpx))
            obtain ⟨B, hB, hBb, m0, m1, m2, m3⟩ := (HP.out.below HS.out.bw).ms.four mvC_len hx rfl
            rw [hB] at x1 ⊢
            have HBB := Lib.hid hB
            obtain ⟨q0, hq0⟩ : ∃ q, q = (⟨x.m.par.toArray⟩ : ByteArray) := ⟨_, rfl⟩
            obtain ⟨q1, hq1⟩ : ∃ q, q = (⟨x.m.loc.toArray⟩ : ByteArray) := ⟨_, rfl⟩
            obtain ⟨q2, hq2⟩ : ∃ q, q = (⟨x.m.ret.toArray⟩ : ByteArray) := ⟨_, rfl⟩
            obtain ⟨M, hM⟩ : ∃ q, q = x.m.code.length := ⟨_, rfl⟩
            obtain ⟨S0, hS0⟩ : ∃ n, n = x.m.par.length := ⟨_, rfl⟩
            obtain ⟨S1, hS1⟩ : ∃ n, n = x.m.loc.length := ⟨_, rfl⟩
            unfold strV at m0 m1 m2
            rw [← hq0] at m0
            rw [← hq1] at m1
            rw [← hq2] at m2
            rw [← hM] at m3
            have hqs0 : q0.size = S0 := by rw [hq0, hS0]; exact size_mk _
            have hqs1 : q1.size = S1 := by rw [hq1, hS1]; exact size_mk _
            have HQ0 : Hid (Lib.strCells q0 = (nats x.m.par).map bv) := Lib.hid (by rw [hq0]; exact strCells_bv _)
            have HQ1 : Hid (Lib.strCells q1 = (nats x.m.loc).map bv) := Lib.hid (by rw [hq1]; exact strCells_bv _)
            have HQD : Hid (q2 = (⟨x.m.ret.toArray⟩ : ByteArray)) := Lib.hid hq2
            have HQ2 : Hid (q2.toList = x.m.ret) := Lib.hid (by rw [hq2]; exact toList_mk _)
            have HSS : Hid (S0 = x.m.par.length ∧ S1 = x.m.loc.length ∧ M = x.m.code.length) := Lib.hid ⟨hS0, hS1, hM⟩
            have hs0 : S0 ≤ 12 := by have := HOM.out.1.1.1; omega
            have hs1 : S1 ≤ 12 := by have := HOM.out.1.2.1; omega
            have hM120 : M ≤ 120 := by have := HOM.out.2.2.1.2; omega
            have hw0 : IntKind.u64.wrap (S0 : Int) = (S0 : Int) := by rw [IntKind.wrap_u64]; omega
            have hw1' : IntKind.u64.wrap (S1 : Int) = (S1 : Int) := by rw [IntKind.wrap_u64]; omega
            have hwM : IntKind.u64.wrap (M : Int) = (M : Int) := by rw [IntKind.wrap_u64]; omega
            obtain ⟨W1, hW1⟩ : ∃ W, W = wr.alloc (.cells #[.string q0, .string q1, .string q2, .slice x.A M x.c] 54) := ⟨_, rfl⟩
            obtain ⟨gm, hgm⟩ : ∃ g, g = wr.heap.size := ⟨_, rfl⟩
            have HSX : Hid (OSt w W1 (.slice A N cN) N L [(gm, 54, #[.string q0, .string q1, .string q2, .slice x.A M x.c]), (gp, 25, #[.slice p.A k p.c, .slice p.B N2 p.d])]) := Lib.hid (by
              rw [hW1]
              refine (HS.out.next ((Below.refl _ _).alloc (Nat.le_refl _) _)).add ?_ (by decide)
              rw [hgm]
              exact Blk.new _ _ _)
            clear hx hpx hq0 hq1 hq2 hM hS0 hS1 HS
            go_upto_region 13 with fail
            rw [← hW1, ← hgm]
            clear hW1 hgm m0 m1 m2 m3 x1 gpl hBb
            have y0 : W1.cell? ⟨gm, 0, none⟩ = some (.string q0) := (HSX.out.bl _ (List.Mem.head _)).1.cell 0
            have gml := (HSX.out.bl _ (List.Mem.head _)).1.lt
            go_wp2_with fail
            refine (rput_is S0 _ rfl _ (u64_low (by omega))).mono ?_
            rintro e wfp ⟨Afp, cfp, rfl, _, hrf, hbf⟩
            have HQf : Hid (OSt w wfp (.slice A N cN) N L [(gm, 54, #[.string q0, .string q1, .string q2, .slice x.A M x.c]), (gp, 25, #[.slice p.A k p.c, .slice p.B N2 p.d])]) := Lib.hid (HSX.out.next hbf)
            have HRf := Lib.hid hrf
            obtain ⟨mf, hmf⟩ : ∃ m, m = (enc S0).length := ⟨_, rfl⟩
            have hmf' : mf ≤ 10 := by rw [hmf]; exact enc_len _
            rw [← hmf] at HRf ⊢
            have HMf := Lib.hid hmf
            clear hrf hbf hmf y0 gml
            go_upto_region 14 with (at_builtin
                                    go_must (refine wpList_append_any _ rfl (.tmp 62) (.tmp 67) _ rfl w.heap.size 5 i0 _ 1 1 Tryd.underlying26 hi0 hz0 hz1 hz2 rfl (by omega) (.slice A N cN) N (L.map bv) rfl HQf.out.own _ Afp mf cfp ((enc S0).map bv) rfl HRf.out (bvs_one _) (by unfold maxLen; omega) (by omega) HQf.out.bw.size ?_)
                                    intro vf wf hownf hgf hatf
                                    obtain ⟨Af, cf, hvf, hrrf⟩ := own_reads hownf
                                    clear hrrf hatf
                                    have hof := HQf.out.app HMf.out.symm hownf hgf
                                    obtain ⟨Nf, hNf⟩ : ∃ n, n = N + mf := ⟨_, rfl⟩
                                    obtain ⟨Lf, hLf⟩ : ∃ l, l = L ++ enc S0 := ⟨_, rfl⟩
                                    rw [← hNf] at hvf hof
                                    rw [← hLf] at hof
                                    subst hvf
                                    have HSf := Lib.hid hof
                                    have HLf := Lib.hid hLf
                                    have hNf' : Nf ≤ 60010 := by omega
                                    clear hof hownf hgf hNf hLf
                                    have y0 : wf.cell? ⟨gm, 0, none⟩ = some (.string q0) := (HSf.out.bl _ (List.Mem.head _)).1.cell 0
                                    have gml := (HSf.out.bl _ (List.Mem.head _)).1.lt)
            go_upto_region 15 with (at_builtin
                                    go_must (refine Lib.wpList_append_own_string _ rfl (.tmp 69) (.tmp 71) _ _ rfl w.heap.size 5 i0 Tryd.underlying26 Tryd.underlying9 hi0 hz0 hz1 hz2 (.slice Af Nf cf) Nf (Lf.map bv) rfl HSf.out.own q0 rfl (by unfold maxLen; omega) (by omega) HSf.out.bw.size ?_)
                                    intro vg wg howng hgg hatg
                                    obtain ⟨Ag, cg, hvg, hrrg⟩ := own_reads howng
                                    clear hrrg hatg
                                    rw [HQ0.out] at howng
                                    have hog := HSf.out.app (show (nats x.m.par).length = q0.size by rw [hqs0]; simp [nats]; have := HSS.out.1; omega) howng hgg
                                    obtain ⟨Ng, hNg⟩ : ∃ n, n = Nf + q0.size := ⟨_, rfl⟩
                                    obtain ⟨Lg, hLg⟩ : ∃ l, l = Lf ++ nats x.m.par := ⟨_, rfl⟩
                                    rw [← hNg] at hvg hog
                                    rw [← hLg] at hog
                                    subst hvg
                                    have HSg := Lib.hid hog
                                    have HLg := Lib.hid hLg
                                    have hNg' : Ng ≤ 60022 := by omega
                                    clear hog howng hgg hNg hLg
                                    clear y0 gml
                                    have y1 : wg.cell? ⟨gm, 1, none⟩ = some (.string q1) := (HSg.out.bl _ (List.Mem.head _)).1.cell 1
                                    have gml := (HSg.out.bl _ (List.Mem.head _)).1.lt)
            go_wp2_with fail
            refine (rput_is S1 _ rfl _ (u64_low (by omega))).mono ?_
            rintro e whp ⟨Ahp, chp, rfl, _, hrh, hbh⟩
            have HQh : Hid (OSt w whp (.slice Ag Ng cg) Ng Lg [(gm, 54, #[.string q0, .string q1, .string q2, .slice x.A M x.c]), (gp, 25, #[.slice p.A k p.c, .slice p.B N2 p.d])]) := Lib.hid (HSg.out.next hbh)
            have HRh := Lib.hid hrh
            obtain ⟨mh, hmh⟩ : ∃ m, m = (enc S1).length := ⟨_, rfl⟩
            have hmh' : mh ≤ 10 := by rw [hmh]; exact enc_len _
            rw [← hmh] at HRh ⊢
            have HMh := Lib.hid hmh
            clear hrh hbh hmh y1 gml
            go_upto_region 16 with (at_builtin
                                    go_must (refine wpList_append_any _ rfl (.tmp 73) (.tmp 78) _ rfl w.heap.size 5 i0 _ 1 1 Tryd.underlying26 hi0 hz0 hz1 hz2 rfl (by omega) (.slice Ag Ng cg) Ng (Lg.map bv) rfl HQh.out.own _ Ahp mh chp ((enc S1).map bv) rfl HRh.out (bvs_one _) (by unfold maxLen; omega) (by omega) HQh.out.bw.size ?_)
                                    intro vh wh hownh hgh hath
                                    obtain ⟨Ah, ch, hvh, hrrh⟩ := own_reads hownh
                                    clear hrrh hath
                                    have hoh := HQh.out.app HMh.out.symm hownh hgh
                                    obtain ⟨Nh, hNh⟩ : ∃ n, n = Ng + mh := ⟨_, rfl⟩
                                    obtain ⟨Lh, hLh⟩ : ∃ l, l = Lg ++ enc S1 := ⟨_, rfl⟩
                                    rw [← hNh] at hvh hoh
                                    rw [← hLh] at hoh
                                    subst hvh
                                    have HSh := Lib.hid hoh
                                    have HLh := Lib.hid hLh
                                    have hNh' : Nh ≤ 60032 := by omega
                                    clear hoh hownh hgh hNh hLh
                                    have y1 : wh.cell? ⟨gm, 1, none⟩ = some (.string q1) := (HSh.out.bl _ (List.Mem.head _)).1.cell 1
                                    have gml := (HSh.out.bl _ (List.Mem.head _)).1.lt)
            go_upto_region 17 with (at_builtin
                                    go_must (refine Lib.wpList_append_own_string _ rfl (.tmp 80) (.tmp 82) _ _ rfl w.heap.size 5 i0 Tryd.underlying26 Tryd.underlying9 hi0 hz0 hz1 hz2 (.slice Ah Nh ch) Nh (Lh.map bv) rfl HSh.out.own q1 rfl (by unfold maxLen; omega) (by omega) HSh.out.bw.size ?_)
                                    intro vj wj hownj hgj hatj
                                    obtain ⟨Aj, cj, hvj, hrrj⟩ := own_reads hownj
                                    clear hrrj hatj
                                    rw [HQ1.out] at hownj
                                    have hoj := HSh.out.app (show (nats x.m.loc).length = q1.size by rw [hqs1]; simp [nats]; have := HSS.out.2.1; omega) hownj hgj
                                    obtain ⟨Nj, hNj⟩ : ∃ n, n = Nh + q1.size := ⟨_, rfl⟩
                                    obtain ⟨Lj, hLj⟩ : ∃ l, l = Lh ++ nats x.m.loc := ⟨_, rfl⟩
                                    rw [← hNj] at hvj hoj
                                    rw [← hLj] at hoj
                                    subst hvj
                                    have HSj := Lib.hid hoj
                                    have HLj := Lib.hid hLj
                                    have hNj' : Nj ≤ 60044 := by omega
                                    clear hoj hownj hgj hNj hLj
                                    clear y1 gml
                                    have y2 : wj.cell? ⟨gm, 2, none⟩ = some (.string q2) := (HSj.out.bl _ (List.Mem.head _)).1.cell 2
                                    have gml := (HSj.out.bl _ (List.Mem.head _)).1.lt)
            obtain ⟨t, ht⟩ : ∃ t : Bool, (q2.toList == []) = t := ⟨_, rfl⟩
            go_upto_if 86 with fail
            have HTT := Lib.hid ht
            clear ht
            go_cut [3] from 84 to 96 (fun sv wx => OCut w (Lj ++ encR x.m.ret) 60045 [(gm, 54, #[.string q0, .string q1, .string q2, .slice x.A M x.c]), (gp, 25, #[.slice p.A k p.c, .slice p.B N2 p.d])] sv wx)
            case first =>
              as_aux_lemma =>
                rcases retB_cases HOM.out.2.1 with e | e | e
                · have HRE := Lib.hid e
                  obtain rfl : t = true := by rw [← HTT.out, HQ2.out, e]; rfl
                  clear e
                  go_wp2_with (at_builtin
                               go_must (refine wpList_append_any _ rfl (.tmp 87) (.tmp 88) _ rfl w.heap.size 5 i0 _ 1 1 Tryd.underlying26 hi0 hz0 hz1 hz2 rfl (by omega) (.slice Aj Nj cj) Nj (Lj.map bv) rfl (HSj.out.next ((Below.refl _ _).alloc (Nat.le_refl _) _)).own _ (some ⟨wj.heap.size, 0, none⟩) 1 1 [bv 0] rfl (by exact reads_newS _ _ _ 1 1 _ rfl rfl) (bvs_one [0]) (by unfold maxLen; omega) (by omega) (HSj.out.next ((Below.refl _ _).alloc (Nat.le_refl _) _)).bw.size ?_)
                               intro vk0 wk0 hownk0 hgk0 hatk0
                               obtain ⟨Ak0, ck0, hvk0, hrrk0⟩ := own_reads hownk0
                               clear hrrk0 hatk0
                               go_must (have hok0 := (HSj.out.next ((Below.refl _ _).alloc (Nat.le_refl _) _)).app (m := 1) (l := [0]) rfl hownk0 hgk0)
                               obtain ⟨Nk0, hNk0⟩ : ∃ n, n = Nj + 1 := ⟨_, rfl⟩
                               obtain ⟨Lk0, hLk0⟩ : ∃ l, l = Lj ++ [0] := ⟨_, rfl⟩
                               rw [← hNk0] at hvk0 hok0
                               rw [← hLk0] at hok0
                               subst hvk0
                               have HSk0 := Lib.hid hok0
                               have HLk0 := Lib.hid hLk0
                               have hNk0' : Nk0 ≤ 60045 := by omega
                               clear hok0 hownk0 hgk0 hNk0 hLk0)
                  have HT : Hid (Lk0 = Lj ++ encR x.m.ret) := Lib.hid (by rw [HLk0.out, HRE.out]; rfl)
                  go_meet
                  case rel => exact ⟨_, _, _, _, rfl, HSk0.out, HT.out, hNk0'⟩
                · have HRE := Lib.hid e
                  have e2 : q2 = ⟨#[73]⟩ := by rw [HQD.out, e]
                  obtain rfl : t = false := by rw [← HTT.out, HQ2.out, e]; rfl
                  clear e
                  subst e2
                  go_wp2_with (at_builtin
                               go_must (refine wpList_append_any _ rfl (.tmp 90) (.tmp 94) _ rfl w.heap.size 5 i0 _ 1 1 Tryd.underlying26 hi0 hz0 hz1 hz2 rfl (by omega) (.slice Aj Nj cj) Nj (Lj.map bv) rfl (HSj.out.next ((Below.refl _ _).alloc (Nat.le_refl _) _)).own _ (some ⟨wj.heap.size, 0, none⟩) 1 1 [bv 73] rfl (by exact reads_newS _ _ _ 1 1 _ rfl rfl) (bvs_one [73]) (by unfold maxLen; omega) (by omega) (HSj.out.next ((Below.refl _ _).alloc (Nat.le_refl _) _)).bw.size ?_)
                               intro vk1 wk1 hownk1 hgk1 hatk1
                               obtain ⟨Ak1, ck1, hvk1, hrrk1⟩ := own_reads hownk1
                               clear hrrk1 hatk1
                               go_must (have hok1 := (HSj.out.next ((Below.refl _ _).alloc (Nat.le_refl _) _)).app (m := 1) (l := [73]) rfl hownk1 hgk1)
                               obtain ⟨Nk1, hNk1⟩ : ∃ n, n = Nj + 1 := ⟨_, rfl⟩
                               obtain ⟨Lk1, hLk1⟩ : ∃ l, l = Lj ++ [73] := ⟨_, rfl⟩
                               rw [← hNk1] at hvk1 hok1
                               rw [← hLk1] at hok1
                               subst hvk1
                               have HSk1 := Lib.hid hok1
                               have HLk1 := Lib.hid hLk1
                               have hNk1' : Nk1 ≤ 60045 := by omega
                               clear hok1 hownk1 hgk1 hNk1 hLk1)
                  have HT : Hid (Lk1 = Lj ++ encR x.m.ret) := Lib.hid (by rw [HLk1.out, HRE.out]; rfl)
                  go_meet
                  case rel => exact ⟨_, _, _, _, rfl, HSk1.out, HT.out, hNk1'⟩
                · have HRE := Lib.hid e
                  have e2 : q2 = ⟨#[82]⟩ := by rw [HQD.out, e]
                  obtain rfl : t = false := by rw [← HTT.out, HQ2.out, e]; rfl
                  clear e
                  subst e2
                  go_wp2_with (at_builtin
                               go_must (refine wpList_append_any _ rfl (.tmp 90) (.tmp 94) _ rfl w.heap.size 5 i0 _ 1 1 Tryd.underlying26 hi0 hz0 hz1 hz2 rfl (by omega) (.slice Aj Nj cj) Nj (Lj.map bv) rfl (HSj.out.next ((Below.refl _ _).alloc (Nat.le_refl _) _)).own _ (some ⟨wj.heap.size, 0, none⟩) 1 1 [bv 82] rfl (by exact reads_newS _ _ _ 1 1 _ rfl rfl) (bvs_one [82]) (by unfold maxLen; omega) (by omega) (HSj.out.next ((Below.refl _ _).alloc (Nat.le_refl _) _)).bw.size ?_)
                               intro vk2 wk2 hownk2 hgk2 hatk2
                               obtain ⟨Ak2, ck2, hvk2, hrrk2⟩ := own_reads hownk2
                               clear hrrk2 hatk2
                               go_must (have hok2 := (HSj.out.next ((Below.refl _ _).alloc (Nat.le_refl _) _)).app (m := 1) (l := [82]) rfl hownk2 hgk2)
                               obtain ⟨Nk2, hNk2⟩ : ∃ n, n = Nj + 1 := ⟨_, rfl⟩
                               obtain ⟨Lk2, hLk2⟩ : ∃ l, l = Lj ++ [82] := ⟨_, rfl⟩
                               rw [← hNk2] at hvk2 hok2
                               rw [← hLk2] at hok2
                               subst hvk2
                               have HSk2 := Lib.hid hok2
                               have HLk2 := Lib.hid hLk2
                               have hNk2' : Nk2 ≤ 60045 := by omega
                               clear hok2 hownk2 hgk2 hNk2 hLk2)
                  have HT : Hid (Lk2 = Lj ++ encR x.m.ret) := Lib.hid (by rw [HLk2.out, HRE.out]; rfl)
                  go_meet
                  case rel => exact ⟨_, _, _, _, rfl, HSk2.out, HT.out, hNk2'⟩
            case rest =>
              as_aux_lemma =>
                obtain ⟨Nn, cn, An, Ln, rfl, hos, hLn, hNn⟩ := hcut
                have HSn := Lib.hid hos
                have HLn := Lib.hid hLn
                clear hos hLn y2 gml HSj
                have y3 : wc.cell? ⟨gm, 3, none⟩ = some (.slice x.A M x.c) := (HSn.out.bl _ (List.Mem.head _)).1.cell 3
                have gml := (HSn.out.bl _ (List.Mem.head _)).1.lt
                go_wp2_with fail
                refine (rput_is M _ rfl _ (u64_low (by omega))).mono ?_
                rintro e wop ⟨Aop, cop, rfl, _, hro, hbo⟩
                have HQo : Hid (OSt w wop (.slice An Nn cn) Nn Ln [(gm, 54, #[.string q0, .string q1, .string q2, .slice x.A M x.c]), (gp, 25, #[.slice p.A k p.c, .slice p.B N2 p.d])]) := Lib.hid (HSn.out.next hbo)
                have HRo := Lib.hid hro
                obtain ⟨mo, hmo⟩ : ∃ m, m = (enc M).length := ⟨_, rfl⟩
                have hmo' : mo ≤ 10 := by rw [hmo]; exact enc_len _
                rw [← hmo] at HRo ⊢
                have HMo := Lib.hid hmo
                clear hro hbo hmo y3 gml
                go_wp2_with (at_builtin
                             go_must (refine wpList_append_any _ rfl (.tmp 96) (.tmp 101) _ rfl w.heap.size 5 i0 _ 1 1 Tryd.underlying26 hi0 hz0 hz1 hz2 rfl (by omega) (.slice An Nn cn) Nn (Ln.map bv) rfl HQo.out.own _ Aop mo cop ((enc M).map bv) rfl HRo.out (bvs_one _) (by unfold maxLen; omega) (by omega) HQo.out.bw.size ?_)
                             intro vo wo howno hgo hato
                             obtain ⟨Ao, co, hvo, hrro⟩ := own_reads howno
                             clear hrro hato
                             have hoo := HQo.out.app HMo.out.symm howno hgo
                             obtain ⟨No, hNo⟩ : ∃ n, n = Nn + mo := ⟨_, rfl⟩
                             obtain ⟨Lo, hLo⟩ : ∃ l, l = Ln ++ enc M := ⟨_, rfl⟩
                             rw [← hNo] at hvo hoo
                             rw [← hLo] at hoo
                             subst hvo
                             have HSo := Lib.hid hoo
                             have HLo := Lib.hid hLo
                             have hNo' : No ≤ 60055 := by omega
                             clear hoo howno hgo hNo hLo
                             have y3 : wo.cell? ⟨gm, 3, none⟩ = some (.slice x.A M x.c) := (HSo.out.bl _ (List.Mem.head _)).1.cell 3
                             have gml := (HSo.out.bl _ (List.Mem.head _)).1.lt)
                have HLO : Hid (Lo = L ++ (encS x.m.par ++ (encS x.m.loc ++ (encR x.m.ret ++ enc x.m.code.length)))) := Lib.hid (by rw [HLo.out, HLn.out, HLj.out, HLh.out, HLg.out, HLf.out, HSS.out.1, HSS.out.2.1, HSS.out.2.2]; simp [encS])
                have HLN := Lib.hid HSo.out.len
                clear y3 gml HSn HQo HRo HMo
                go_loopw [3, 7] (fun sv si wr => OIRel w x.m.code Lo [(gm, 54, #[.string q0, .string q1, .string q2, .slice x.A M x.c]), (gp, 25, #[.slice p.A k p.c, .slice p.B N2 p.d])] sv si wr) (fun _ si _ => M - (intOf si).toNat)
                case atStart => exact ⟨0, _, _, _, Nat.zero_le _, rfl, rfl, by simpa using HSo.out⟩
                case round =>
                  clear HSo
                  obtain ⟨j, N3, c3, A3, hj, rfl, rfl, hos⟩ := hrel
                  have HS3 := Lib.hid hos
                  have hNb3 : N3 ≤ 64000 := by
                    have h0 := hos.len
                    have h1 := flat_len encI 31 (x.m.code.take j) (fun z _ => encI_len z)
                    have h2 : (x.m.code.take j).length ≤ 120 := by rw [List.length_take]; have := HSS.out.2.2; omega
                    have h3 : Lo.length = No := HLN.out
                    rw [List.length_append] at h0
                    omega
                  obtain ⟨L3, hL3⟩ : ∃ l, l = Lo ++ (x.m.code.take j).flatMap encI := ⟨_, rfl⟩
                  rw [← hL3] at HS3
                  have HL3 := Lib.hid hL3
                  clear hos hL3
                  have y3 : wr.cell? ⟨gm, 3, none⟩ = some (.slice x.A M x.c) := (HS3.out.bl _ (List.Mem.head _)).1.cell 3
                  have gml := (HS3.out.bl _ (List.Mem.head _)).1.lt
                  by_cases hjM : j < M
                  · as_aux_lemma =>
                      have hjM' : (j : Int) < (M : Int) := by omega
                      have hj0 : (0 : Int) ≤ (j : Int) := by omega
                      obtain ⟨y, hy⟩ : ∃ y, x.m.code[j]? = some y := ⟨_, List.getElem?_eq_getElem (by have := HSS.out.2.2; omega)⟩
                      have HY := Lib.hid hy
                      have hoky := HOM.out.2.2.2 y (List.mem_of_getElem? hy)
                      obtain ⟨o, ho⟩ := Int.eq_ofNat_of_zero_le (show 0 ≤ y.op by have := hoky.1.1; omega)
                      have ho35 : o ≤ 35 := by have := hoky.1.2; omega
                      have HO := Lib.hid ho
                      have HOKY := Lib.hid hoky
                      obtain ⟨C, hC, hCb, n0, n1, n2, n3⟩ := (((HP.out.below HS3.out.bw).more HS3.out.bw.size).code x HXM.out).four insC_len hy rfl
                      rw [ho] at n0
                      rw [hC] at y3 ⊢
                      have HCC := Lib.hid hC
                      have hwo : IntKind.u8.wrap (o : Int) = (o : Int) := by rw [IntKind.wrap_u8']; omega
                      obtain ⟨WI, hWI⟩ : ∃ W, W = wr.alloc (.cells #[.int .i64 (o : Int), .int .i64 y.a, .int .i64 y.b, .int .i64 y.n] 56) := ⟨_, rfl⟩
                      obtain ⟨gi, hgi⟩ : ∃ g, g = wr.heap.size := ⟨_, rfl⟩
                      have HSI : Hid (OSt w WI (.slice A3 N3 c3) N3 L3 [(gi, 56, #[.int .i64 (o : Int), .int .i64 y.a, .int .i64 y.b, .int .i64 y.n]), (gm, 54, #[.string q0, .string q1, .string q2, .slice x.A M x.c]), (gp, 25, #[.slice p.A k p.c, .slice p.B N2 p.d])]) := Lib.hid (by
                        rw [hWI]
                        refine (HS3.out.next ((Below.refl _ _).alloc (Nat.le_refl _) _)).add ?_ (by decide)
                        rw [hgi]
                        exact Blk.new _ _ _)
                      have HFIN : Hid (∀ T, encI y = o :: T → L3 ++ ([o] ++ T) = Lo ++ (x.m.code.take (j + 1)).flatMap encI) := Lib.hid (fun T hT => by
                        rw [HL3.out, List.take_add_one, HY.out]
                        simp [hT])
                      have HEY : Hid (encI y = o :: ((if hasA (o : Int) then enc y.a.toNat else []) ++ ((if hasB (o : Int) then enc y.b.toNat else []) ++ (if o = 1 then enc (zig y.n).toNat else [])))) := Lib.hid (by
                        unfold encI
                        rw [HO.out, Int.toNat_natCast]
                        congr 1
                        congr 1
                        congr 1
                        by_cases h1 : o = 1
                        · simp [h1]
                        · have h2 : ¬ (o : Int) = 1 := by omega
                          simp [h1, h2])
                      clear hy hoky ho hC HS3
                      go_upto_region 25 with fail
                      rw [← hWI, ← hgi]
                      clear hWI hgi n0 n1 n2 n3 y3 gml hCb
                      have ic0 : WI.cell? ⟨gi, 0, none⟩ = some (.int .i64 (o : Int)) := (HSI.out.bl _ (List.Mem.head _)).1.cell 0
                      have gil := (HSI.out.bl _ (List.Mem.head _)).1.lt
                      go_wp2_with (at_builtin
                                   go_must (refine wpList_append_any _ rfl (.tmp 115) (.tmp 119) _ rfl w.heap.size 5 i0 _ 1 1 Tryd.underlying26 hi0 hz0 hz1 hz2 rfl (by omega) (.slice A3 N3 c3) N3 (L3.map bv) rfl (HSI.out.next ((Below.refl _ _).alloc (Nat.le_refl _) _)).own _ (some ⟨WI.heap.size, 0, none⟩) 1 1 [bv o] rfl (by exact reads_newS _ _ _ 1 1 _ rfl rfl) (bvs_one [o]) (by unfold maxLen; omega) (by omega) (HSI.out.next ((Below.refl _ _).alloc (Nat.le_refl _) _)).bw.size ?_)
                                   intro vq wq hownq hgq hatq
                                   obtain ⟨Aq, cq, hvq, hrrq⟩ := own_reads hownq
                                   clear hrrq hatq
                                   go_must (have hoq := (HSI.out.next ((Below.refl _ _).alloc (Nat.le_refl _) _)).app (m := 1) (l := [o]) rfl hownq hgq)
                                   obtain ⟨Nq, hNq⟩ : ∃ n, n = N3 + 1 := ⟨_, rfl⟩
                                   obtain ⟨Lq, hLq⟩ : ∃ l, l = L3 ++ [o] := ⟨_, rfl⟩
                                   rw [← hNq] at hvq hoq
                                   rw [← hLq] at hoq
                                   subst hvq
                                   have HSq := Lib.hid hoq
                                   have HLq := Lib.hid hLq
                                   have hNq' : Nq ≤ 64001 := by omega
                                   clear hoq hownq hgq hNq hLq
                                   clear ic0 gil
                                   have ic0 : wq.cell? ⟨gi, 0, none⟩ = some (.int .i64 (o : Int)) := (HSq.out.bl _ (List.Mem.head _)).1.cell 0
                                   have gil := (HSq.out.bl _ (List.Mem.head _)).1.lt)
                      refine (rusesA_any (o : Int) _).mono ?_
                      rintro e wA ⟨rfl, hwA⟩
                      rw [← hwA]
                      clear hwA
                      cases hA : hasA (o : Int)
                      · as_aux_lemma =>
                          have HB0 : Hid (hasB (o : Int) = false) := Lib.hid (by
                            cases hB : hasB (o : Int)
                            · rfl
                            · rw [hasBA hB] at hA; cases hA)
                          have HA0 := Lib.hid hA
                          clear hA
                          go_wp2_with fail
                          refine (rusesB_is (o : Int) false HB0.out _).mono ?_
                          rintro e wB ⟨rfl, hwB⟩
                          rw [hwB]
                          clear hwB
                          by_cases h1 : o = 1
                          · have t1 : ((o : Int) == 1) = true := by simp [h1]
                            have hI64 : I64 y.n := by have := HOKY.out.2.2.2; rw [HO.out, if_pos (by omega)] at this; exact this
                            have hzu := zig_u64 y.n hI64
                            obtain ⟨u, hu⟩ := Int.eq_ofNat_of_zero_le hzu.1
                            have HU : Hid (U64 u) := Lib.hid (by have := hzu.2; rw [hu] at this; simpa using this)
                            have HZU := Lib.hid hu
                            have HI64 := Lib.hid hI64
                            have HEQ : Hid (encI y = o :: enc u) := Lib.hid (by rw [HEY.out, HA0.out, HB0.out, if_pos h1, hu]; rfl)
                            clear h1 hI64 hzu hu
                            have ic3 : wq.cell? ⟨gi, 3, none⟩ = some (.int .i64 y.n) := (HSq.out.bl _ (List.Mem.head _)).1.cell 3
                            have gil2 := (HSq.out.bl _ (List.Mem.head _)).1.lt
                            go_wp2_with fail
                            refine (rzig_any y.n HI64.out _).mono ?_
                            rintro e wZ ⟨rfl, hwZ⟩
                            rw [← hwZ]
                            clear hwZ
                            go_wp2_with fail
                            refine (rput_is u _ HZU.out _ HU.out).mono ?_
                            rintro e wzp ⟨Azp, czp, rfl, _, hrz, hbz⟩
                            have HQz : Hid (OSt w wzp (.slice Aq Nq cq) Nq Lq [(gi, 56, #[.int .i64 (o : Int), .int .i64 y.a, .int .i64 y.b, .int .i64 y.n]), (gm, 54, #[.string q0, .string q1, .string q2, .slice x.A M x.c]), (gp, 25, #[.slice p.A k p.c, .slice p.B N2 p.d])]) := Lib.hid (HSq.out.next hbz)
                            have HRz := Lib.hid hrz
                            obtain ⟨mz, hmz⟩ : ∃ m, m = (enc u).length := ⟨_, rfl⟩
                            have hmz' : mz ≤ 10 := by rw [hmz]; exact enc_len _
                            rw [← hmz] at HRz ⊢
                            have HMz := Lib.hid hmz
                            clear hrz hbz hmz ic0 gil gil2 ic3
                            go_wp2_with (at_builtin
                                         go_must (refine wpList_append_any _ rfl (.tmp 142) (.tmp 146) _ rfl w.heap.size 5 i0 _ 1 1 Tryd.underlying26 hi0 hz0 hz1 hz2 rfl (by omega) (.slice Aq Nq cq) Nq (Lq.map bv) rfl HQz.out.own _ Azp mz czp ((enc u).map bv) rfl HRz.out (bvs_one _) (by unfold maxLen; omega) (by omega) HQz.out.bw.size ?_)
                                         intro vz wz hownz hgz hatz
                                         obtain ⟨Az, cz, hvz, hrrz⟩ := own_reads hownz
                                         clear hrrz hatz
                                         have hoz := HQz.out.app HMz.out.symm hownz hgz
                                         obtain ⟨Nz, hNz⟩ : ∃ n, n = Nq + mz := ⟨_, rfl⟩
                                         obtain ⟨Lz, hLz⟩ : ∃ l, l = Lq ++ enc u := ⟨_, rfl⟩
                                         rw [← hNz] at hvz hoz
                                         rw [← hLz] at hoz
                                         subst hvz
                                         have HSz := Lib.hid hoz
                                         have HLz := Lib.hid hLz
                                         have hNz' : Nz ≤ 64011 := by omega
                                         clear hoz hownz hgz hNz hLz)
                            have HT : Hid (OSt w wz (.slice Az Nz cz) Nz (Lo ++ (x.m.code.take (j + 1)).flatMap encI) [(gm, 54, #[.string q0, .string q1, .string q2, .slice x.A M x.c]), (gp, 25, #[.slice p.A k p.c, .slice p.B N2 p.d])]) := Lib.hid (by
                              rw [← HFIN.out _ HEQ.out]
                              have e : Lz = L3 ++ ([o] ++ enc u) := (by rw [HLz.out, HLq.out]; simp)
                              rw [← e]
                              exact HSz.out.less)
                            go_roundw
                            case rel => exact ⟨j + 1, _, _, _, by have := HSS.out.2.2; omega, by go_num, rfl, by have h := HT.out; rw [HCC.out] at h; exact h⟩
                            case measure => simp [intOf]; omega
                          · have t1 : ((o : Int) == 1) = false := by simp; omega
                            have HEQ : Hid (encI y = o :: []) := Lib.hid (by rw [HEY.out, HA0.out, HB0.out, if_neg h1]; rfl)
                            clear h1
                            have HT : Hid (OSt w wq (.slice Aq Nq cq) Nq (Lo ++ (x.m.code.take (j + 1)).flatMap encI) [(gm, 54, #[.string q0, .string q1, .string q2, .slice x.A M x.c]), (gp, 25, #[.slice p.A k p.c, .slice p.B N2 p.d])]) := Lib.hid (by
                              rw [← HFIN.out _ HEQ.out]
                              have e : Lq = L3 ++ ([o] ++ []) := (by rw [HLq.out]; simp)
                              rw [← e]
                              exact HSq.out.less)
                            go_wp2
                            go_roundw
                            case rel => exact ⟨j + 1, _, _, _, by have := HSS.out.2.2; omega, by go_num, rfl, by have h := HT.out; rw [HCC.out] at h; exact h⟩
                            case measure => simp [intOf]; omega
                      · as_aux_lemma =>
                          have HA0 := Lib.hid hA
                          have h1 : ¬ o = 1 := by
                            intro h1
                            rw [h1] at hA
                            exact absurd hA (by decide)
                          have t1 : ((o : Int) == 1) = false := by simp; omega
                          have hra : 0 ≤ y.a ∧ y.a ≤ 1048576 := by have := HOKY.out.2.1; rw [HO.out, if_pos hA] at this; exact this
                          obtain ⟨a, ha⟩ := Int.eq_ofNat_of_zero_le hra.1
                          have ha2 : a ≤ 1048576 := by omega
                          have hwa : IntKind.u64.wrap (a : Int) = (a : Int) := by rw [IntKind.wrap_u64]; omega
                          have HAE := Lib.hid ha
                          have ic1 : wq.cell? ⟨gi, 1, none⟩ = some (.int .i64 y.a) := (HSq.out.bl _ (List.Mem.head _)).1.cell 1
                          have gil2 := (HSq.out.bl _ (List.Mem.head _)).1.lt
                          rw [ha] at ic1
                          clear hra ha hA
                          go_wp2_with fail
                          refine (rput_is a _ rfl _ (u64_small ha2)).mono ?_
                          rintro e wsp ⟨Asp, csp, rfl, _, hrs, hbs⟩
                          have HQs : Hid (OSt w wsp (.slice Aq Nq cq) Nq Lq [(gi, 56, #[.int .i64 (o : Int), .int .i64 y.a, .int .i64 y.b, .int .i64 y.n]), (gm, 54, #[.string q0, .string q1, .string q2, .slice x.A M x.c]), (gp, 25, #[.slice p.A k p.c, .slice p.B N2 p.d])]) := Lib.hid (HSq.out.next hbs)
                          have HRs := Lib.hid hrs
                          obtain ⟨ms, hms⟩ : ∃ m, m = (enc a).length := ⟨_, rfl⟩
                          have hms' : ms ≤ 10 := by rw [hms]; exact enc_len _
                          rw [← hms] at HRs ⊢
                          have HMs := Lib.hid hms
                          clear hrs hbs hms ic0 gil gil2 ic1
                          go_wp2_with (at_builtin
                                       go_must (refine wpList_append_any _ rfl (.tmp 124) (.tmp 128) _ rfl w.heap.size 5 i0 _ 1 1 Tryd.underlying26 hi0 hz0 hz1 hz2 rfl (by omega) (.slice Aq Nq cq) Nq (Lq.map bv) rfl HQs.out.own _ Asp ms csp ((enc a).map bv) rfl HRs.out (bvs_one _) (by unfold maxLen; omega) (by omega) HQs.out.bw.size ?_)
                                       intro vs ws howns hgs hats
                                       obtain ⟨As, cs, hvs, hrrs⟩ := own_reads howns
                                       clear hrrs hats
                                       have hos := HQs.out.app HMs.out.symm howns hgs
                                       obtain ⟨Ns, hNs⟩ : ∃ n, n = Nq + ms := ⟨_, rfl⟩
                                       obtain ⟨Ls, hLs⟩ : ∃ l, l = Lq ++ enc a := ⟨_, rfl⟩
                                       rw [← hNs] at hvs hos
                                       rw [← hLs] at hos
                                       subst hvs
                                       have HSs := Lib.hid hos
                                       have HLs := Lib.hid hLs
                                       have hNs' : Ns ≤ 64011 := by omega
                                       clear hos howns hgs hNs hLs
                                       have ic0 : ws.cell? ⟨gi, 0, none⟩ = some (.int .i64 (o : Int)) := (HSs.out.bl _ (List.Mem.head _)).1.cell 0
                                       have gil := (HSs.out.bl _ (List.Mem.head _)).1.lt)
                          refine (rusesB_any (o : Int) _).mono ?_
                          rintro e wB ⟨rfl, hwB⟩
                          rw [← hwB]
                          clear hwB
                          cases hB : hasB (o : Int)
                          · have HEQ : Hid (encI y = o :: enc a) := Lib.hid (by rw [HEY.out, HA0.out, hB, if_neg h1, HAE.out]; simp)
                            clear h1 hB
                            have HT : Hid (OSt w ws (.slice As Ns cs) Ns (Lo ++ (x.m.code.take (j + 1)).flatMap encI) [(gm, 54, #[.string q0, .string q1, .string q2, .slice x.A M x.c]), (gp, 25, #[.slice p.A k p.c, .slice p.B N2 p.d])]) := Lib.hid (by
                              rw [← HFIN.out _ HEQ.out]
                              have e : Ls = L3 ++ ([o] ++ enc a) := (by rw [HLs.out, HLq.out]; simp)
                              rw [← e]
                              exact HSs.out.less)
                            go_wp2
                            go_roundw
                            case rel => exact ⟨j + 1, _, _, _, by have := HSS.out.2.2; omega, by go_num, rfl, by have h := HT.out; rw [HCC.out] at h; exact h⟩
                            case measure => simp [intOf]; omega
                          · have hrb : 0 ≤ y.b ∧ y.b ≤ 1048576 := by have := HOKY.out.2.2.1; rw [HO.out, if_pos hB] at this; exact this
                            obtain ⟨b, hb⟩ := Int.eq_ofNat_of_zero_le hrb.1
                            have hb2 : b ≤ 1048576 := by omega
                            have hwb : IntKind.u64.wrap (b : Int) = (b : Int) := by rw [IntKind.wrap_u64]; omega
                            have HBE := Lib.hid hb
                            have HEQ : Hid (encI y = o :: (enc a ++ enc b)) := Lib.hid (by rw [HEY.out, HA0.out, hB, if_neg h1, HAE.out, HBE.out]; simp)
                            clear h1 hB
                            have ic2 : ws.cell? ⟨gi, 2, none⟩ = some (.int .i64 y.b) := (HSs.out.bl _ (List.Mem.head _)).1.cell 2
                            have gil2 := (HSs.out.bl _ (List.Mem.head _)).1.lt
                            rw [hb] at ic2
                            clear hrb hb
                            go_wp2_with fail
                            refine (rput_is b _ rfl _ (u64_small hb2)).mono ?_
                            rintro e wtp ⟨Atp, ctp, rfl, _, hrt, hbt⟩
                            have HQt : Hid (OSt w wtp (.slice As Ns cs) Ns Ls [(gi, 56, #[.int .i64 (o : Int), .int .i64 y.a, .int .i64 y.b, .int .i64 y.n]), (gm, 54, #[.string q0, .string q1, .string q2, .slice x.A M x.c]), (gp, 25, #[.slice p.A k p.c, .slice p.B N2 p.d])]) := Lib.hid (HSs.out.next hbt)
                            have HRt := Lib.hid hrt
                            obtain ⟨mt, hmt⟩ : ∃ m, m = (enc b).length := ⟨_, rfl⟩
                            have hmt' : mt ≤ 10 := by rw [hmt]; exact enc_len _
                            rw [← hmt] at HRt ⊢
                            have HMt := Lib.hid hmt
                            clear hrt hbt hmt ic0 gil gil2 ic2
                            go_wp2_with (at_builtin
                                         go_must (refine wpList_append_any _ rfl (.tmp 133) (.tmp 137) _ rfl w.heap.size 5 i0 _ 1 1 Tryd.underlying26 hi0 hz0 hz1 hz2 rfl (by omega) (.slice As Ns cs) Ns (Ls.map bv) rfl HQt.out.own _ Atp mt ctp ((enc b).map bv) rfl HRt.out (bvs_one _) (by unfold maxLen; omega) (by omega) HQt.out.bw.size ?_)
                                         intro vt wt hownt hgt hatt
                                         obtain ⟨At, ct, hvt, hrrt⟩ := own_reads hownt
                                         clear hrrt hatt
                                         have hot := HQt.out.app HMt.out.symm hownt hgt
                                         obtain ⟨Nt, hNt⟩ : ∃ n, n = Ns + mt := ⟨_, rfl⟩
                                         obtain ⟨Lt, hLt⟩ : ∃ l, l = Ls ++ enc b := ⟨_, rfl⟩
                                         rw [← hNt] at hvt hot
                                         rw [← hLt] at hot
                                         subst hvt
                                         have HSt := Lib.hid hot
                                         have HLt := Lib.hid hLt
                                         have hNt' : Nt ≤ 64021 := by omega
                                         clear hot hownt hgt hNt hLt
                                         have ic0 : wt.cell? ⟨gi, 0, none⟩ = some (.int .i64 (o : Int)) := (HSt.out.bl _ (List.Mem.head _)).1.cell 0
                                         have gil := (HSt.out.bl _ (List.Mem.head _)).1.lt)
                            have HT : Hid (OSt w wt (.slice At Nt ct) Nt (Lo ++ (x.m.code.take (j + 1)).flatMap encI) [(gm, 54, #[.string q0, .string q1, .string q2, .slice x.A M x.c]), (gp, 25, #[.slice p.A k p.c, .slice p.B N2 p.d])]) := Lib.hid (by
                              rw [← HFIN.out _ HEQ.out]
                              have e : Lt = L3 ++ ([o] ++ (enc a ++ enc b)) := (by rw [HLt.out, HLs.out, HLq.out]; simp)
                              rw [← e]
                              exact HSt.out.less)
                            go_roundw
                            case rel => exact ⟨j + 1, _, _, _, by have := HSS.out.2.2; omega, by go_num, rfl, by have h := HT.out; rw [HCC.out] at h; exact h⟩
                            case measure => simp [intOf]; omega
                  · as_aux_lemma =>
                      have hj' : j = M := by have := HSS.out.2.2; omega
                      have t3 : decide ((j : Int) < (M : Int)) = false := by simp; omega
                      have HFIN : Hid (OSt w wr (.slice A3 N3 c3) N3 (preM p.prg (i + 1)) [(gp, 25, #[.slice p.A k p.c, .slice p.B N2 p.d])]) := Lib.hid (by
                        have e : preM p.prg (i + 1) = L3 := by
                          rw [preM_succ HPX.out, HL3.out, HLO.out, HLI.out, List.take_of_length_le (by have := HSS.out.2.2; omega)]
                          simp [encM]
                        rw [e]; exact HS3.out.less)
                      clear hj'
                      go_wp2
                      go_roundw
                      case rel => exact ⟨i + 1, _, _, _, by have := H2.out; simp [PV.prg]; omega, by go_num, rfl, by have h := HFIN.out; rw [HBB.out] at h; exact h⟩
                      case measure => simp [intOf]; omega
        · as_aux_lemma =>
            have hi' : i = N2 := by have := H2.out; simp [PV.prg] at hi; omega
            have t2 : decide ((i : Int) < (N2 : Int)) = false := by simp; omega
            have HEL : Hid (L = encP p.prg) := Lib.hid (by
              have e : i = p.prg.mets.length := by rw [hi', H2.out]; simp [PV.prg]
              rw [HLI.out, e, preM_all])
            clear hi'
            go_wp2
            go_ret
            rw [← HEL.out]
            exact bytesPost_of HS.out.own HS.out.bw
end Go.Proofs.YtnojejplckhifaaDoor
