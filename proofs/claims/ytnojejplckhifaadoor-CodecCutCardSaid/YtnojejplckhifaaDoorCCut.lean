/- CodecCut, the card: for every input the call returns true and each argument reads afterwards as it read before; no further conditions. -/
import Derived.Test.YtnojejplckhifaaDoorCCutP
import Derived.Test.YtnojejplckhifaaDoorDoor4
import Derived.Test.YtnojejplckhifaaDoorCards
import Derived.Test.YtnojejplckhifaaDoorTie
namespace Go.Proofs.YtnojejplckhifaaDoor.codecCut
open Go.RowKit Go.ChangeShapes Go.WideShapes Go.ChangeAt
set_option linter.unusedVariables false

theorem own : ownKnob Tryd.prog.godebug = none := by kernel_rfl
theorem kids : Kids Tryd.prog (· < Tryd.prog.types.size) := kids_rows (by kernel_rfl) (by kernel_rfl)
theorem full : ∀ t e, t < Tryd.prog.types.size → Tryd.prog.underlying t = some (.slice e) → 0 < Tryd.prog.cellsOf e := slices_full_of Tryd.prog (by kernel_rfl)

set_option maxRecDepth 100000 in
set_option maxHeartbeats 80000000 in
theorem walk (w : World) (ad : Nat → Addr) (hE : Errs w ad) (p0 : PV) (hp0 : PArg w p0) (a1 : Int) (w1 : (Lit.int .i64 a1).wf = true) (a2 : Int) (w2 : (Lit.int .u8 a2).wf = true) :
    Calls Tryd.prog 5 #[p0.val, .int .i64 a1, .int .u8 a2] w fun e w' => e = .returned (.bool true) ∧ Below w.heap.size w w' := by
  have hI1 := i64_wfp w1
  obtain ⟨x, hx⟩ := Int.eq_ofNat_of_zero_le (u8_wf w2).1
  have hx256 : x < 256 := by have := (u8_wf w2).2; omega
  subst hx
  have HI1 := Lib.hid hI1
  obtain ⟨i0, hi0, hz0, hz1, hz2⟩ := info_parts byte_info
  have HE := Lib.hid hE
  have HPA := Lib.hid hp0
  obtain ⟨N1, hN1⟩ : ∃ n, n = p0.cls.length := ⟨_, rfl⟩
  obtain ⟨N2, hN2⟩ : ∃ n, n = p0.ms.length := ⟨_, rfl⟩
  have HV : Hid (p0.val = .agg #[.slice p0.A N1 p0.c, .slice p0.B N2 p0.d]) := Lib.hid (by unfold PV.val; rw [← hN1, ← hN2])
  rw [HV.out]
  clear w1 w2 hI1 hE hp0 hN1 hN2
  obtain ⟨W, hW⟩ : ∃ W, W = w.alloc (.cells #[.slice p0.A N1 p0.c, .slice p0.B N2 p0.d] 25) := ⟨_, rfl⟩
  have HBW : Hid (Below w.heap.size w W) := Lib.hid (by rw [hW]; exact (Below.refl _ _).alloc (Nat.le_refl _) _)
  have HK : Hid (Blk W w.heap.size 25 #[.slice p0.A N1 p0.c, .slice p0.B N2 p0.d]) := Lib.hid (by rw [hW]; exact Blk.new _ _ _)
  have HPW : Hid (PAt W W.heap.size p0) := Lib.hid (HPA.out.pat.next HBW.out)
  obtain ⟨gp, hgp⟩ : ∃ g, g = w.heap.size := ⟨_, rfl⟩
  go_enter Tryd.func5, Tryd.ntmps5
  go_wp2_with fail
  rw [← hW]
  clear hW
  rw [← hgp] at HK ⊢
  clear hgp
  refine (first_any ad _ (HE.out.below HBW.out)).mono ?_
  rintro e w1 ⟨rfl, hb1⟩
  have HB1 : Hid (Below w.heap.size w w1) := Lib.hid (HBW.out.trans (hb1.mono HBW.out.size))
  have HK1 := Lib.hid (HK.out.below hb1 HK.out.lt)
  have HP1 := Lib.hid (HPW.out.next hb1)
  have x0 : w1.cell? ⟨gp, 0, none⟩ = some (.slice p0.A N1 p0.c) := HK1.out.cell 0
  have x1 : w1.cell? ⟨gp, 1, none⟩ = some (.slice p0.B N2 p0.d) := HK1.out.cell 1
  have gpl := HK1.out.lt
  clear hb1 HK HPW HBW
  go_wp2_with fail
  refine (light_is p0 _ HV.out.symm _ HP1.out).mono ?_
  rintro e w2 ⟨⟨b, rfl, hli⟩, hb2⟩
  have HLI := Lib.hid hli
  have HB2 : Hid (Below w.heap.size w w2) := Lib.hid (HB1.out.trans (hb2.mono HB1.out.size))
  have HK2 := Lib.hid (HK1.out.below hb2 HK1.out.lt)
  have HP2 := Lib.hid (HP1.out.next hb2)
  clear x0 x1 gpl hli hb2 HB1 HK1 HP1
  cases b
  · go_wp2
    go_ret
    exact ⟨rfl, HB2.out⟩
  have HLP : Hid (LightP p0) := Lib.hid (HLI.out rfl)
  clear HLI
  have x0 : w2.cell? ⟨gp, 0, none⟩ = some (.slice p0.A N1 p0.c) := HK2.out.cell 0
  have x1 : w2.cell? ⟨gp, 1, none⟩ = some (.slice p0.B N2 p0.d) := HK2.out.cell 1
  have gpl := HK2.out.lt
  go_wp2_with fail
  refine (encode_is p0 _ HV.out.symm _ rfl ad _ (HE.out.below HB2.out) HP2.out HPA.out.cl (Nat.le_trans HPA.out.cn.1 HPA.out.cn.2) (Nat.le_trans HPA.out.mn.1 HPA.out.mn.2) (fun x hx => ⟨(HPA.out.ml x hx).par, (HPA.out.ml x hx).loc, Nat.le_trans (HPA.out.ml x hx).code.1 (HPA.out.ml x hx).code.2⟩) (fun x hx => by have := HLP.out.2.2.2 x hx; unfold maxLen; omega) HPA.out.num).mono ?_
  rintro e w3 he
  obtain ⟨hb3, A3, n3, c3, v3, rfl, hf3, hE3, hN3⟩ := epost_any he
  obtain ⟨o, ho⟩ : ∃ o, o = (encO p0.prg).2 := ⟨_, rfl⟩
  rw [← ho] at hf3 hE3 hN3
  have HF3 := Lib.hid hf3
  have HE3 := Lib.hid hE3
  have HN3 := Lib.hid hN3
  have HB3 : Hid (Below w.heap.size w w3) := Lib.hid (HB2.out.trans (hb3.mono HB2.out.size))
  have HK3 := Lib.hid (HK2.out.below hb3 HK2.out.lt)
  have HP3 := Lib.hid (HP2.out.next hb3)
  clear ho he hb3 hf3 hE3 hN3 x0 x1 gpl HK2 HP2
  cases o with
  | some f =>
    obtain ⟨tt, uu, hvv⟩ := flt_iface HF3.out
    subst hvv
    obtain rfl : n3 = 0 := HN3.out (by simp)
    go_wp2
    go_ret
    exact ⟨rfl, HB3.out⟩
  | none =>
  obtain rfl : v3 = .nilIface := HF3.out
  have HEN := Lib.hid (HE3.out rfl)
  clear HF3 HE3 HN3
  by_cases hn0 : n3 = 0
  · subst hn0
    go_wp2
    go_ret
    exact ⟨rfl, HB3.out⟩
  have t1 : ((n3 : Int) == 0) = false := by simp; omega
  by_cases hn1 : 16384 ≤ n3
  · have t2 : decide ((16384 : Int) ≤ (n3 : Int)) = true := by simp; omega
    go_wp2
    go_ret
    exact ⟨rfl, HB3.out⟩
  have t2 : decide ((16384 : Int) ≤ (n3 : Int)) = false := by simp; omega
  have hnp : 0 < n3 := by omega
  have HOP : Hid (okP p0.prg) := Lib.hid (may_ok _ HEN.out.may HPA.out.num)
  clear hn0
  go_wp2_with fail
  refine (numb_any a1 n3 hnp (by omega) HI1.out _).mono ?_
  rintro e w4 ⟨⟨t, ht, rfl⟩, rfl⟩
  obtain ⟨L, hL⟩ : ∃ L, L = encP p0.prg := ⟨_, rfl⟩
  have hLn : L.length = n3 := by rw [hL]; exact HEN.out.len.symm
  have HL := Lib.hid hL
  have HLN := Lib.hid hLn
  have HRL : Hid (Reads w3 w3.heap.size 1 A3 n3 (L.map bv)) := Lib.hid (by rw [hL]; exact HEN.out.rd)
  obtain ⟨a3, hA3⟩ : ∃ a, A3 = some a := by
    obtain ⟨a, h, _⟩ := HRL.out.2 hnp
    exact ⟨a, h⟩
  subst hA3
  have hcap : n3 ≤ c3 := HEN.out.cap.1
  have HCM : Hid (c3 ≤ maxLen) := Lib.hid HEN.out.cap.2
  have ht0 : (0 : Int) ≤ (t : Int) := by omega
  have htc : (t : Int) ≤ (c3 : Int) := by omega
  have htn : (t : Int) < (n3 : Int) := by omega
  clear hL hLn
  go_wp2_with fail
  have HDC : Hid (decP (L.take t) = (none, some (5, [(t : Int)]))) := Lib.hid (by rw [HL.out]; exact dec_cut _ HOP.out t (by have := HEN.out.len; omega) (by have := HEN.out.small; omega))
  have HDM : Hid (decP (L ++ [x]) = (none, some (6, [(n3 : Int)]))) := Lib.hid (by rw [HL.out, HEN.out.len]; exact dec_more _ HOP.out x (by have := HEN.out.len; omega))
  have HLT : Hid (∀ c ∈ L, c < 256) := Lib.hid (by rw [HL.out]; exact encP_lt _ HOP.out)
  refine (decode_is (some a3) t c3 (L.take t) _ HDC.out ad _ (reads_bytes_take HRL.out (Nat.le_of_lt ht)) (fun c hc => HLT.out c (List.mem_of_mem_take hc)) (by omega) HCM.out (HE.out.below HB3.out)).mono ?_
  rintro e w5 he
  obtain ⟨hb5, v5, rfl, hf5⟩ := dpost_none he
  have HB5 : Hid (Below w.heap.size w w5) := Lib.hid (HB3.out.trans (hb5.mono HB3.out.size))
  have HR5 : Hid (Reads w5 w5.heap.size 1 (some a3) n3 (L.map bv)) := Lib.hid ((HRL.out.below hb5).more hb5.size)
  have HF5 := Lib.hid hf5
  have HK5 := Lib.hid (HK3.out.below hb5 HK3.out.lt)
  have HP5 := Lib.hid (HP3.out.next hb5)
  clear he hb5 hf5 HB3 HK3 HP3 HRL HDC
  go_wp2_with fail
  obtain ⟨W5, hW5⟩ : ∃ W, W = w5.alloc (.cells #[.slice none 0 0, .slice none 0 0] 25) := ⟨_, rfl⟩
  have HBA : Hid (Below w5.heap.size w5 W5) := Lib.hid (by rw [hW5]; exact (Below.refl _ _).alloc (Nat.le_refl _) _)
  have HBB : Hid (Below w.heap.size w W5) := Lib.hid (HB5.out.trans (HBA.out.mono HB5.out.size))
  have HRB : Hid (Reads W5 W5.heap.size 1 (some a3) n3 (L.map bv)) := Lib.hid ((HR5.out.below HBA.out).more HBA.out.size)
  have HFB := Lib.hid (HF5.out.below HBA.out)
  have HKB := Lib.hid (HK5.out.below HBA.out HK5.out.lt)
  have HPB := Lib.hid (HP5.out.next HBA.out)
  rw [← hW5]
  clear hW5 HB5 HR5 HF5 HK5 HP5 HBA
  refine (bytes_any (some a3) n3 c3 L _ HRB.out (by omega)).mono ?_
  rintro e w6 ⟨A6, c6, rfl, hown6, hb6⟩
  rw [HLN.out] at hown6 ⊢
  have HB6 : Hid (Below W5.heap.size W5 w6) := Lib.hid hb6
  have HS6 : Hid (W5.heap.size ≤ w6.heap.size) := Lib.hid hb6.size
  have HO6 := Lib.hid hown6
  clear hb6 hown6
  go_wp2_with (at_builtin
               go_must (refine wpList_append_any _ rfl (.tmp 64) (.tmp 66) _ rfl W5.heap.size 5 i0 _ 1 1 Tryd.underlying26 hi0 hz0 hz1 hz2 rfl (by omega) (.slice A6 n3 c6) n3 (L.map bv) rfl (HO6.out.alloc _) _ (some ⟨w6.heap.size, 0, none⟩) 1 1 [bv x] rfl (by exact reads_newS _ _ _ 1 1 _ rfl rfl) (bvs_one [x]) (by unfold maxLen; omega) (by omega) (by have := HS6.out; simp; omega) ?_)
               intro v7 w7 hown7 hg7 hat7
               obtain ⟨A7, c7, hv7, hr7⟩ := own_reads hown7
               subst hv7)
  have hb7 : Below W5.heap.size W5 w7 := (HB6.out.alloc HB6.out.size _).grown hg7 (by have := HS6.out; simp; omega) (fun k hk => own_ge HO6.out hk)
  have hcap7 := own_cap5 hown7
  have HB7 : Hid (Below w.heap.size w w7) := Lib.hid (HBB.out.trans (hb7.mono HBB.out.size))
  have HR7 : Hid (Reads w7 w7.heap.size 1 (some a3) n3 (L.map bv)) := Lib.hid ((HRB.out.below hb7).more hb7.size)
  have HF7 := Lib.hid (HFB.out.below hb7)
  have HK7 := Lib.hid (HKB.out.below hb7 HKB.out.lt)
  have HP7 := Lib.hid (HPB.out.next hb7)
  have HRX : Hid (Reads w7 w7.heap.size 1 A7 (n3 + 1) ((L ++ [x]).map bv)) := Lib.hid (by rw [List.map_append]; exact hr7)
  clear hb7 hown7 hg7 hat7 hr7 HB6 HO6 HS6 HBB HRB HFB HKB HPB
  refine (decode_is A7 (n3 + 1) c7 (L ++ [x]) _ HDM.out ad _ HRX.out (fun c hc => by rcases List.mem_append.1 hc with h | h; exact HLT.out c h; rw [List.mem_singleton.1 h]; exact hx256) hcap7.1 hcap7.2 (HE.out.below HB7.out)).mono ?_
  rintro e w8 he
  obtain ⟨hb8, v8, rfl, hf8⟩ := dpost_none he
  have HB8 : Hid (Below w.heap.size w w8) := Lib.hid (HB7.out.trans (hb8.mono HB7.out.size))
  have HR8 : Hid (Reads w8 w8.heap.size 1 (some a3) n3 (L.map bv)) := Lib.hid ((HR7.out.below hb8).more hb8.size)
  have HF8 := Lib.hid (HF7.out.below hb8)
  have HG8 := Lib.hid hf8
  have HK8 := Lib.hid (HK7.out.below hb8 HK7.out.lt)
  have HP8 := Lib.hid (HP7.out.next hb8)
  clear he hb8 hf8 hcap7 HB7 HR7 HF7 HK7 HP7 HRX HDM
  go_wp2_with fail
  obtain ⟨W8, hW8⟩ : ∃ W, W = w8.alloc (.cells #[.slice none 0 0, .slice none 0 0] 25) := ⟨_, rfl⟩
  have HBA : Hid (Below w8.heap.size w8 W8) := Lib.hid (by rw [hW8]; exact (Below.refl _ _).alloc (Nat.le_refl _) _)
  rw [← hW8]
  clear hW8
  refine (placed_any 106 t _ (by decide)).mono ?_
  rintro e w9 ⟨b9, rfl, hg9, hk9, hb9⟩
  have hb89 : Below w8.heap.size w8 w9 := HBA.out.trans (hb9.mono HBA.out.size)
  have HB9 : Hid (Below w.heap.size w w9) := Lib.hid (HB8.out.trans (hb89.mono HB8.out.size))
  have HR9 : Hid (Reads w9 w9.heap.size 1 (some a3) n3 (L.map bv)) := Lib.hid ((HR8.out.below hb89).more hb89.size)
  have HF9 := Lib.hid (HF8.out.below hb89)
  have HG9 := Lib.hid (HG8.out.below hb89)
  have HK9 := Lib.hid (HK8.out.below hb89 HK8.out.lt)
  have HP9 := Lib.hid (HP8.out.next hb89)
  have HQ9 : Hid (Reads w9 w9.heap.size 1 (some ⟨b9, 0, none⟩) 1 ([(t : Int)].map (Value.int .i64))) := Lib.hid ⟨rfl, fun _ => ⟨_, rfl, hk9.lt, World.news_of_block hk9⟩⟩
  clear hg9 hk9 hb9 hb89 HBA HB8 HR8 HF8 HG8 HK8 HP8
  go_wp2_with fail
  refine (Same_flt v5 ad (some (5, [(t : Int)])) 106 [(t : Int)] _ 1 1 _ HF9.out (HE.out.below HB9.out) (fun f h => first_small (by decide) h) HQ9.out).mono ?_
  rintro e w10 ⟨rfl, hb10⟩
  rw [flt_self 5 [(t : Int)] 106 (by decide)]
  have HB10 : Hid (Below w.heap.size w w10) := Lib.hid (HB9.out.trans (hb10.mono HB9.out.size))
  have HR10 : Hid (Reads w10 w10.heap.size 1 (some a3) n3 (L.map bv)) := Lib.hid ((HR9.out.below hb10).more hb10.size)
  have HG10 := Lib.hid (HG9.out.below hb10)
  have HK10 := Lib.hid (HK9.out.below hb10 HK9.out.lt)
  have HP10 := Lib.hid (HP9.out.next hb10)
  clear hb10 HB9 HR9 HF9 HG9 HK9 HP9 HQ9
  go_wp2_with fail
  refine (placed_any 107 n3 _ (by decide)).mono ?_
  rintro e w11 ⟨b11, rfl, hg11, hk11, hb11⟩
  have HB11 : Hid (Below w.heap.size w w11) := Lib.hid (HB10.out.trans (hb11.mono HB10.out.size))
  have HR11 : Hid (Reads w11 w11.heap.size 1 (some a3) n3 (L.map bv)) := Lib.hid ((HR10.out.below hb11).more hb11.size)
  have HG11 := Lib.hid (HG10.out.below hb11)
  have HK11 := Lib.hid (HK10.out.below hb11 HK10.out.lt)
  have HP11 := Lib.hid (HP10.out.next hb11)
  have HQ11 : Hid (Reads w11 w11.heap.size 1 (some ⟨b11, 0, none⟩) 1 ([(n3 : Int)].map (Value.int .i64))) := Lib.hid ⟨rfl, fun _ => ⟨_, rfl, hk11.lt, World.news_of_block hk11⟩⟩
  clear hg11 hk11 hb11 HB10 HR10 HG10 HK10 HP10
  go_wp2_with fail
  refine (Same_flt v8 ad (some (6, [(n3 : Int)])) 107 [(n3 : Int)] _ 1 1 _ HG11.out (HE.out.below HB11.out) (fun f h => first_small (by decide) h) HQ11.out).mono ?_
  rintro e w12 ⟨rfl, hb12⟩
  rw [flt_self 6 [(n3 : Int)] 107 (by decide)]
  have HB12 : Hid (Below w.heap.size w w12) := Lib.hid (HB11.out.trans (hb12.mono HB11.out.size))
  have HR12 : Hid (Reads w12 w12.heap.size 1 (some a3) n3 (L.map bv)) := Lib.hid ((HR11.out.below hb12).more hb12.size)
  have HK12 := Lib.hid (HK11.out.below hb12 HK11.out.lt)
  have HP12 := Lib.hid (HP11.out.next hb12)
  clear hb12 HB11 HR11 HG11 HK11 HP11 HQ11
  go_wp2_with fail
  refine (bytes_any (some a3) n3 c3 L _ HR12.out (by omega)).mono ?_
  rintro e w13 ⟨A13, c13, rfl, hown13, hb13⟩
  rw [HLN.out] at hown13 ⊢
  obtain ⟨g13, rfl⟩ : ∃ g, A13 = some ⟨g, 0, none⟩ := by
    rcases hown13.2 with ⟨hv, hn⟩ | ⟨g, cap, cur, hv, _⟩
    · omega
    · injection hv with e1 e2 e3
      exact ⟨g, e1⟩
  obtain ⟨y, hy⟩ : ∃ y, L[t]? = some y := ⟨_, List.getElem?_eq_getElem (by have := HLN.out; omega)⟩
  have hyc : (L.map bv)[t]? = some (bv y) := by rw [List.getElem?_map, hy]; rfl
  have d0 : w13.cell? ⟨g13, t, none⟩ = some (bv y) := (hown13.cellAt t (by omega)).trans hyc
  have d1 := hown13.frozenAt t
  have hst := hown13.stored t (bv x)
  have hge : w12.heap.size ≤ g13 := own_ge hown13 (k := g13) rfl
  have hg13 : g13 < w13.heap.size := World.block_lt_of_cell? _ _ d0
  obtain ⟨W, hW⟩ : ∃ W, W = w13.setCell ⟨g13, t, none⟩ (bv x) := ⟨_, rfl⟩
  have hbW : Below w12.heap.size w12 W := by rw [hW]; exact hb13.setCell (p := ⟨g13, t, none⟩) hge _
  have HB14 : Hid (Below w.heap.size w W) := Lib.hid (HB12.out.trans (hbW.mono HB12.out.size))
  have HR14 : Hid (Reads W W.heap.size 1 (some a3) n3 (L.map bv)) := Lib.hid ((HR12.out.below hbW).more hbW.size)
  have HK14 := Lib.hid (HK12.out.below hbW HK12.out.lt)
  have HP14 := Lib.hid (HP12.out.next hbW)
  have hcap14 := own_cap5 hown13
  have HRY : Hid (Reads W W.heap.size 1 (some ⟨g13, 0, none⟩) n3 ((L.set t x).map bv)) := Lib.hid (by rw [hW, List.map_set]; exact Reads.of_own hst.1)
  have HY := Lib.hid hy
  unfold bv at d0 hW
  clear hst hbW hb13 hown13 hyc hy hge HB12 HR12 HK12 HP12
  go_wp2_with fail
  rw [← hW]
  clear hW d0 d1 hg13
  refine (decode_any (some ⟨g13, 0, none⟩) n3 c13 (L.set t x) ad _ HRY.out (by rw [HL.out]; exact set_lt HOP.out hx256) hcap14.1 hcap14.2 (HE.out.below HB14.out)).mono ?_
  rintro e w15 he
  rcases dec_cases (L.set t x) with ⟨P', hP'⟩ | ⟨f, hf⟩
  · as_aux_lemma =>
      rw [hP'] at he
      obtain ⟨hOK, _, _, _⟩ := dec_is _ (by rw [HL.out]; exact set_lt HOP.out hx256) P' none hP'
      obtain ⟨hb15, q, hq, rfl, hpq⟩ := dpost_some he
      have HSE : Hid (p0.prg = q.prg ↔ y = x) := Lib.hid (by rw [hq]; exact set_prog HOP.out HEN.out.may (by have := HEN.out.len; have := HEN.out.small; omega) hx256 (by rw [← HL.out]; exact HY.out) (by rw [← HL.out]; exact hP'))
      have HOQ : Hid (okP q.prg) := Lib.hid (by rw [hq]; exact hOK)
      have HPQ := Lib.hid hpq
      obtain ⟨M1, hM1⟩ : ∃ n, n = q.cls.length := ⟨_, rfl⟩
      obtain ⟨M2, hM2⟩ : ∃ n, n = q.ms.length := ⟨_, rfl⟩
      have HVQ : Hid (q.val = .agg #[.slice q.A M1 q.c, .slice q.B M2 q.d]) := Lib.hid (by unfold PV.val; rw [← hM1, ← hM2])
      rw [HVQ.out]
      obtain ⟨W6, hW6⟩ : ∃ W, W = w15.alloc (.cells #[.slice q.A M1 q.c, .slice q.B M2 q.d] 25) := ⟨_, rfl⟩
      have hbA : Below w15.heap.size w15 W6 := by rw [hW6]; exact (Below.refl _ _).alloc (Nat.le_refl _) _
      have hbW6 : Below W.heap.size W W6 := hb15.trans (hbA.mono hb15.size)
      have HB6 : Hid (Below w.heap.size w W6) := Lib.hid (HB14.out.trans (hbW6.mono HB14.out.size))
      have HK6 := Lib.hid (HK14.out.below hbW6 HK14.out.lt)
      have HP6 := Lib.hid (HP14.out.next hbW6)
      have HPQ6 : Hid (PAt W6 W6.heap.size q) := Lib.hid (HPQ.out.next hbA)
      have HQ6 : Hid (Blk W6 w15.heap.size 25 #[.slice q.A M1 q.c, .slice q.B M2 q.d]) := Lib.hid (by rw [hW6]; exact Blk.new _ _ _)
      have hr6 : Reads W6 W6.heap.size 1 (some a3) n3 (L.map bv) := (HR14.out.below hbW6).more hbW6.size
      obtain ⟨ad3, u, e3, hab, hu, hcell⟩ := hr6.at_ (k := t) (by omega)
      obtain rfl : a3 = ad3 := Option.some.inj e3
      rw [List.getElem?_map, HY.out] at hu
      obtain rfl : bv y = u := by simpa using hu
      unfold bv at hcell
      obtain ⟨gq, hgq⟩ : ∃ g, g = w15.heap.size := ⟨_, rfl⟩
      clear he hP' hOK hb15 hq hpq hM1 hM2 hbA hbW6 hr6 e3 hu HB14 HK14 HP14 HR14 HRY HPQ hcap14
      go_wp2_with fail
      rw [← hW6]
      clear hW6
      rw [← hgq] at HQ6 ⊢
      clear hgq
      have x0 : W6.cell? ⟨gp, 0, none⟩ = some (.slice p0.A N1 p0.c) := HK6.out.cell 0
      have x1 : W6.cell? ⟨gp, 1, none⟩ = some (.slice p0.B N2 p0.d) := HK6.out.cell 1
      have z0 : W6.cell? ⟨gq, 0, none⟩ = some (.slice q.A M1 q.c) := HQ6.out.cell 0
      have z1 : W6.cell? ⟨gq, 1, none⟩ = some (.slice q.B M2 q.d) := HQ6.out.cell 1
      have gpl := HK6.out.lt
      have gql := HQ6.out.lt
      have HD6 : Hid (Below W6.heap.size W6 W6.drew) := Lib.hid (Below.refl _ _).drew
      refine wp_region_held_drew (S := fun w' => w'.cell? ⟨gp, 0, none⟩ = some (.slice p0.A N1 p0.c) ∧ w'.cell? ⟨gp, 1, none⟩ = some (.slice p0.B N2 p0.d) ∧ w'.cell? ⟨gq, 0, none⟩ = some (.slice q.A M1 q.c) ∧ w'.cell? ⟨gq, 1, none⟩ = some (.slice q.B M2 q.d) ∧ w'.cell? (a3.add t) = some (.int .u8 (y : Int)) ∧ gp < w'.heap.size ∧ gq < w'.heap.size) (by kernel_rfl) (⟨x0, x1, z0, z1, hcell, gpl, gql⟩) (fun hHeld => ?_)
      refine wpAnyH_take (i := 0) (oi := ({ dst := some 95, op := Op.move (Operand.tmp 16), type := 30, pos := "law.go:89", after := #[], guard := none } : Oper)) (v := ?_) rfl (by kernel_rfl) (by kernel_rfl) (by kernel_rfl) (fun _ _ _ h => h) (Or.inl ⟨by rfl, ?_⟩) (by assumption) ?_
      rotate_left
      · intro w hSw
        try dsimp only at hSw
        go_simp
        try with_reducible rfl
      simp only [Act.put, List.setIfInBounds_toArray, List.set_cons_zero, List.set_cons_succ]
      refine wpAnyH_take (i := 1) (oi := ({ dst := some 96, op := Op.binOp BinOp.neq 30 (Operand.tmp 95) (Operand.const Value.nilIface) 30, type := 4, pos := "law.go:89", after := #[{ on := 0, ground := Ground.data }], guard := none } : Oper)) (v := ?_) rfl (by kernel_rfl) (by kernel_rfl) (by kernel_rfl) (fun _ _ _ h => h) (Or.inl ⟨by rfl, ?_⟩) (by assumption) ?_
      rotate_left
      · intro w hSw
        try dsimp only at hSw
        go_simp
        try with_reducible rfl
      simp only [Act.put, List.setIfInBounds_toArray, List.set_cons_zero, List.set_cons_succ]
      refine wpAnyH_take (i := 2) (oi := ({ dst := some 97, op := Op.move (Operand.tmp 96), type := 4, pos := "law.go:89", after := #[{ on := 1, ground := Ground.data }], guard := none } : Oper)) (v := ?_) rfl (by kernel_rfl) (by kernel_rfl) (by kernel_rfl) (fun _ _ _ h => h) (Or.inl ⟨by rfl, ?_⟩) (by assumption) ?_
      rotate_left
      · intro w hSw
        try dsimp only at hSw
        go_simp
        try with_reducible rfl
      simp only [Act.put, List.setIfInBounds_toArray, List.set_cons_zero, List.set_cons_succ]
      refine wpAnyH_take (i := 3) (oi := ({ dst := some 98, op := Op.fieldAddr 25 (Operand.tmp 15) 1, type := 0, pos := "law.go:89", after := #[{ on := 2, ground := Ground.guard }], guard := some (2, true) } : Oper)) (v := undef) rfl (by kernel_rfl) (by kernel_rfl) (by kernel_rfl) (fun _ _ _ h => h) (Or.inr ⟨by rfl, rfl⟩) (by assumption) ?_
      simp only [Act.put, List.setIfInBounds_toArray, List.set_cons_zero, List.set_cons_succ]
      refine wpAnyH_take (i := 4) (oi := ({ dst := some 99, op := Op.load 23 (Operand.tmp 98), type := 23, pos := "law.go:89", after := #[{ on := 3, ground := Ground.data }, { on := 2, ground := Ground.guard }], guard := some (2, true) } : Oper)) (v := undef) rfl (by kernel_rfl) (by kernel_rfl) (by kernel_rfl) (fun _ _ _ h => h) (Or.inr ⟨by rfl, rfl⟩) (by assumption) ?_
      simp only [Act.put, List.setIfInBounds_toArray, List.set_cons_zero, List.set_cons_succ]
      refine wpAnyH_take (i := 5) (oi := ({ dst := some 100, op := Op.call { callee := Callee.builtin Builtin.len, args := #[Operand.tmp 99], argTypes := #[23] }, type := 3, pos := "law.go:89", after := #[{ on := 4, ground := Ground.data }, { on := 2, ground := Ground.guard }], guard := some (2, true) } : Oper)) (v := undef) rfl (by kernel_rfl) (by kernel_rfl) (by kernel_rfl) (fun _ _ _ h => h) (Or.inr ⟨by rfl, rfl⟩) (by assumption) ?_
      simp only [Act.put, List.setIfInBounds_toArray, List.set_cons_zero, List.set_cons_succ]
      refine wpAnyH_take (i := 6) (oi := ({ dst := some 101, op := Op.binOp BinOp.eql 3 (Operand.tmp 100) (Operand.const (Value.int IntKind.i64 0)) 3, type := 4, pos := "law.go:89", after := #[{ on := 5, ground := Ground.data }, { on := 2, ground := Ground.guard }], guard := some (2, true) } : Oper)) (v := undef) rfl (by kernel_rfl) (by kernel_rfl) (by kernel_rfl) (fun _ _ _ h => h) (Or.inr ⟨by rfl, rfl⟩) (by assumption) ?_
      simp only [Act.put, List.setIfInBounds_toArray, List.set_cons_zero, List.set_cons_succ]
      refine wpAnyH_take (i := 7) (oi := ({ dst := some 102, op := Op.pick (Operand.tmp 97) (Operand.tmp 101) (Operand.const (Value.bool false)), type := 4, pos := "law.go:89", after := #[{ on := 2, ground := Ground.data }, { on := 6, ground := Ground.data }], guard := none } : Oper)) (v := ?_) rfl (by kernel_rfl) (by kernel_rfl) (by kernel_rfl) (fun _ _ _ h => h) (Or.inl ⟨by rfl, ?_⟩) (by assumption) ?_
      rotate_left
      · intro w hSw
        try dsimp only at hSw
        go_simp
        try with_reducible rfl
      simp only [Act.put, List.setIfInBounds_toArray, List.set_cons_zero, List.set_cons_succ]
      refine wpAnyH_take (i := 8) (oi := ({ dst := some 103, op := Op.move (Operand.tmp 102), type := 4, pos := "law.go:89", after := #[{ on := 7, ground := Ground.data }, { on := 2, ground := Ground.chain }], guard := none } : Oper)) (v := ?_) rfl (by kernel_rfl) (by kernel_rfl) (by kernel_rfl) (fun _ _ _ h => h) (Or.inl ⟨by rfl, ?_⟩) (by assumption) ?_
      rotate_left
      · intro w hSw
        try dsimp only at hSw
        go_simp
        try with_reducible rfl
      simp only [Act.put, List.setIfInBounds_toArray, List.set_cons_zero, List.set_cons_succ]
      refine wpAnyH_take (i := 9) (oi := ({ dst := some 104, op := Op.move (Operand.tmp 16), type := 30, pos := "law.go:89", after := #[{ on := 8, ground := Ground.guard }], guard := some (8, false) } : Oper)) (v := ?_) rfl (by kernel_rfl) (by kernel_rfl) (by kernel_rfl) (fun _ _ _ h => h) (Or.inl ⟨by rfl, ?_⟩) (by assumption) ?_
      rotate_left
      · intro w hSw
        try dsimp only at hSw
        go_simp
        try with_reducible rfl
      simp only [Act.put, List.setIfInBounds_toArray, List.set_cons_zero, List.set_cons_succ]
      refine wpAnyH_take (i := 10) (oi := ({ dst := some 105, op := Op.binOp BinOp.eql 30 (Operand.tmp 104) (Operand.const Value.nilIface) 30, type := 4, pos := "law.go:89", after := #[{ on := 9, ground := Ground.data }, { on := 8, ground := Ground.guard }], guard := some (8, false) } : Oper)) (v := ?_) rfl (by kernel_rfl) (by kernel_rfl) (by kernel_rfl) (fun _ _ _ h => h) (Or.inl ⟨by rfl, ?_⟩) (by assumption) ?_
      rotate_left
      · intro w hSw
        try dsimp only at hSw
        go_simp
        try with_reducible rfl
      simp only [Act.put, List.setIfInBounds_toArray, List.set_cons_zero, List.set_cons_succ]
      refine wpAnyH_take (i := 11) (oi := ({ dst := some 106, op := Op.move (Operand.tmp 105), type := 4, pos := "law.go:89", after := #[{ on := 10, ground := Ground.data }, { on := 8, ground := Ground.chain }, { on := 8, ground := Ground.guard }], guard := some (8, false) } : Oper)) (v := ?_) rfl (by kernel_rfl) (by kernel_rfl) (by kernel_rfl) (fun _ _ _ h => h) (Or.inl ⟨by rfl, ?_⟩) (by assumption) ?_
      rotate_left
      · intro w hSw
        try dsimp only at hSw
        go_simp
        try with_reducible rfl
      simp only [Act.put, List.setIfInBounds_toArray, List.set_cons_zero, List.set_cons_succ]
      refine wpAnyH_take (i := 12) (oi := ({ dst := some 107, op := Op.load 25 (Operand.tmp 3), type := 25, pos := "law.go:89", after := #[{ on := 11, ground := Ground.guard }], guard := some (11, true) } : Oper)) (v := ?_) rfl (by kernel_rfl) (by kernel_rfl) (by kernel_rfl) (fun _ _ _ h => h) (Or.inl ⟨by rfl, ?_⟩) (by assumption) ?_
      rotate_left
      · intro w hSw
        try dsimp only at hSw
        go_simp
        try with_reducible rfl
      simp only [Act.put, List.setIfInBounds_toArray, List.set_cons_zero, List.set_cons_succ]
      refine wpAnyH_take (i := 13) (oi := ({ dst := some 108, op := Op.load 25 (Operand.tmp 15), type := 25, pos := "law.go:89", after := #[{ on := 11, ground := Ground.guard }], guard := some (11, true) } : Oper)) (v := ?_) rfl (by kernel_rfl) (by kernel_rfl) (by kernel_rfl) (fun _ _ _ h => h) (Or.inl ⟨by rfl, ?_⟩) (by assumption) ?_
      rotate_left
      · intro w hSw
        try dsimp only at hSw
        go_simp
        try with_reducible rfl
      simp only [Act.put, List.setIfInBounds_toArray, List.set_cons_zero, List.set_cons_succ]
      refine wpAnyH_take (i := 15) (oi := ({ dst := some 110, op := Op.move (Operand.tmp 8), type := 26, pos := "law.go:89", after := #[{ on := 11, ground := Ground.guard }], guard := some (11, true) } : Oper)) (v := ?_) rfl (by kernel_rfl) (by kernel_rfl) (by kernel_rfl) (fun _ _ _ h => h) (Or.inl ⟨by rfl, ?_⟩) (by assumption) ?_
      rotate_left
      · intro w hSw
        try dsimp only at hSw
        go_simp
        try with_reducible rfl
      simp only [Act.put, List.setIfInBounds_toArray, List.set_cons_zero, List.set_cons_succ]
      refine wpAnyH_take (i := 16) (oi := ({ dst := some 111, op := Op.move (Operand.tmp 1), type := 3, pos := "law.go:89", after := #[{ on := 11, ground := Ground.guard }], guard := some (11, true) } : Oper)) (v := ?_) rfl (by kernel_rfl) (by kernel_rfl) (by kernel_rfl) (fun _ _ _ h => h) (Or.inl ⟨by rfl, ?_⟩) (by assumption) ?_
      rotate_left
      · intro w hSw
        try dsimp only at hSw
        go_simp
        try with_reducible rfl
      simp only [Act.put, List.setIfInBounds_toArray, List.set_cons_zero, List.set_cons_succ]
      refine wpAnyH_take (i := 17) (oi := ({ dst := some 112, op := Op.indexAddr 26 (Operand.tmp 110) (Operand.tmp 111), type := 0, pos := "law.go:89", after := #[{ on := 15, ground := Ground.data }, { on := 16, ground := Ground.data }, { on := 11, ground := Ground.guard }], guard := some (11, true) } : Oper)) (v := ?_) rfl (by kernel_rfl) (by kernel_rfl) (by kernel_rfl) (fun _ _ _ h => h) (Or.inl ⟨by rfl, ?_⟩) (by assumption) ?_
      rotate_left
      · intro w hSw
        try dsimp only at hSw
        go_simp
        try with_reducible rfl
      simp only [Act.put, List.setIfInBounds_toArray, List.set_cons_zero, List.set_cons_succ]
      refine wpAnyH_take (i := 18) (oi := ({ dst := some 113, op := Op.load 5 (Operand.tmp 112), type := 5, pos := "law.go:89", after := #[{ on := 17, ground := Ground.data }, { on := 11, ground := Ground.guard }], guard := some (11, true) } : Oper)) (v := ?_) rfl (by kernel_rfl) (by kernel_rfl) (by kernel_rfl) (fun _ _ _ h => h) (Or.inl ⟨by rfl, ?_⟩) (by assumption) ?_
      rotate_left
      · intro w hSw
        try dsimp only at hSw
        go_simp
        try with_reducible rfl
      simp only [Act.put, List.setIfInBounds_toArray, List.set_cons_zero, List.set_cons_succ]
      refine wpAnyH_take (i := 19) (oi := ({ dst := some 114, op := Op.move (Operand.tmp 2), type := 5, pos := "law.go:89", after := #[{ on := 11, ground := Ground.guard }], guard := some (11, true) } : Oper)) (v := ?_) rfl (by kernel_rfl) (by kernel_rfl) (by kernel_rfl) (fun _ _ _ h => h) (Or.inl ⟨by rfl, ?_⟩) (by assumption) ?_
      rotate_left
      · intro w hSw
        try dsimp only at hSw
        go_simp
        try with_reducible rfl
      simp only [Act.put, List.setIfInBounds_toArray, List.set_cons_zero, List.set_cons_succ]
      refine wpAnyH_take (i := 20) (oi := ({ dst := some 115, op := Op.binOp BinOp.eql 5 (Operand.tmp 113) (Operand.tmp 114) 5, type := 4, pos := "law.go:89", after := #[{ on := 18, ground := Ground.data }, { on := 19, ground := Ground.data }, { on := 11, ground := Ground.guard }], guard := some (11, true) } : Oper)) (v := ?_) rfl (by kernel_rfl) (by kernel_rfl) (by kernel_rfl) (fun _ _ _ h => h) (Or.inl ⟨by rfl, ?_⟩) (by assumption) ?_
      rotate_left
      · intro w hSw
        try dsimp only at hSw
        go_simp
        try with_reducible rfl
      simp only [Act.put, List.setIfInBounds_toArray, List.set_cons_zero, List.set_cons_succ]
      refine wpAnyH_ready (rs := [14]) (by kernel_rfl) (by simp) ?_
      refine AllReadyH.cons (o := ({ dst := some 109, op := Op.call { callee := Callee.value (Operand.func 19), args := #[Operand.tmp 107, Operand.tmp 108], argTypes := #[25, 25] }, type := 4, pos := "law.go:89", after := #[{ on := 12, ground := Ground.data }, { on := 13, ground := Ground.data }, { on := 11, ground := Ground.chain }, { on := 11, ground := Ground.guard }], guard := some (11, true) } : Oper)) rfl (fun K hK => ?_) AllReadyH.nil
      go_simp
      go_at_call 19
      refine (sameQ_is p0 q _ _ HV.out.symm HVQ.out.symm _ (HP6.out.next HD6.out) (HPQ6.out.next HD6.out) (by have := (ok_pv HOP.out).1; omega) (by have := (ok_pv HOP.out).2.1; omega) (fun x hx => by have := (ok_pv HOP.out).2.2 x hx; omega) (fun x hx => by have := (ok_pv HOQ.out).2.2 x hx; omega)).mono ?_
      rintro e w17 ⟨⟨b, rfl, hbb⟩, hb17⟩
      have HBB := Lib.hid hbb
      have HB17 : Hid (Below w.heap.size w w17) := Lib.hid (HB6.out.drew.trans (hb17.mono HB6.out.size))
      have HS := Lib.hid (show _ ∧ _ ∧ _ ∧ _ ∧ _ ∧ _ ∧ _ from ⟨(hb17.cell (p := ⟨gp, 0, none⟩) gpl).trans x0, (hb17.cell (p := ⟨gp, 1, none⟩) gpl).trans x1, (hb17.cell (p := ⟨gq, 0, none⟩) gql).trans z0, (hb17.cell (p := ⟨gq, 1, none⟩) gql).trans z1, (hb17.cell (p := a3.add t) (by rw [block_of_add]; exact hab)).trans hcell, Nat.lt_of_lt_of_le gpl hb17.size, Nat.lt_of_lt_of_le gql hb17.size⟩)
      clear hbb hb17
      have HBY : Hid (b = true ↔ y = x) := Lib.hid (HBB.out.trans HSE.out)
      obtain rfl : b = ((y : Int) == (x : Int)) := by
        rw [Bool.eq_iff_iff, HBY.out]
        simp
        omega
      refine hK.out _ _ (HS.out) (fun hHeld2 => ?_)
      clear hK K
      refine wpAnyH_take (i := 21) (oi := ({ dst := some 116, op := Op.binOp BinOp.eql 4 (Operand.tmp 109) (Operand.tmp 115) 4, type := 4, pos := "law.go:89", after := #[{ on := 14, ground := Ground.data }, { on := 20, ground := Ground.data }, { on := 11, ground := Ground.guard }], guard := some (11, true) } : Oper)) (v := ?_) rfl (by kernel_rfl) (by kernel_rfl) (by kernel_rfl) (fun _ _ _ h => h) (Or.inl ⟨by rfl, ?_⟩) (by assumption) ?_
      rotate_left
      · intro w hSw
        try dsimp only at hSw
        go_simp
        try with_reducible rfl
      simp only [Act.put, List.setIfInBounds_toArray, List.set_cons_zero, List.set_cons_succ]
      refine wpAnyH_take (i := 22) (oi := ({ dst := some 117, op := Op.pick (Operand.tmp 106) (Operand.tmp 116) (Operand.const (Value.bool false)), type := 4, pos := "law.go:89", after := #[{ on := 11, ground := Ground.data }, { on := 21, ground := Ground.data }, { on := 8, ground := Ground.guard }], guard := some (8, false) } : Oper)) (v := ?_) rfl (by kernel_rfl) (by kernel_rfl) (by kernel_rfl) (fun _ _ _ h => h) (Or.inl ⟨by rfl, ?_⟩) (by assumption) ?_
      rotate_left
      · intro w hSw
        try dsimp only at hSw
        go_simp
        try with_reducible rfl
      simp only [Act.put, List.setIfInBounds_toArray, List.set_cons_zero, List.set_cons_succ]
      refine wpAnyH_take (i := 23) (oi := ({ dst := some 118, op := Op.pick (Operand.tmp 103) (Operand.const (Value.bool true)) (Operand.tmp 117), type := 4, pos := "law.go:89", after := #[{ on := 8, ground := Ground.data }, { on := 22, ground := Ground.data }], guard := none } : Oper)) (v := ?_) rfl (by kernel_rfl) (by kernel_rfl) (by kernel_rfl) (fun _ _ _ h => h) (Or.inl ⟨by rfl, ?_⟩) (by assumption) ?_
      rotate_left
      · intro w hSw
        try dsimp only at hSw
        go_simp
        try with_reducible rfl
      simp only [Act.put, List.setIfInBounds_toArray, List.set_cons_zero, List.set_cons_succ]
      refine wpAnyH_take (i := 24) (oi := ({ dst := some 6, op := Op.assign (Operand.tmp 118), type := 4, pos := "law.go:89", after := #[{ on := 23, ground := Ground.data }, { on := 14, ground := Ground.chain }, { on := 0, ground := Ground.phase }, { on := 1, ground := Ground.phase }, { on := 2, ground := Ground.phase }, { on := 3, ground := Ground.phase }, { on := 4, ground := Ground.phase }, { on := 5, ground := Ground.phase }, { on := 6, ground := Ground.phase }, { on := 7, ground := Ground.phase }, { on := 8, ground := Ground.phase }, { on := 9, ground := Ground.phase }, { on := 10, ground := Ground.phase }, { on := 11, ground := Ground.phase }, { on := 12, ground := Ground.phase }, { on := 13, ground := Ground.phase }, { on := 14, ground := Ground.phase }, { on := 15, ground := Ground.phase }, { on := 16, ground := Ground.phase }, { on := 17, ground := Ground.phase }, { on := 18, ground := Ground.phase }, { on := 19, ground := Ground.phase }, { on := 20, ground := Ground.phase }, { on := 21, ground := Ground.phase }, { on := 22, ground := Ground.phase }, { on := 23, ground := Ground.phase }], guard := none } : Oper)) (v := ?_) rfl (by kernel_rfl) (by kernel_rfl) (by kernel_rfl) (fun _ _ _ h => h) (Or.inl ⟨by rfl, ?_⟩) (by assumption) ?_
      rotate_left
      · intro w hSw
        try dsimp only at hSw
        go_simp
        try with_reducible rfl
      simp only [Act.put, List.setIfInBounds_toArray, List.set_cons_zero, List.set_cons_succ]
      refine wpAnyH_done (by kernel_rfl) ?_ _
      go_wp2
      go_ret
      exact ⟨by simp, HB17.out⟩
  · as_aux_lemma =>
      rw [hf] at he
      obtain ⟨hb15, v15, rfl, hf15⟩ := dpost_none he
      obtain ⟨tt, uu, hvv⟩ := flt_iface hf15
      subst hvv
      have HB15 : Hid (Below w.heap.size w w15) := Lib.hid (HB14.out.trans (hb15.mono HB14.out.size))
      have HBA : Hid (∀ o, Below w.heap.size w (w15.alloc o)) := Lib.hid (fun o => HB15.out.alloc HB15.out.size o)
      clear he hf hb15 hf15 HB14 HK14 HP14 HR14 HRY hcap14
      go_wp2_with fail
      go_region
      all_goals (
        go_wp2
        go_ret
        exact ⟨rfl, by first | exact HBA.out _ | exact (HBA.out _).drew⟩)

set_option maxRecDepth 100000 in
theorem contract (H : Type) (enc : TypeId × Value → H) (W : World) (base : Nat) (args : Array Value) (ds gs : List (DataW H)) (before : List MemPlace)
    (hval : ∀ (j : Nat) t v, Tryd.f5.params[j]? = some t → args[j]? = some v → Value.okWide Tryd.prog W .any base t v)
    (hW : DataW.Whole enc Tryd.prog Tryd.f5.params.toList Rows.codecCutSpec.vars false W args.toList ds gs before) (hL : laidMetH Tryd.prog Rows.codecCutRow.laid W) :
    Calls Tryd.prog 5 args W fun e W' => ∃ v, e = .returned v ∧ Rows.codecCutSpec.post enc Tryd.prog Tryd.f5 false true false false W args v W' := by
  have hW' := hW
  obtain ⟨p, q, hA0, hV, rfl, hfz, hnd⟩ := hW
  have hA : DataW.TrodAll enc Tryd.prog W 0 (fun _ => true) true Tryd.f5.params.toList args.toList ds p := hA0
  rw [Tryd.params5] at hA hval
  obtain ⟨v0, vs0, d0, ds0, p0, q0, hargs, rfl, rfl, h0, r0⟩ := trodAll_cons hA
  obtain ⟨v1, vs1, d1, ds1, p1, q1, rfl, rfl, rfl, h1, r1⟩ := trodAll_cons r0
  obtain ⟨v2, vs2, d2, ds2, p2, q2, rfl, rfl, rfl, h2, r2⟩ := trodAll_cons r1
  obtain ⟨rfl, rfl, rfl⟩ := trodAll_nil r2
  obtain rfl : args = #[v0, v1, v2] := by cases args; simp_all
  obtain ⟨rfl, rfl⟩ := trodVars_none hV
  obtain ⟨p0, rfl, hp0⟩ := open_prog (hval 0 25 v0 rfl rfl) h0
  obtain ⟨a1, rfl, rfl, rfl, w1⟩ := open_int Tryd.underlying3 (hval 1 3 v1 rfl rfl) h1
  obtain ⟨a2, rfl, rfl, rfl, w2⟩ := open_int Tryd.underlying5 (hval 2 5 v2 rfl rfl) h2
  clear hA0
  obtain ⟨ad, hE⟩ := codecCut_errs hL
  refine (walk W ad hE p0 hp0 a1 w1 a2 w2).mono fun e W' ⟨he, hg⟩ => ?_
  subst he
  exact ⟨_, rfl, post_law kids full (by rw [Tryd.params5]; decide +kernel) rfl hW' rfl rfl rfl hg (by kernel_rfl) Tryd.underlying4⟩

theorem reads (os : Os) {H : Type} (enc : TypeId × Value → H) : ∃ places, DataW.whole enc Tryd.prog ((laidWorld os).forCall (fun _ _ => 0) ⟨#[], #[.agg #[.slice none 0 0, .slice none 0 0], .int .i64 0, .int .u8 0], []⟩).memory Tryd.f5.params.toList Rows.codecCutSpec.vars false #[.agg #[.slice none 0 0, .slice none 0 0], .int .i64 0, .int .u8 0].toList 8 = some ([.agg [.nil, .nil], .lit (.int .i64 0), .lit (.int .u8 0)], [], places) :=
  ⟨[], by kernel_rfl⟩

set_option maxRecDepth 100000 in
theorem lifted (os : Os) (started : os.Started) (H : Type) (enc : TypeId × Value → H) (F : Stop.Interp) :
    ReturnsInHanded {} Tryd.checked os 5 .any ((OpenSpec.ofChange Rows.codecCutSpec).preRow enc Tryd.prog Tryd.f5 Rows.codecCutRow.domain false Rows.codecCutRow.laid) (((OpenSpec.ofChange Rows.codecCutSpec).at F).post enc Tryd.prog Tryd.f5 false true false false) := by
  obtain ⟨places, hx⟩ := reads os enc
  refine returnsInHanded_of_row (C := Tryd.checked) (s := OpenSpec.ofChange Rows.codecCutSpec) own started (by kernel_rfl) Tryd.func5
    (witness_row_atRef (enc := enc) (C := Tryd.checked) false (laidWorld os) #[.agg #[.slice none 0 0, .slice none 0 0], .int .i64 0, .int .u8 0] rfl (by kernel_rfl) (by kernel_rfl) (by kernel_rfl)
      (OpenSpec.preRow_of_cond 8 hx (by kernel_rfl) (fun k hk => by cases hk) (by kernel_rfl) (codecCut_met os _))) ?_
  intro W base args ds gs before hval hW _ _ _ hL _ _
  exact contract H enc W base args ds gs before hval hW hL

theorem said : Rows.CodecCutSaid :=
  OpenClaim.holds_of_cond 5 Tryd.f5 rfl rfl rfl rfl rfl rfl rfl ⟨rfl, rfl, rfl, rfl, rfl⟩ rfl rfl rfl rfl rfl (by kernel_rfl) Tryd.func5 (by kernel_rfl)
    (of_decide_eq_true (by kernel_rfl)) (by unfold Func.isWrapper; first | (rw [if_pos (by decide +kernel)]; kernel_rfl) | (rw [if_neg (by decide +kernel)]; exact ⟨rfl, rfl⟩))
    (fun os started H enc _ F => by rw [OpenClaim.pre_eq_preRow]; exact lifted os started H enc F)

theorem plain (f : FuncId) (fn : Func) (hf : Tryd.pinned.checked.prog.funcNamed "overdrive/overdrivelaw4.CodecCut" = some f) (hfn : Tryd.pinned.checked.prog.funcs[f]? = some fn) :
    true = Tryd.pinned.checked.prog.looks [] ∧ ∀ (j : Nat) t, fn.params[j]? = some t → Tryd.pinned.checked.prog.wantsStandIn t = false := by
  obtain rfl : f = 5 := Option.some.inj ((show Tryd.prog.funcNamed "overdrive/overdrivelaw4.CodecCut" = some 5 by kernel_rfl).symm.trans hf) |>.symm
  obtain rfl : fn = Tryd.f5 := (Option.some.inj (Tryd.func5.symm.trans hfn)).symm
  refine ⟨by kernel_rfl, fun j t ht => ?_⟩
  have hm := Array.mem_of_getElem? ht
  have hall : (Tryd.f5.params.toList.all fun t => Tryd.prog.wantsStandIn t == false) = true := by kernel_rfl
  have hw : Tryd.prog.wantsStandIn t = false := by simpa using List.all_eq_true.1 hall t (by simpa using hm)
  exact hw

theorem card : Rows.CodecCutCardSaid :=
  Claim7.holds_tied_plain_at .later [] _ _ _ _ said (fun _ h => by cases h) (by kernel_rfl) (fun _ h => by cases h) codecCut_row_tie rfl ⟨rfl, rfl⟩ (by kernel_rfl) rfl plain (by kernel_rfl)
#print axioms card
end Go.Proofs.YtnojejplckhifaaDoor.codecCut
