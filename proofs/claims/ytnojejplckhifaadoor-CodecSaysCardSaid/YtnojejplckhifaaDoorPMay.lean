/- The contract of prog.May. -/
import Derived.Test.YtnojejplckhifaaDoorInstrN
import Derived.Test.YtnojejplckhifaaDoorHead
import Derived.Test.YtnojejplckhifaaDoorPB
namespace Go.Proofs.YtnojejplckhifaaDoor
open Go.RowKit
set_option linter.unusedVariables false

/-- an error as a value: none, bare, with an At, with a Where around it -/
def FltV (w : World) (ad : Nat → Addr) (v : Value) : Option (Nat × List Int) → Prop
  | none => v = .nilIface
  | some (k, []) => v = eV (ad k)
  | some (k, [a]) => ∃ p, v = .iface 104 (.pointer (some ⟨p, 0, none⟩)) ∧ Blk w p 106 #[.int .i64 a, eV (ad k)]
  | some (k, [a, b]) => ∃ p, v = .iface 96 (.pointer (some ⟨p, 0, none⟩)) ∧ Blk w p 98 #[.int .i64 a, .int .i64 b, eV (ad k)]
  | some (_, _ :: _ :: _ :: _) => False
theorem FltV.below {w w' : World} {ad : Nat → Addr} {v : Value} {o : Option (Nat × List Int)} (h : FltV w ad v o) (hb : Below w.heap.size w w') : FltV w' ad v o := by
  match o, h with
  | none, h => exact h
  | some (k, []), h => exact h
  | some (k, [a]), ⟨p, h1, h2⟩ => exact ⟨p, h1, h2.below hb h2.lt⟩
  | some (k, [a, b]), ⟨p, h1, h2⟩ => exact ⟨p, h1, h2.below hb h2.lt⟩
def FPst (w : World) (ad : Nat → Addr) (o : Option (Nat × List Int)) (e : Ending) (w' : World) : Prop := ∃ v, e = .returned v ∧ FltV w' ad v o ∧ Below w.heap.size w w'
theorem flt_where {w W : World} {ad : Nat → Addr} {k : Nat} {a b : Int} (hb : Below w.heap.size w W) (o : Option (Nat × List Int)) (ho : o = some (k, [a, b])) (g : Nat) (hg : W.heap.size = g) :
    FPst w ad o (.returned (.iface 96 (.pointer (some ⟨g, 0, none⟩)))) (W.alloc (.cells #[.int .i64 a, .int .i64 b, eV (ad k)] 98)) := by
  subst ho hg
  exact ⟨_, rfl, ⟨W.heap.size, rfl, Blk.new _ _ _⟩, hb.alloc hb.size _⟩
def ClsRel (w W0 : World) (cls : List (List UInt8)) (si : Value) (wr : World) : Prop := ∃ k : Nat, k ≤ cls.length ∧ si = .int .i64 (k : Int) ∧ mayCs 0 cls = mayCs k (cls.drop k) ∧ Below W0.heap.size W0 wr
theorem mayCs_at {cls : List (List UInt8)} {k : Nat} {c : List UInt8} (h : cls[k]? = some c) : mayCs k (cls.drop k) = match mayC c with
    | some j => some (j, [(k : Int), -1])
    | none => mayCs (k + 1) (cls.drop (k + 1)) := by
  obtain ⟨hlt, rfl⟩ := List.getElem?_eq_some_iff.1 h
  rw [List.drop_eq_getElem_cons hlt]
  rfl
def MsRel (W0 : World) (p : PV) (si : Value) (wr : World) : Prop := ∃ k : Nat, k ≤ p.ms.length ∧ si = .int .i64 (k : Int) ∧ mayMs p.prg 0 p.prg.mets = mayMs p.prg k (p.prg.mets.drop k) ∧ Below W0.heap.size W0 wr
def IsRel (W1 : World) (p : PV) (m : Met) (i : Nat) (sj : Value) (wr : World) : Prop := ∃ k : Nat, k ≤ m.code.length ∧ sj = .int .i64 (k : Int) ∧ mayIs p.prg m i 0 m.code = mayIs p.prg m i k (m.code.drop k) ∧ Below W1.heap.size W1 wr
theorem mayMs_at {p : PV} {k : Nat} {x : MV} (h : p.ms[k]? = some x) : mayMs p.prg k (p.prg.mets.drop k) = match mayM p.prg k x.m with
    | some f => some f
    | none => mayMs p.prg (k + 1) (p.prg.mets.drop (k + 1)) := by
  obtain ⟨hlt, rfl⟩ := List.getElem?_eq_some_iff.1 h
  have hl : k < p.prg.mets.length := by simpa [PV.prg] using hlt
  rw [List.drop_eq_getElem_cons hl]
  have e : p.prg.mets[k] = p.ms[k].m := by simp [PV.prg]
  rw [e]
  rfl
theorem mayIs_at {P : Prg} {m : Met} {i k : Nat} {x : Ins} {code : List Ins} (h : code[k]? = some x) : mayIs P m i k (code.drop k) = match mayI P m x with
    | some j => some (j, [(i : Int), (k : Int)])
    | none => mayIs P m i (k + 1) (code.drop (k + 1)) := by
  obtain ⟨hlt, rfl⟩ := List.getElem?_eq_some_iff.1 h
  rw [List.drop_eq_getElem_cons hlt]
  rfl
theorem KeepsE.below {w w' : World} {ad : Nat → Addr} (h : KeepsE w ad) (hb : Below w.heap.size w w') : KeepsE w' ad := fun w2 h2 => h w2 (hb.trans (h2.mono hb.size))
set_option maxRecDepth 100000 in
set_option maxHeartbeats 4000000 in
theorem pmay_any (p : PV) (ad : Nat → Addr) (w : World) (hE : KeepsE w ad) (hp : PAt w w.heap.size p) (hc : ∀ c ∈ p.cls, c.length ≤ maxLen) (hcl : p.cls.length ≤ maxLen) (hml : p.ms.length ≤ maxLen)
    (hm : ∀ x ∈ p.ms, x.m.par.length ≤ maxLen ∧ x.m.loc.length ≤ maxLen ∧ x.m.code.length ≤ maxLen) (hm2 : ∀ x ∈ p.ms, x.m.par.length + x.m.loc.length ≤ maxLen) :
    Calls Tryd.prog 27 #[p.val] w (FPst w ad (mayP p.prg)) := by
  have HE := Lib.hid hE
  have HP := Lib.hid hp
  have HC := Lib.hid hc
  have HM := Lib.hid hm
  have HM2 := Lib.hid hm2
  obtain ⟨N1, hN1⟩ : ∃ n, n = p.cls.length := ⟨_, rfl⟩
  obtain ⟨N2, hN2⟩ : ∃ n, n = p.ms.length := ⟨_, rfl⟩
  have HB0 : Hid (Below w.heap.size w (w.alloc (.cells #[.slice p.A N1 p.c, .slice p.B N2 p.d] 25))) := Lib.hid ((Below.refl _ _).alloc (Nat.le_refl _) _)
  have HK0 : Hid (Blk (w.alloc (.cells #[.slice p.A N1 p.c, .slice p.B N2 p.d] 25)) w.heap.size 25 #[.slice p.A N1 p.c, .slice p.B N2 p.d]) := Lib.hid (Blk.new _ _ _)
  have HMP : Hid (mayP p.prg = if 12 < N1 ∨ N2 = 0 ∨ 12 < N2 then some (0, []) else match mayCs 0 p.cls with
    | some f => some f
    | none => mayMs p.prg 0 p.prg.mets) := Lib.hid (by
    rw [hN1, hN2]
    unfold mayP
    have e : p.prg.mets.length = p.ms.length := by simp [PV.prg]
    rw [e]
    rfl)
  unfold PV.val
  rw [← hN1, ← hN2]
  rw [← hN1] at hcl
  rw [← hN2] at hml
  have H1 := Lib.hid hN1
  have H2 := Lib.hid hN2
  have hcm := (hE _ HB0.out).1.1
  clear hE hp hc hm hm2 hN1 hN2
  by_cases hmany : 12 < N1 ∨ N2 = 0 ∨ 12 < N2
  · have HMQ : Hid (mayP p.prg = some (0, [])) := Lib.hid (by rw [HMP.out, if_pos hmany])
    clear HMP
    have fin : ∀ v W, Below w.heap.size w W → v = eV (ad 0) → FPst w ad (mayP p.prg) (.returned v) W := fun v W hb hv => by rw [HMQ.out, hv]; exact ⟨_, rfl, rfl, hb⟩
    have FIN := Lib.hid fin
    clear fin
    by_cases d1 : 12 < N1
    · have t1 : decide ((12 : Int) < (N1 : Int)) = true := by simp; omega
      clear hmany
      go_enter Tryd.func27, Tryd.ntmps27
      go_wp2
      go_ret
      exact FIN.out _ _ HB0.out rfl
    · have t1 : decide ((12 : Int) < (N1 : Int)) = false := by simp; omega
      by_cases d2 : N2 = 0
      · have t2 : ((N2 : Int) == 0) = true := by simp [d2]
        clear hmany d2
        go_enter Tryd.func27, Tryd.ntmps27
        go_wp2
        go_ret
        exact FIN.out _ _ HB0.out rfl
      · have t2 : ((N2 : Int) == 0) = false := by simp; omega
        have t3 : decide ((12 : Int) < (N2 : Int)) = true := by simp; omega
        clear hmany
        go_enter Tryd.func27, Tryd.ntmps27
        go_wp2
        go_ret
        exact FIN.out _ _ HB0.out rfl
  have HMQ : Hid (mayP p.prg = match mayCs 0 p.cls with
    | some f => some f
    | none => mayMs p.prg 0 p.prg.mets) := Lib.hid (by rw [HMP.out, if_neg hmany])
  have t1 : decide ((12 : Int) < (N1 : Int)) = false := by simp; omega
  have t2 : ((N2 : Int) == 0) = false := by simp; omega
  have t3 : decide ((12 : Int) < (N2 : Int)) = false := by simp; omega
  have hN1 : N1 ≤ 12 := by omega
  have hN2 : N2 ≤ 12 := by omega
  clear HMP hmany
  go_enter Tryd.func27, Tryd.ntmps27
  go_wp2_with fail
  obtain ⟨W0, hW0⟩ : ∃ W, W = w.alloc (.cells #[.slice p.A N1 p.c, .slice p.B N2 p.d] 25) := ⟨_, rfl⟩
  rw [← hW0] at HB0 HK0 hcm ⊢
  obtain ⟨gp, hgp⟩ : ∃ g, g = w.heap.size := ⟨_, rfl⟩
  have hgpw : w.heap.size = gp := hgp.symm
  rw [← hgp] at HK0 ⊢
  have HGP := Lib.hid hgp
  clear hW0 hcm t1 t2 t3 hgp hgpw
  go_loopw [31] (fun si wr => ClsRel w W0 p.cls si wr) (fun si _ => N1 - (intOf si).toNat)
  case atStart => exact ⟨0, Nat.zero_le _, rfl, rfl, Below.refl _ _⟩
  case round =>
    obtain ⟨k, hk, rfl, hmk, hbr⟩ := hrel
    have HMK := Lib.hid hmk
    have HBR := Lib.hid hbr
    clear hmk hbr
    by_cases hlt : k < N1
    · have hkN : (k : Int) < (N1 : Int) := by omega
      obtain ⟨c, hck⟩ : ∃ c, p.cls[k]? = some c := ⟨_, List.getElem?_eq_getElem (by have := H1.out; omega)⟩
      obtain ⟨A, u, hA, hAb, hu, hcell⟩ := ((HP.out.below HB0.out).below ((HBR.out.mono HB0.out.size))).cls.at_ (k := k) (by have := H1.out; omega)
      rw [List.getElem?_map, hck] at hu
      obtain rfl : strV c = u := by simpa using hu
      have HCK := Lib.hid hck
      have HA := Lib.hid hA
      rw [hA]
      clear hu hck hA
      unfold strV at hcell
      have hBA : ∀ o, Below w.heap.size w (wr.alloc o) := fun o => (HB0.out.trans (HBR.out.mono HB0.out.size)).alloc (Nat.le_trans HB0.out.size HBR.out.size) o
      have HBA := Lib.hid hBA
      have k0 : ∀ o, (wr.alloc o).cell? ⟨0, 0, none⟩ = some (eV (ad 0)) := fun o => (HE.out _ (hBA o)).1.1
      unfold eV at k0
      clear hBA
      have HMA := Lib.hid (mayCs_at HCK.out)
      have hcm := HC.out c (List.mem_of_getElem? HCK.out)
      by_cases hlen : 10 < c.length
      · have d1 : decide ((10 : Int) < (c.length : Int)) = true := by simp; omega
        have HF : Hid (mayP p.prg = some (0, [(k : Int), -1])) := Lib.hid (by
          have e : mayC c = some 0 := by unfold mayC; rw [if_pos hlen]
          rw [HMQ.out, HMK.out, HMA.out, e])
        clear HMA hlen
        go_wp2
        go_ret
        exact flt_where (HBA.out _) _ HF.out _ (by simp)
      · have d1 : decide ((10 : Int) < (c.length : Int)) = false := by simp; omega
        have HL := Lib.hid (letters_any c (wr.alloc (.cells #[.string ⟨c.toArray⟩] 65)) hcm)
        cases hl : lettersB c
        · have HF : Hid (mayP p.prg = some (1, [(k : Int), -1])) := Lib.hid (by
            have e : mayC c = some 1 := by unfold mayC; rw [if_neg hlen, hl]; rfl
            rw [HMQ.out, HMK.out, HMA.out, e])
          rw [hl] at HL
          clear HMA hlen hl
          go_wp2_with fail
          refine HL.out.mono ?_
          rintro e w2 ⟨rfl, hb2⟩
          have hb3 := (HBA.out (.cells #[.string ⟨c.toArray⟩] 65)).trans (hb2.mono (HBA.out _).size)
          have HB3 := Lib.hid hb3
          have k1 := (HE.out _ hb3).1.2
          unfold eV at k1
          clear hb2 hb3
          go_wp2
          go_ret
          exact flt_where HB3.out _ HF.out _ rfl
        · have HN : Hid (mayCs 0 p.cls = mayCs (k + 1) (p.cls.drop (k + 1))) := Lib.hid (by
            have e : mayC c = none := by unfold mayC; rw [if_neg hlen, hl]; rfl
            rw [HMK.out, HMA.out, e])
          rw [hl] at HL
          clear HMA hlen hl
          go_wp2_with fail
          refine HL.out.mono ?_
          rintro e w2 ⟨rfl, hb2⟩
          have HB3 : Hid (Below W0.heap.size W0 w2) := Lib.hid ((HBR.out.alloc HBR.out.size _).trans (hb2.mono (by have := HBR.out.size; simp; omega)))
          clear hb2
          go_wp2
          go_roundw
          case rel => exact ⟨k + 1, by have := H1.out; omega, by go_num, HN.out, HB3.out⟩
          case measure => simp [intOf]; omega
    · have HCN : Hid (mayP p.prg = mayMs p.prg 0 p.prg.mets) := Lib.hid (by
        rw [HMQ.out, HMK.out, List.drop_eq_nil_of_le (by have := H1.out; omega)]
        rfl)
      have hbr := HBR.out
      have c1 : wr.cell? ⟨gp, 1, none⟩ = some (.slice p.B N2 p.d) := (HK0.out.below hbr HK0.out.lt).cell 1
      clear HMK HMQ hbr
      have t5 : decide (k < N1) = false := by simpa using hlt
      have t6 : decide ((k : Int) < (N1 : Int)) = false := by simp; omega
      go_wp2_with fail
      have HINS : Hid (∀ (x : MV) (y : Ins) (W : World), KeepsE W ad → PAt W W.heap.size p → x.m.par.length + x.m.loc.length ≤ maxLen → Calls Tryd.prog 61 #[.agg #[.slice p.A N1 p.c, .slice p.B N2 p.d], metAgg x, .agg #[.int .i64 y.op, .int .i64 y.a, .int .i64 y.b, .int .i64 y.n]] W (HPost W (optV ad (mayI p.prg x.m y)))) := Lib.hid (by
        rw [H1.out, H2.out]
        exact fun x y W a b c => instr_any p x y ad W a b c HC.out)
      clear c1 t5 t6 hlt
      go_loopw [60] (fun si wr => MsRel W0 p si wr) (fun si _ => N2 - (intOf si).toNat)
      case atStart => exact ⟨0, Nat.zero_le _, rfl, rfl, HBR.out⟩
      case round =>
        clear HBR
        obtain ⟨i, hi, rfl, hmi, hbr⟩ := hrel
        have HMI := Lib.hid hmi
        have HBR := Lib.hid hbr
        clear hmi hbr
        by_cases hlti : i < N2
        · have hiN : (i : Int) < (N2 : Int) := by omega
          obtain ⟨x, hx⟩ : ∃ x, p.ms[i]? = some x := ⟨_, List.getElem?_eq_getElem (by have := H2.out; omega)⟩
          have HXM := Lib.hid (List.mem_of_getElem? hx)
          have HPR : Hid (PAt wr wr.heap.size p) := Lib.hid (HP.out.next (HB0.out.trans (HBR.out.mono HB0.out.size)))
          obtain ⟨A, hA, hAb, m0, m1, m2, m3⟩ := HPR.out.ms.four mvC_len hx rfl
          have HMX := Lib.hid (mayMs_at hx)
          have hcm := (HM.out x HXM.out).2.2
          rw [hA]
          clear hx hA
          unfold strV at m0 m1 m2
          obtain ⟨M, hM⟩ : ∃ M, M = x.m.code.length := ⟨_, rfl⟩
          rw [← hM] at m3 hcm
          have HMM := Lib.hid hM
          clear hM
          have HKA : Hid (KeepsE (wr.alloc (.cells #[.string ⟨x.m.par.toArray⟩, .string ⟨x.m.loc.toArray⟩, .string ⟨x.m.ret.toArray⟩, .slice x.A M x.c] 54)) ad) := Lib.hid (HE.out.below ((HB0.out.trans (HBR.out.mono HB0.out.size)).alloc (Nat.le_trans HB0.out.size HBR.out.size) _))
          have HHD : Hid (Calls Tryd.prog 60 #[.agg #[.string ⟨x.m.par.toArray⟩, .string ⟨x.m.loc.toArray⟩, .string ⟨x.m.ret.toArray⟩, .slice x.A M x.c], .bool ((i : Int) == 0)] (wr.alloc (.cells #[.string ⟨x.m.par.toArray⟩, .string ⟨x.m.loc.toArray⟩, .string ⟨x.m.ret.toArray⟩, .slice x.A M x.c] 54)) (HPost (wr.alloc (.cells #[.string ⟨x.m.par.toArray⟩, .string ⟨x.m.loc.toArray⟩, .string ⟨x.m.ret.toArray⟩, .slice x.A M x.c] 54)) (optV ad (mayH x.m (i == 0))))) := Lib.hid (by
            have e : ((i : Int) == 0) = (i == 0) := by rw [Bool.eq_iff_iff]; simp
            rw [e]
            have := head_any x (i == 0) ad _ HKA.out (HM.out x HXM.out).1 (HM.out x HXM.out).2.1 (by rw [← HMM.out]; exact hcm)
            unfold metAgg strV at this
            rw [← HMM.out] at this
            exact this)
          have HBX : Hid (Blk (wr.alloc (.cells #[.string ⟨x.m.par.toArray⟩, .string ⟨x.m.loc.toArray⟩, .string ⟨x.m.ret.toArray⟩, .slice x.A M x.c] 54)) wr.heap.size 54 #[.string ⟨x.m.par.toArray⟩, .string ⟨x.m.loc.toArray⟩, .string ⟨x.m.ret.toArray⟩, .slice x.A M x.c]) := Lib.hid (Blk.new _ _ _)
          have HBW : Hid (Below w.heap.size w (wr.alloc (.cells #[.string ⟨x.m.par.toArray⟩, .string ⟨x.m.loc.toArray⟩, .string ⟨x.m.ret.toArray⟩, .slice x.A M x.c] 54))) := Lib.hid ((HB0.out.trans (HBR.out.mono HB0.out.size)).alloc (Nat.le_trans HB0.out.size HBR.out.size) _)
          have HB0W : Hid (Below W0.heap.size W0 (wr.alloc (.cells #[.string ⟨x.m.par.toArray⟩, .string ⟨x.m.loc.toArray⟩, .string ⟨x.m.ret.toArray⟩, .slice x.A M x.c] 54))) := Lib.hid (HBR.out.alloc HBR.out.size _)
          go_wp2_with fail
          refine HHD.out.mono ?_
          rintro e W1 ⟨rfl, hb1⟩
          obtain ⟨gm, hgm⟩ : ∃ g, g = wr.heap.size := ⟨_, rfl⟩
          have HBX1 := Lib.hid (HBX.out.below hb1 HBX.out.lt)
          have HBW1 : Hid (Below w.heap.size w W1) := Lib.hid (HBW.out.trans (hb1.mono HBW.out.size))
          have HB01 : Hid (Below W0.heap.size W0 W1) := Lib.hid (HB0W.out.trans (hb1.mono HB0W.out.size))
          rw [← hgm] at HBX1 ⊢
          clear hb1 hgm HBX HBW HB0W HHD HKA HPR hAb m0 m1 m2 m3 HBR
          cases hhd : mayH x.m (i == 0) with
          | some j =>
            have HF : Hid (mayP p.prg = some (j, [(i : Int), -1])) := Lib.hid (by
              have e : mayM p.prg i x.m = some (j, [(i : Int), -1]) := by unfold mayM; rw [hhd]
              rw [HCN.out, HMI.out, HMX.out, e])
            clear HMX hhd HCN HMI
            unfold optV eV
            go_wp2
            go_ret
            exact flt_where HBW1.out _ HF.out _ rfl
          | none =>
            have HMY : Hid (mayMs p.prg 0 p.prg.mets = match mayIs p.prg x.m i 0 x.m.code with
              | some f => some f
              | none => mayMs p.prg (i + 1) (p.prg.mets.drop (i + 1))) := Lib.hid (by
              have e : mayM p.prg i x.m = mayIs p.prg x.m i 0 x.m.code := by unfold mayM; rw [hhd]
              rw [HMI.out, HMX.out, e])
            have hM120 : M ≤ 120 := by
              unfold mayH at hhd
              split at hhd
              · cases hhd
              · have := HMM.out
                omega
            clear HMX hhd HMI
            unfold optV
            have c3 : W1.cell? ⟨gm, 3, none⟩ = some (.slice x.A M x.c) := HBX1.out.cell 3
            go_wp2_with fail
            have HK01 : Hid (Blk W1 gp 25 #[.slice p.A N1 p.c, .slice p.B N2 p.d]) := Lib.hid (HK0.out.below HB01.out HK0.out.lt)
            clear c3
            go_loopw [79] (fun si wr => IsRel W1 p x.m i si wr) (fun si _ => M - (intOf si).toNat)
            case atStart => exact ⟨0, Nat.zero_le _, rfl, rfl, Below.refl _ _⟩
            case round =>
              obtain ⟨j, hj, rfl, hmj, hbrj⟩ := hrel
              have HMJ := Lib.hid hmj
              have HBJ := Lib.hid hbrj
              clear hmj
              by_cases hltj : j < M
              · have hjM : (j : Int) < (M : Int) := by omega
                obtain ⟨y, hy⟩ : ∃ y, x.m.code[j]? = some y := ⟨_, List.getElem?_eq_getElem (by have := HMM.out; omega)⟩
                have HBWJ : Hid (Below w.heap.size w wr) := Lib.hid (HBW1.out.trans (hbrj.mono HBW1.out.size))
                have hrc := ((HP.out.next HBWJ.out).code x HXM.out)
                obtain ⟨C, hC, hCb, n0, n1, n2, n3⟩ := hrc.four insC_len hy rfl
                have HIA := Lib.hid (mayIs_at (P := p.prg) (m := x.m) (i := i) hy)
                have HCE := Lib.hid hC
                rw [hC]
                clear hy hC hrc
                have q0 : wr.cell? ⟨gp, 0, none⟩ = some (.slice p.A N1 p.c) := (HK01.out.below hbrj HK01.out.lt).cell 0
                have q1 : wr.cell? ⟨gp, 1, none⟩ = some (.slice p.B N2 p.d) := (HK01.out.below hbrj HK01.out.lt).cell 1
                have r0 : wr.cell? ⟨gm, 0, none⟩ = some (.string ⟨x.m.par.toArray⟩) := (HBX1.out.below hbrj HBX1.out.lt).cell 0
                have r1 : wr.cell? ⟨gm, 1, none⟩ = some (.string ⟨x.m.loc.toArray⟩) := (HBX1.out.below hbrj HBX1.out.lt).cell 1
                have r2 : wr.cell? ⟨gm, 2, none⟩ = some (.string ⟨x.m.ret.toArray⟩) := (HBX1.out.below hbrj HBX1.out.lt).cell 2
                have r3 : wr.cell? ⟨gm, 3, none⟩ = some (.slice x.A M x.c) := (HBX1.out.below hbrj HBX1.out.lt).cell 3
                rw [HCE.out] at r3
                have hgp' : gp < wr.heap.size := Nat.lt_of_lt_of_le HK01.out.lt hbrj.size
                have hgm' : gm < wr.heap.size := Nat.lt_of_lt_of_le HBX1.out.lt hbrj.size
                have HBY : Hid (Below w.heap.size w (wr.alloc (.cells #[.int .i64 y.op, .int .i64 y.a, .int .i64 y.b, .int .i64 y.n] 56))) := Lib.hid (HBWJ.out.alloc HBWJ.out.size _)
                have HIC : Hid (Calls Tryd.prog 61 #[.agg #[.slice p.A N1 p.c, .slice p.B N2 p.d], .agg #[.string ⟨x.m.par.toArray⟩, .string ⟨x.m.loc.toArray⟩, .string ⟨x.m.ret.toArray⟩, .slice (some C) M x.c], .agg #[.int .i64 y.op, .int .i64 y.a, .int .i64 y.b, .int .i64 y.n]] (wr.alloc (.cells #[.int .i64 y.op, .int .i64 y.a, .int .i64 y.b, .int .i64 y.n] 56)) (HPost (wr.alloc (.cells #[.int .i64 y.op, .int .i64 y.a, .int .i64 y.b, .int .i64 y.n] 56)) (optV ad (mayI p.prg x.m y)))) := Lib.hid (by
                  have := HINS.out x y _ (HE.out.below HBY.out) (HP.out.next HBY.out) (HM2.out x HXM.out)
                  unfold metAgg strV at this
                  rw [← HMM.out, HCE.out] at this
                  exact this)
                have HBYJ : Hid (Below W1.heap.size W1 (wr.alloc (.cells #[.int .i64 y.op, .int .i64 y.a, .int .i64 y.b, .int .i64 y.n] 56))) := Lib.hid (hbrj.alloc hbrj.size _)
                clear hbrj
                go_wp2_with fail
                refine HIC.out.mono ?_
                rintro e W2 ⟨rfl, hb2⟩
                have HBW2 : Hid (Below w.heap.size w W2) := Lib.hid (HBY.out.trans (hb2.mono HBY.out.size))
                have HB12 : Hid (Below W1.heap.size W1 W2) := Lib.hid (HBYJ.out.trans (hb2.mono HBYJ.out.size))
                clear hb2 HIC HBY HBYJ n0 n1 n2 n3 q0 q1 r0 r1 r2 r3 hgp' hgm' hCb
                cases hin : mayI p.prg x.m y with
                | some q =>
                  have HF : Hid (mayP p.prg = some (q, [(i : Int), (j : Int)])) := Lib.hid (by
                    have e : mayIs p.prg x.m i 0 x.m.code = some (q, [(i : Int), (j : Int)]) := by rw [HMJ.out, HIA.out, hin]
                    rw [HCN.out, HMY.out, e])
                  clear HIA hin HMJ
                  unfold optV eV
                  go_wp2
                  go_ret
                  exact flt_where HBW2.out _ HF.out _ rfl
                | none =>
                  have HNJ : Hid (mayIs p.prg x.m i 0 x.m.code = mayIs p.prg x.m i (j + 1) (x.m.code.drop (j + 1))) := Lib.hid (by rw [HMJ.out, HIA.out, hin])
                  clear HIA hin HMJ
                  unfold optV
                  go_wp2
                  go_roundw
                  case rel => exact ⟨j + 1, by have := HMM.out; omega, by go_num, HNJ.out, HB12.out⟩
                  case measure => simp [intOf]; omega
              · have HNI : Hid (mayMs p.prg 0 p.prg.mets = mayMs p.prg (i + 1) (p.prg.mets.drop (i + 1))) := Lib.hid (by
                  have e : mayIs p.prg x.m i 0 x.m.code = none := by
                    rw [HMJ.out, List.drop_eq_nil_of_le (by have := HMM.out; omega)]
                    rfl
                  rw [HMY.out, e])
                have t9 : decide (j < M) = false := by simpa using hltj
                have t10 : decide ((j : Int) < (M : Int)) = false := by simp; omega
                go_wp2
                go_roundw
                case rel => exact ⟨i + 1, by have := H2.out; omega, by go_num, HNI.out, HB01.out.trans (hbrj.mono HB01.out.size)⟩
                case measure => simp [intOf]; omega
        · have HF : Hid (mayP p.prg = none) := Lib.hid (by
            rw [HCN.out, HMI.out, List.drop_eq_nil_of_le (by have := H2.out; simp [PV.prg]; omega)]
            rfl)
          have t7 : decide (i < N2) = false := by simpa using hlti
          have t8 : decide ((i : Int) < (N2 : Int)) = false := by simp; omega
          go_wp2
          go_ret
          rw [HF.out]
          exact ⟨_, rfl, rfl, HB0.out.trans (HBR.out.mono HB0.out.size)⟩
end Go.Proofs.YtnojejplckhifaaDoor
