/- The contract of codec.Encode (printed by mkenc.py). -/
import Derived.Test.YtnojejplckhifaaDoorEncS
import Derived.Lib.SlBytesConst
import Derived.Deep.CutBlock
import Derived.Deep.CutRange
namespace Go.Proofs.YtnojejplckhifaaDoor
open Go.RowKit
set_option linter.unusedVariables false

theorem blk_put {w W W2 : World} {gb k : Nat} {v v' : Value} {L : List Nat} {t : TypeId} {cs : Array Value} (h : ES w W gb v L) (hk : Blk W k t cs) (ht : t ≠ 26) (hb : Below W.heap.size W W2) : Blk (W2.setCell ⟨gb, 0, none⟩ v') k t cs :=
  (hk.below hb hk.lt).far (p := ⟨gb, 0, none⟩) (Blk.ne_ hk h.bb ht) v'
theorem blk_app {w W W2 : World} {gb k : Nat} {v v' : Value} {L : List Nat} {t : TypeId} {cs : Array Value} (h : ES w W gb v L) (hk : Blk W k t cs) (ht : t ≠ 26) (ht2 : t ≠ 5) (hg : W.grownBy W2 v.ownBlock) : Blk (W2.setCell ⟨gb, 0, none⟩ v') k t cs :=
  (hk.grown hg (fun e => own_blk_ne h.own hk (fun e => ht2 e.symm) e.symm)).far (p := ⟨gb, 0, none⟩) (Blk.ne_ hk h.bb ht) v'
theorem ES.app_put {w W W7 W8 : World} {gb : Nat} {v v7 v8 : Value} {L : List Nat} {n7 : Nat} {xs7 : List Value} {L8 : List Nat} (h : ES w W gb v L) (ho7 : W7.ownsRow w.heap.size 5 1 v7 n7 xs7) (hg : W.grownBy W7 v.ownBlock) (ho8 : W8.ownsRow W7.heap.size 5 1 v8 L8.length (L8.map bv)) (hb : Below W7.heap.size W7 W8) :
    ES w (W8.setCell ⟨gb, 0, none⟩ v8) gb v8 L8 ∧ (∀ (k : Nat) (t : TypeId) (cs : Array Value), Blk W k t cs → t ≠ 26 → t ≠ 5 → Blk (W8.setCell ⟨gb, 0, none⟩ v8) k t cs) ∧ Blk W8 gb 26 #[v] := by
  have b7 : Below w.heap.size w W7 := h.bw.grown hg h.bw.size (fun k hk => own_ge h.own hk)
  have p7 := h.bb.grown hg (fun e => own_blk_ne h.own h.bb (by decide) e.symm)
  have p8 := p7.below hb p7.lt
  have o8 := own_base ho8 b7.size
  refine ⟨⟨by have := p8.set_ 0 v8; simpa using this, own_far o8 p8 (by decide) v8, (b7.trans (hb.mono b7.size)).setCell (p := ⟨gb, 0, none⟩) h.hb _, h.hb⟩, fun k t cs hk h1 h2 => ?_, p8⟩
  have k7 := hk.grown hg (fun e => own_blk_ne h.own hk (fun e => h2 e.symm) e.symm)
  exact (k7.below hb k7.lt).far (p := ⟨gb, 0, none⟩) (Blk.ne_ hk h.bb h1) v8
theorem step_append_str {P : Program} (w : World) {ops : Array Oper} {o : Oper} {a : Act} {K : Act → World → Prop} {Q : Exit → Act → World → Prop} {E : Prop} (hgd : o.guard = none) (sl x : Operand) (t u : TypeId)
    (ho : o.op = .call { callee := .builtin .append, args := #[sl, x], argTypes := #[t, u] })
    (base : Nat) (e : TypeId) (i : TypeInfo) (ht : P.underlying t = some (.slice e)) (hu : P.underlying u = some .string) (hi : P.info? e = some i) (hz : i.zero = some (.int .u8 0))
    (hsize : i.size = 1) (hby : i.bytes = 1)
    (v : Value) (n : Nat) (xs : List Value) (hs : a.eval sl = v) (hown : w.ownsRow base e 1 v n xs) (s : ByteArray) (hx : a.eval x = .string s)
    (h63 : n + s.size ≤ maxLen) (hbytes : n + s.size ≤ 140737488355328) (hbase : base ≤ w.heap.size)
    (h : ∀ v' w', w'.ownsRow base e 1 v' (n + s.size) (xs ++ Lib.strCells s) → w.grownBy w' v.ownBlock → K (a.put o.dst v') w') :
    if Region.wanted o (yielded ops a.tmps) = true then Oper.wp P o a w K Q else E := by
  have hw : Region.wanted o (yielded ops a.tmps) = true := by simp [Region.wanted, hgd]
  rw [if_pos hw]
  obtain ⟨v', w', hr, h2, h3, h4⟩ := Lib.run_append_own_string (P := P) w base t u o.type e i ht hu hi hz hsize hby v n xs hown s h63 hbytes hbase
  unfold Oper.wp execOp
  simp only [ho, resolve, invoke, builtin, Sem.run_bind, Sem.run_pure, Result.andThen_ok, List.map_toArray, List.map_cons, List.map_nil, hs, hx, hr]
  exact h v' w' h2 h3
def encO (P : Prg) : Option (List Nat) × Option (Nat × List Int) := match mayP P with
  | some f => (none, some f)
  | none => if 16384 < (encP P).length then (none, some (0, [])) else (some (encP P), none)
def EPost (w : World) (ad : Nat → Addr) (o : Option (List Nat) × Option (Nat × List Int)) (e : Ending) (w' : World) : Prop :=
  Below w.heap.size w w' ∧ ((∃ L A c, o = (some L, none) ∧ e = .returned (.tuple #[.slice A L.length c, .nilIface]) ∧ w'.ownsRow w.heap.size 5 1 (.slice A L.length c) L.length (L.map bv)) ∨
    (∃ f v, o = (none, some f) ∧ e = .returned (.tuple #[.slice none 0 0, v]) ∧ FltV w' ad v (some f)))
theorem encI_len (x : Ins) : (encI x).length ≤ 31 := by
  unfold encI
  have h1 : (if hasA x.op then enc x.a.toNat else []).length ≤ 10 := by split <;> simp [enc_len]
  have h2 : (if hasB x.op then enc x.b.toNat else []).length ≤ 10 := by split <;> simp [enc_len]
  have h3 : (if x.op = 1 then enc (zig x.n).toNat else []).length ≤ 10 := by split <;> simp [enc_len]
  simp only [List.length_cons, List.length_append]
  omega
theorem flat_len {α : Type} (f : α → List Nat) (c : Nat) (l : List α) (h : ∀ x ∈ l, (f x).length ≤ c) : (l.flatMap f).length ≤ l.length * c := by
  induction l with
  | nil => simp
  | cons x l ih =>
    rw [List.flatMap_cons, List.length_append, List.length_cons, Nat.succ_mul]
    have := h x (by simp)
    have := ih (fun y hy => h y (by simp [hy]))
    omega
theorem encS_len (s : List UInt8) : (encS s).length ≤ 10 + s.length := by
  unfold encS
  have := enc_len s.length
  simp [nats]
  omega
theorem encM_len (m : Met) (h : okM m) : (encM m).length ≤ 4000 := by
  obtain ⟨⟨h1, h2⟩, h3, h4, h5⟩ := h
  have a1 := encS_len m.par
  have a2 := encS_len m.loc
  have a3 : (encR m.ret).length ≤ 1 := by
    rcases retB_cases h3 with e | e | e <;> rw [e] <;> decide
  have a4 := enc_len m.code.length
  have a5 := flat_len encI 31 m.code (fun x _ => encI_len x)
  have b1 := h1.1
  have b2 := h2.1
  unfold encM
  simp only [List.length_append]
  omega
theorem reads_newA (w : World) (t : TypeId) (cs : Array Value) (s n g : Nat) (xs : List Value) (hg : w.heap.size = g) (hx : cs.toList = xs) (hn : xs.length = n * s) :
    Reads (w.alloc (.cells cs t)) (w.alloc (.cells cs t)).heap.size s (some ⟨g, 0, none⟩) n xs := by
  subst hg
  exact reads_newS w t cs s n xs hx hn
theorem reads_newF (w : World) (t : TypeId) (cs : Array Value) (fz : Nat × Nat) (n : Nat) (xs : List Value) (hx : cs.toList = xs) (hn : xs.length = n) :
    Reads (w.alloc (.cells cs t fz)) (w.alloc (.cells cs t fz)).heap.size 1 (some ⟨w.heap.size, 0, none⟩) n xs := by
  subst hx
  refine ⟨by simpa using hn, fun _ => ⟨_, rfl, by simp, fun j u hu => ?_⟩⟩
  have h : (w.alloc (.cells cs t fz)).heap[w.heap.size]? = some (.cells cs t fz) := heap_alloc_new w _
  have e : (⟨w.heap.size, 0, none⟩ : Addr).add j = ⟨w.heap.size, j, none⟩ := by unfold Addr.add; split <;> simp_all
  rw [e, cell_of_row _ _ _ _ _ _ h]
  simpa using hu
def preC (P : Prg) (k : Nat) : List Nat := [79, 68, 1] ++ enc P.cls.length ++ (P.cls.take k).flatMap encS
def preM (P : Prg) (k : Nat) : List Nat := preC P P.cls.length ++ enc P.mets.length ++ (P.mets.take k).flatMap encM
theorem u64_small {x : Nat} (h : x ≤ 1048576) : U64 x := Nat.lt_of_le_of_lt h (by decide)
theorem preC_succ {P : Prg} {k : Nat} {c : List UInt8} (h : P.cls[k]? = some c) : preC P (k + 1) = preC P k ++ encS c := by
  unfold preC
  rw [List.take_add_one, h]
  simp
theorem preM_succ {P : Prg} {k : Nat} {m : Met} (h : P.mets[k]? = some m) : preM P (k + 1) = preM P k ++ encM m := by
  unfold preM
  rw [List.take_add_one, h]
  simp
theorem preM_all (P : Prg) : preM P P.mets.length = encP P := by
  unfold preM preC encP
  simp
theorem preC_len {P : Prg} (h : okP P) (k : Nat) : (preC P k).length ≤ 300 := by
  unfold preC
  have h1 := enc_len P.cls.length
  have h2 := flat_len encS 20 (P.cls.take k) (fun x hx => by have := encS_len x; have := (h.1.2 x (List.mem_of_mem_take hx)).1; omega)
  have h3 := h.1.1
  have h4 : (P.cls.take k).length ≤ 12 := by rw [List.length_take]; omega
  simp only [List.length_append, List.length_cons, List.length_nil]
  omega
theorem preM_len {P : Prg} (h : okP P) (k : Nat) : (preM P k).length ≤ 60000 := by
  unfold preM
  have h0 := preC_len h P.cls.length
  have h1 := enc_len P.mets.length
  have h2 := flat_len encM 4000 (P.mets.take k) (fun x hx => encM_len x (h.2.2 x (List.mem_of_mem_take hx)))
  have h4 : (P.mets.take k).length ≤ 12 := by rw [List.length_take]; have := h.2.1.2; omega
  simp only [List.length_append]
  omega
def ECRel (w1 : World) (P : Prg) (gb : Nat) (si : Value) (wr : World) : Prop := ∃ (k : Nat) (v : Value), k ≤ P.cls.length ∧ si = .int .i64 (k : Int) ∧ ES w1 wr gb v (preC P k)
def RetR (w1 : World) (gb gm : Nat) (cs : Array Value) (T : List Nat) (ret : List UInt8) (wx : World) : Prop := ∃ A6 N6 c6 L6, ES w1 wx gb (.slice A6 N6 c6) L6 ∧ L6.length = N6 ∧ N6 ≤ 60201 ∧ Blk wx gm 54 cs ∧ L6 ++ nats ret = T
def EIRel (w1 : World) (code : List Ins) (gb gm : Nat) (cs : Array Value) (L : List Nat) (si : Value) (wr : World) : Prop := ∃ (k : Nat) (v : Value), k ≤ code.length ∧ si = .int .i64 (k : Int) ∧ ES w1 wr gb v (L ++ (code.take k).flatMap encI) ∧ Blk wr gm 54 cs
def EMRel (w1 : World) (P : Prg) (gb : Nat) (si : Value) (wr : World) : Prop := ∃ (k : Nat) (v : Value), k ≤ P.mets.length ∧ si = .int .i64 (k : Int) ∧ ES w1 wr gb v (preM P k)
set_option maxRecDepth 100000 in
set_option maxHeartbeats 8000000 in
theorem encode_any (p : PV) (ad : Nat → Addr) (w : World) (hE : Errs w ad) (hp : PAt w w.heap.size p) (hc : ∀ c ∈ p.cls, c.length ≤ maxLen) (hcl : p.cls.length ≤ maxLen) (hml : p.ms.length ≤ maxLen)
    (hm : ∀ x ∈ p.ms, x.m.par.length ≤ maxLen ∧ x.m.loc.length ≤ maxLen ∧ x.m.code.length ≤ maxLen) (hm2 : ∀ x ∈ p.ms, x.m.par.length + x.m.loc.length ≤ maxLen) (hI : ∀ m ∈ p.prg.mets, ∀ x ∈ m.code, I64 x.n) :
    Calls Tryd.prog 11 #[p.val] w (EPost w ad (encO p.prg)) := by
  obtain ⟨i0, hi0, hz0, hz1, hz2⟩ := info_parts u8_info
  obtain ⟨N1, hN1⟩ : ∃ n, n = p.cls.length := ⟨_, rfl⟩
  obtain ⟨N2, hN2⟩ : ∃ n, n = p.ms.length := ⟨_, rfl⟩
  obtain ⟨w0, hw0⟩ : ∃ W, W = w.alloc (.cells #[.slice p.A N1 p.c, .slice p.B N2 p.d] 25) := ⟨_, rfl⟩
  have HB0 : Hid (Below w.heap.size w w0) := Lib.hid (by rw [hw0]; exact (Below.refl _ _).alloc (Nat.le_refl _) _)
  have HK0 : Hid (Blk w0 w.heap.size 25 #[.slice p.A N1 p.c, .slice p.B N2 p.d]) := Lib.hid (by rw [hw0]; exact Blk.new _ _ _)
  have HMAY : Hid (Calls Tryd.prog 27 #[.agg #[.slice p.A N1 p.c, .slice p.B N2 p.d]] w0 (FPst w0 ad (mayP p.prg))) := Lib.hid (by
    have := pmay_any p ad w0 (hE.keeps.below HB0.out) (hp.next HB0.out) hc hcl hml hm hm2
    unfold PV.val at this
    rw [← hN1, ← hN2] at this
    exact this)
  have HE := Lib.hid hE
  have HP := Lib.hid hp
  have H1 := Lib.hid hN1
  have H2 := Lib.hid hN2
  have HOK : Hid (mayP p.prg = none → okP p.prg) := Lib.hid (fun h => may_ok p.prg h hI)
  unfold PV.val
  rw [← hN1, ← hN2]
  clear hE hp hc hcl hml hm hm2 hI hN1 hN2
  have x0 : w0.cell? ⟨w.heap.size, 0, none⟩ = some (.slice p.A N1 p.c) := HK0.out.cell 0
  have x1 : w0.cell? ⟨w.heap.size, 1, none⟩ = some (.slice p.B N2 p.d) := HK0.out.cell 1
  go_enter Tryd.func11, Tryd.ntmps11
  go_wp2_with fail
  rw [← hw0]
  obtain ⟨gp, hgp⟩ : ∃ g, g = w.heap.size := ⟨_, rfl⟩
  rw [← hgp] at HK0 ⊢
  clear x0 x1 hw0
  refine HMAY.out.mono ?_
  rintro e w1 ⟨vv, rfl, hf, hb1⟩
  have HB1 : Hid (Below w.heap.size w w1) := Lib.hid (HB0.out.trans (hb1.mono HB0.out.size))
  have HK1 : Hid (Blk w1 gp 25 #[.slice p.A N1 p.c, .slice p.B N2 p.d]) := Lib.hid (HK0.out.below hb1 HK0.out.lt)
  have HFV := Lib.hid hf
  have hgpw : w.heap.size ≤ gp := by omega
  clear hf hb1 HMAY HK0 HB0 hgp
  cases hmp : mayP p.prg with
  | some f =>
    have hff := HFV.out
    rw [hmp] at hff
    obtain ⟨tt, uu, hvv⟩ := flt_iface hff
    subst hvv
    have HFG := Lib.hid hff
    have HFF : Hid (encO p.prg = (none, some f)) := Lib.hid (by unfold encO; rw [hmp])
    clear hmp HFV hff
    go_wp2
    go_ret2
    rw [HFF.out]
    exact ⟨HB1.out, .inr ⟨_, _, rfl, rfl, HFG.out⟩⟩
  | none =>
    have hvv := HFV.out
    rw [hmp] at hvv
    have hvv' : vv = .nilIface := hvv
    subst hvv'
    have HEO : Hid (encO p.prg = if 16384 < (encP p.prg).length then (none, some (0, [])) else (some (encP p.prg), none)) := Lib.hid (by unfold encO; rw [hmp])
    have HOKP := Lib.hid (HOK.out hmp)
    clear hmp HFV hvv HOK
    have x0 : w1.cell? ⟨gp, 0, none⟩ = some (.slice p.A N1 p.c) := HK1.out.cell 0
    have hgp1 : gp < w1.heap.size := HK1.out.lt
    have hcv := Lib.run_convert_bytes_const (P := Tryd.prog) w1 26 5 #[.int .u8 79, .int .u8 68, .int .u8 1] 3 3 Tryd.underlying26 Tryd.underlying5
    have hN1 : N1 ≤ 12 := by have := HOKP.out.1.1; have := H1.out; have e : p.prg.cls.length = p.cls.length := rfl; omega
    have hN2 : N2 ≤ 12 := by have := HOKP.out.2.1.2; have := H2.out; have e : p.prg.mets.length = p.ms.length := by simp [PV.prg]
                             omega
    have hw1 : IntKind.u64.wrap (N1 : Int) = (N1 : Int) := by rw [IntKind.wrap_u64]; omega
    have hw2 : IntKind.u64.wrap (N2 : Int) = (N2 : Int) := by rw [IntKind.wrap_u64]; omega
    obtain ⟨L0, hL0⟩ : ∃ L, L = preC p.prg 0 := ⟨_, rfl⟩
    have HL0 : Hid (L0 = [79, 68, 1] ++ enc N1) := Lib.hid (by rw [hL0, H1.out]; simp [preC, PV.prg])
    have HL0' := Lib.hid hL0
    clear hL0
    go_wp2_with fail
    refine (put_is' L0 (some ⟨w1.heap.size, 0, none⟩) 3 3 N1 _ [79, 68, 1] _ rfl HL0.out (by exact reads_newF _ _ _ _ 3 _ rfl rfl) (by decide) (u64_low (by omega))).mono ?_
    rintro e w2 ⟨A2, c2, rfl, hown2, hr2, hb2⟩
    have HES0 : Hid (ES w1 (w2.alloc (.cells #[.slice A2 L0.length c2] 26)) w2.heap.size (.slice A2 L0.length c2) L0) := Lib.hid
      ⟨Blk.new _ _ _, own_below (own_base hown2 (by simp)) ((Below.refl _ _).alloc (Nat.le_refl _) _), (((Below.refl w1.heap.size w1).alloc (Nat.le_refl _) _).trans (hb2.mono (by simp))).alloc (by have := hb2.size; simp at this; omega) _, by have := hb2.size; simp at this; omega⟩
    have HK2 : Hid (Blk w2 gp 25 #[.slice p.A N1 p.c, .slice p.B N2 p.d]) := Lib.hid ((HK1.out.alloc _).below hb2 (by simp; omega))
    clear hcv hown2 hr2 hb2 x0
    have x0 : w2.cell? ⟨gp, 0, none⟩ = some (.slice p.A N1 p.c) := (HK2.out).cell 0
    have hgp2 : gp < w2.heap.size := HK2.out.lt
    go_wp2_with fail
    obtain ⟨gb, hgb⟩ : ∃ g, g = w2.heap.size := ⟨_, rfl⟩
    obtain ⟨W0, hW0⟩ : ∃ W, W = w2.alloc (.cells #[.slice A2 L0.length c2] 26) := ⟨_, rfl⟩
    rw [← hW0, ← hgb] at HES0
    rw [← hW0, ← hgb]
    clear hW0 hgb x0 hgp2 HK2
    have hN1c : N1 = p.prg.cls.length := H1.out
    have hN2c : N2 = p.prg.mets.length := by rw [H2.out]; simp [PV.prg]
    have HN1c := Lib.hid hN1c
    have HN2c := Lib.hid hN2c
    clear hN1c hN2c
    go_loopw [29] (fun si wr => ECRel w1 p.prg gb si wr) (fun si _ => N1 - (intOf si).toNat)
    case atStart => exact ⟨0, _, Nat.zero_le _, rfl, by rw [← HL0'.out]; exact HES0.out⟩
    case round =>
      clear HES0
      obtain ⟨k, v, hk, rfl, hes⟩ := hrel
      have HES := Lib.hid hes
      have HBW : Hid (Below w.heap.size w wr) := Lib.hid (HB1.out.trans (hes.bw.mono HB1.out.size))
      clear hes
      by_cases hlt : k < N1
      · as_aux_lemma =>
          have hkN : (k : Int) < (N1 : Int) := by omega
          obtain ⟨c, hck⟩ : ∃ c, p.cls[k]? = some c := ⟨_, List.getElem?_eq_getElem (by have := H1.out; omega)⟩
          have hok := (HOKP.out.1.2 c (List.mem_of_getElem? hck)).1
          obtain ⟨A, u, hA, hAb, hu, hcell⟩ := (HP.out.below HBW.out).cls.at_ (k := k) (by have := H1.out; omega)
          rw [List.getElem?_map, hck] at hu
          obtain rfl : strV c = u := by simpa using hu
          have HCK : Hid (p.prg.cls[k]? = some c) := Lib.hid hck
          rw [hA]
          clear hu hck hA
          unfold strV at hcell
          go_wp2_with fail
          refine (text_any c w1 _ gb v (preC p.prg k) (by first | exact HES.out | exact HES.out.next ((Below.refl _ _).alloc (Nat.le_refl _) _)) (by have := preC_len HOKP.out k; omega) (by omega)).mono ?_
          rintro e w3 ⟨rfl, v', W2, hes2, hw2, hb2⟩
          have HES2 := Lib.hid hes2
          clear hes2 hw2 hb2
          go_wp2
          go_roundw
          case rel => exact ⟨k + 1, v', by have := HN1c.out; omega, by go_num, by rw [preC_succ HCK.out]; exact HES2.out⟩
          case measure => simp [intOf]; omega
      · obtain rfl : k = N1 := by have := HN1c.out; omega
        have t6 : decide ((k : Int) < (k : Int)) = false := by simp
        clear hlt hk
        obtain ⟨L1, hL1⟩ : ∃ L, L = preC p.prg k := ⟨_, rfl⟩
        have hL1l : L1.length ≤ 300 := by rw [hL1]; exact preC_len HOKP.out k
        rw [← hL1] at HES
        have HL1 := Lib.hid hL1
        clear hL1
        obtain ⟨L2, hL2⟩ : ∃ L, L = L1 ++ enc N2 := ⟨_, rfl⟩
        have HL2 := Lib.hid hL2
        have HL2M : Hid (L2 = preM p.prg 0) := Lib.hid (by rw [hL2, HL1.out, HN1c.out, HN2c.out]; simp [preM])
        clear hL2
        obtain ⟨A, c, hv, hr⟩ := own_reads HES.out.own
        subst hv
        have HR := Lib.hid hr
        clear hr
        have b0 : wr.cell? ⟨gb, 0, none⟩ = some (.slice A L1.length c) := HES.out.bb.cell 0
        have x1 : wr.cell? ⟨gp, 1, none⟩ = some (.slice p.B N2 p.d) := (HK1.out.below HES.out.bw HK1.out.lt).cell 1
        obtain ⟨M1, hM1⟩ : ∃ M, M = L1.length := ⟨_, rfl⟩
        rw [← hM1] at b0 HR hL1l HES
        have HM1 := Lib.hid hM1
        clear hM1
        go_wp2_with fail
        refine (put_is' L2 A M1 c N2 _ L1 _ rfl HL2.out HR.out (by omega) (u64_low (by omega))).mono ?_
        rintro e w3 ⟨A3, c3, rfl, hown3, hr3, hb3⟩
        have HES3 := Lib.hid (HES.out.put hown3 hb3)
        have HB3 := Lib.hid hb3
        have hbk3 := HES.out.bb.below hb3 HES.out.bb.lt
        have b3 : w3.cell? ⟨gb, 0, none⟩ = some (.slice A M1 c) := hbk3.cell 0
        have f3 := hbk3.frozen 0
        have g3 : gb < w3.heap.size := hbk3.lt
        have x3 : w3.cell? ⟨gp, 1, none⟩ = some (.slice p.B N2 p.d) := ((HK1.out.below HES.out.bw HK1.out.lt).below hb3 (by have := HK1.out.lt; have := HES.out.bw.size; omega)).cell 1
        have hne : gp ≠ gb := by have := HES.out.hb; have := HK1.out.lt; omega
        clear hown3 hr3 hb3 hbk3 b0 x1
        go_wp2_with fail
        have HESM : Hid (ES w1 (w3.setCell ⟨gb, 0, none⟩ (.slice A3 L2.length c3)) gb (.slice A3 L2.length c3) (preM p.prg 0)) := Lib.hid (by have h := HES3.out; rw [← HL2M.out]; exact h)
        clear b3 f3 g3 x3 HES HR HES3 HBW
        go_loopw [47] (fun si wr => EMRel w1 p.prg gb si wr) (fun si _ => N2 - (intOf si).toNat)
        case atStart => exact ⟨0, _, Nat.zero_le _, rfl, HESM.out⟩
        case round =>
          clear HESM
          obtain ⟨i, v, hi, rfl, hes⟩ := hrel
          have HES := Lib.hid hes
          have HBW : Hid (Below w.heap.size w wr) := Lib.hid (HB1.out.trans (hes.bw.mono HB1.out.size))
          clear hes
          by_cases hlti : i < N2
          · have hiN : (i : Int) < (N2 : Int) := by omega
            obtain ⟨x, hx⟩ : ∃ x, p.ms[i]? = some x := ⟨_, List.getElem?_eq_getElem (by have := H2.out; omega)⟩
            have hpx : p.prg.mets[i]? = some x.m := by simp [PV.prg, hx]
            have HPX := Lib.hid hpx
            have HXM := Lib.hid (List.mem_of_getElem? hx)
            have HOM := Lib.hid (HOKP.out.2.2 x.m (List.mem_of_getElem? hpx))
            obtain ⟨A, hA, hAb, m0, m1, m2, m3⟩ := (HP.out.below HBW.out).ms.four mvC_len hx rfl
            rw [hA]
            clear hx hpx hA
            unfold strV at m0 m1 m2
            obtain ⟨M, hM⟩ : ∃ M, M = x.m.code.length := ⟨_, rfl⟩
            rw [← hM] at m3
            have HMM := Lib.hid hM
            clear hM
            have hpl : x.m.par.length ≤ 12 := HOM.out.1.1.1
            have hll : x.m.loc.length ≤ 12 := by have := HOM.out.1.2.1; omega
            have hLL := preM_len HOKP.out i
            obtain ⟨L, hL⟩ : ∃ L, L = preM p.prg i := ⟨_, rfl⟩
            have HLP := Lib.hid hL
            rw [← hL] at HES hLL
            clear hL
            have HBX : Hid (Blk (wr.alloc (.cells #[.string ⟨x.m.par.toArray⟩, .string ⟨x.m.loc.toArray⟩, .string ⟨x.m.ret.toArray⟩, .slice x.A M x.c] 54)) wr.heap.size 54 #[.string ⟨x.m.par.toArray⟩, .string ⟨x.m.loc.toArray⟩, .string ⟨x.m.ret.toArray⟩, .slice x.A M x.c]) := Lib.hid (Blk.new _ _ _)
            have HESA : Hid (ES w1 (wr.alloc (.cells #[.string ⟨x.m.par.toArray⟩, .string ⟨x.m.loc.toArray⟩, .string ⟨x.m.ret.toArray⟩, .slice x.A M x.c] 54)) gb v L) := Lib.hid (HES.out.next ((Below.refl _ _).alloc (Nat.le_refl _) _))
            obtain ⟨gm, hgm⟩ : ∃ g, g = wr.heap.size := ⟨_, rfl⟩
            have HGM := Lib.hid hgm
            clear hgm
            go_wp2_with fail
            refine (text_any x.m.par w1 _ gb v L (by exact HESA.out) (by omega) (by omega)).mono ?_
            rintro e w4 ⟨rfl, v4, W4, hes4, hw4, hb4⟩
            have HES4 := Lib.hid hes4
            have hl4 : (L ++ encS x.m.par).length ≤ 60100 := by rw [List.length_append]; have := encS_len x.m.par; omega
            have HBX4 : Hid (Blk w4 wr.heap.size 54 #[.string ⟨x.m.par.toArray⟩, .string ⟨x.m.loc.toArray⟩, .string ⟨x.m.ret.toArray⟩, .slice x.A M x.c]) := Lib.hid (by rw [hw4]; exact blk_put HESA.out HBX.out (by decide) hb4)
            rw [← HGM.out] at HBX4 ⊢
            clear hes4 hw4 hb4 m0 m1 m2 m3 HBX HESA
            have q1 : w4.cell? ⟨gm, 1, none⟩ = some (.string ⟨x.m.loc.toArray⟩) := HBX4.out.cell 1
            go_wp2_with fail
            refine (text_any x.m.loc w1 _ gb v4 (L ++ encS x.m.par) (by exact HES4.out) (by omega) (by omega)).mono ?_
            rintro e w5 ⟨rfl, v5, W5, hes5, hw5, hb5⟩
            have HBX5 : Hid (Blk w5 gm 54 #[.string ⟨x.m.par.toArray⟩, .string ⟨x.m.loc.toArray⟩, .string ⟨x.m.ret.toArray⟩, .slice x.A M x.c]) := Lib.hid (by rw [hw5]; exact blk_put HES4.out HBX4.out (by decide) hb5)
            obtain ⟨L5, hL5⟩ : ∃ M, M = L ++ encS x.m.par ++ encS x.m.loc := ⟨_, rfl⟩
            have hl5 : L5.length ≤ 60200 := by rw [hL5, List.length_append]; have := encS_len x.m.loc; omega
            rw [← hL5] at hes5
            have HES5 := Lib.hid hes5
            have HL5 := Lib.hid hL5
            clear hes5 hw5 hb5 hL5 HES HES4 hl4 HBX4 q1
            have q2 : w5.cell? ⟨gm, 2, none⟩ = some (.string ⟨x.m.ret.toArray⟩) := HBX5.out.cell 2
            obtain ⟨q, hq⟩ : ∃ q, q = (⟨x.m.ret.toArray⟩ : ByteArray) := ⟨_, rfl⟩
            have hqr : q.toList = x.m.ret := by rw [hq]; exact toList_mk _
            rw [← hq] at q2
            have HQ := Lib.hid hq
            clear hq
            have hrl : q.size ≤ 1 := by rcases retB_cases HOM.out.2.1 with e | e | e <;> rw [HQ.out, e] <;> decide
            have HQC : Hid (Lib.strCells q = (nats x.m.ret).map bv) := Lib.hid (by rw [HQ.out]; exact strCells_bv _)
            have hM120 : M ≤ 120 := by rw [HMM.out]; exact HOM.out.2.2.1.2
            have hwM : IntKind.u64.wrap (M : Int) = (M : Int) := by rw [IntKind.wrap_u64]; omega
            obtain ⟨A5, c5, hv5, hr5⟩ := own_reads HES5.out.own
            subst hv5
            clear hr5
            obtain ⟨t, ht⟩ : ∃ t : Bool, (x.m.ret == []) = t := ⟨_, rfl⟩
            go_upto_if 61 with fail
            go_cut [] from 48 to 112 (fun wx => RetR w1 gb gm #[.string ⟨x.m.par.toArray⟩, .string ⟨x.m.loc.toArray⟩, .string ⟨x.m.ret.toArray⟩, .slice x.A M x.c] (L5 ++ encR x.m.ret) x.m.ret wx)
            case first =>
              as_aux_lemma =>
                rcases Bool.eq_false_or_eq_true t with rfl | rfl
                · have hre : x.m.ret = [] := by simpa using ht
                  obtain ⟨M5, hM5⟩ : ∃ M, M = L5.length := ⟨_, rfl⟩
                  have b5 : w5.cell? ⟨gb, 0, none⟩ = some (.slice A5 M5 c5) := by rw [hM5]; exact HES5.out.bb.cell 0
                  have o5 : w5.ownsRow w1.heap.size 5 1 (.slice A5 M5 c5) M5 (L5.map bv) := by rw [hM5]; exact HES5.out.own
                  have hs5 : w1.heap.size ≤ w5.heap.size := HES5.out.bw.size
                  have hg5 : gb < w5.heap.size := HES5.out.bb.lt
                  rw [← hM5] at hl5
                  have HM5 := Lib.hid hM5
                  have HRE := Lib.hid hre
                  clear hM5 hre
                  go_wp2_with (at_builtin
                               go_must (refine wpList_append_any _ rfl (.tmp 62) (.tmp 63) _ rfl w1.heap.size 5 i0 _ 1 1 Tryd.underlying26 hi0 hz0 hz1 hz2 rfl (by omega) (.slice A5 M5 c5) M5 (L5.map bv) rfl (own_below o5 ((Below.refl _ _).alloc (Nat.le_refl _) _)) (w5.heap.size + 1) (some ⟨w5.heap.size, 0, none⟩) 1 1 [bv 0] rfl (by exact reads_box _ _ _) (bvs_one [0]) (by unfold maxLen; omega) (by omega) (by simp; omega) ?_)
                               intro v6 w6 hown6 hg6 hat6
                               obtain ⟨A6, c6, hv6, hr6⟩ := own_reads hown6
                               clear hr6 hat6
                               subst hv6
                               have HB6 : Hid (Blk w6 gb 26 #[.slice A5 L5.length c5]) := Lib.hid ((HES5.out.bb.alloc _).grown hg6 (by rw [HM5.out]; exact fun e => own_blk_ne HES5.out.own HES5.out.bb (by decide) e.symm))
                               have hc6 : w6.cell? ⟨gb, 0, none⟩ = some (.slice A5 L5.length c5) := HB6.out.cell 0
                               have hf6 := HB6.out.frozen 0
                               have hl6 : gb < w6.heap.size := HB6.out.lt)
                  have hlen6 : (L5 ++ [0]).length = M5 + 1 := by rw [List.length_append, ← HM5.out]; rfl
                  have hES5 := HES5.out
                  rw [← HM5.out] at hES5
                  have HX0 : Hid (ES w1 (w6.setCell ⟨gb, 0, none⟩ (.slice A6 (M5 + 1) c6)) gb (.slice A6 (M5 + 1) c6) (L5 ++ [0])) := Lib.hid ((hES5.next ((Below.refl _ _).alloc (Nat.le_refl _) _)).app (by rw [hlen6]; simpa using hown6) hg6)
                  have HBXX : Hid (Blk (w6.setCell ⟨gb, 0, none⟩ (.slice A6 (M5 + 1) c6)) gm 54 #[.string ⟨x.m.par.toArray⟩, .string ⟨x.m.loc.toArray⟩, .string ⟨x.m.ret.toArray⟩, .slice x.A M x.c]) := Lib.hid (blk_app (hES5.next ((Below.refl _ _).alloc (Nat.le_refl _) _)) (HBX5.out.alloc _) (by decide) (by decide) hg6)
                  obtain ⟨X, hX⟩ : ∃ X, X = w6.setCell ⟨gb, 0, none⟩ (.slice A6 (M5 + 1) c6) := ⟨_, rfl⟩
                  rw [← hX] at HX0 HBXX ⊢
                  obtain ⟨N6, hN6⟩ : ∃ N, N = M5 + 1 := ⟨_, rfl⟩
                  rw [← hN6] at HX0 hlen6
                  obtain ⟨L6, hL6⟩ : ∃ L, L = L5 ++ [0] := ⟨_, rfl⟩
                  have HLR : Hid (L6 ++ nats x.m.ret = L5 ++ encR x.m.ret) := Lib.hid (by rw [hL6, HRE.out]; simp [nats, encR])
                  rw [← hL6] at HX0 hlen6
                  have HX := HX0
                  have hn6 : N6 ≤ 60201 := by omega
                  have HN6 := Lib.hid hlen6
                  clear hX hN6 hL6 HX0 hlen6 hown6 hg6 HB6 hc6 hf6 hl6 hES5 b5 o5 hs5 hg5 q2 HBX5
                  go_meet
                  case rel => exact ⟨_, _, _, _, HX.out, HN6.out, hn6, HBXX.out, HLR.out⟩
                · have hre : ¬ x.m.ret = [] := by simpa using ht
                  go_wp2_with fail
                  obtain ⟨X, hX⟩ : ∃ X, X = w5 := ⟨_, rfl⟩
                  obtain ⟨N6, hN6⟩ : ∃ N, N = L5.length := ⟨_, rfl⟩
                  obtain ⟨A6, hA6⟩ : ∃ N, N = A5 := ⟨_, rfl⟩
                  obtain ⟨c6, hc6⟩ : ∃ N, N = c5 := ⟨_, rfl⟩
                  obtain ⟨L6, hL6⟩ : ∃ L, L = L5 := ⟨_, rfl⟩
                  have HX : Hid (ES w1 X gb (.slice A6 N6 c6) L6) := Lib.hid (by rw [hX, hN6, hA6, hc6, hL6]; exact HES5.out)
                  have HBXX : Hid (Blk X gm 54 #[.string ⟨x.m.par.toArray⟩, .string ⟨x.m.loc.toArray⟩, .string ⟨x.m.ret.toArray⟩, .slice x.A M x.c]) := Lib.hid (by rw [hX]; exact HBX5.out)
                  have HLR : Hid (L6 ++ nats x.m.ret = L5 ++ encR x.m.ret) := Lib.hid (by rw [hL6]; simp [encR, hre])
                  have hn6 : N6 ≤ 60201 := by omega
                  have HN6 : Hid (L6.length = N6) := Lib.hid (by rw [hL6, hN6])
                  rw [← hX] at q2
                  rw [← hX]
                  clear hX hN6 hA6 hc6 hL6 HES5 HBX5 hre
                  go_meet
                  case rel => exact ⟨_, _, _, _, HX.out, HN6.out, hn6, HBXX.out, HLR.out⟩
            case rest =>
              as_aux_lemma =>
                obtain ⟨A6, N6, c6, L6, hX, hN6, hn6, hbxx, hlr⟩ := hcut
                have HX := Lib.hid hX
                have HN6 := Lib.hid hN6
                have HBXX := Lib.hid hbxx
                have HLR := Lib.hid hlr
                clear hX hN6 hbxx hlr q2 HES5 HBX5
                obtain ⟨X, hXX⟩ : ∃ X, X = wc := ⟨_, rfl⟩
                rw [← hXX] at HX HBXX ⊢
                clear hXX
                have hb6 : X.cell? ⟨gb, 0, none⟩ = some (.slice A6 N6 c6) := HX.out.bb.cell 0
                have hq6 : X.cell? ⟨gm, 2, none⟩ = some (.string q) := (HBXX.out.cell 2).trans (by rw [HQ.out]; rfl)
                have hm6 : X.cell? ⟨gm, 3, none⟩ = some (.slice x.A M x.c) := HBXX.out.cell 3
                have hgbX : gb < X.heap.size := HX.out.bb.lt
                have hgmX : gm < X.heap.size := HBXX.out.lt
                have hXW : w1.heap.size ≤ X.heap.size := HX.out.bw.size
                have HXD : Hid (ES w1 X.drew gb (.slice A6 N6 c6) L6) := Lib.hid (HX.out.next ((Below.refl _ _).drew))
                have HOX : Hid (X.drew.ownsRow w1.heap.size 5 1 (.slice A6 N6 c6) N6 (L6.map bv)) := Lib.hid (by have := HXD.out.own; rw [HN6.out] at this; exact this)
                obtain ⟨L7, hL7⟩ : ∃ L, L = L6 ++ nats x.m.ret := ⟨_, rfl⟩
                obtain ⟨N7, hN7⟩ : ∃ L, L = L7.length := ⟨_, rfl⟩
                have hq7 : N6 + q.size = N7 := by rw [hN7, hL7, List.length_append, HN6.out, HQ.out]; simp [ByteArray.size, nats]
                have HL7 : Hid (L6.map bv ++ Lib.strCells q = L7.map bv) := Lib.hid (by rw [hL7, List.map_append, HQC.out])
                have HN7 := Lib.hid hN7
                have HL7' := Lib.hid hL7
                have hn7 : N7 ≤ 60300 := by omega
                have HQ7 := Lib.hid hq7
                clear hL7 hN7
                obtain ⟨L8, hL8⟩ : ∃ L, L = L7 ++ enc M := ⟨_, rfl⟩
                have HL8 := Lib.hid hL8
                clear hL8
                go_upto_region 19 with fail
                go_cut [] from 48 to 112 (fun wx => ∃ A8 c8, ES w1 wx gb (.slice A8 L8.length c8) L8 ∧ Blk wx gm 54 #[.string ⟨x.m.par.toArray⟩, .string ⟨x.m.loc.toArray⟩, .string ⟨x.m.ret.toArray⟩, .slice x.A M x.c])
                case first =>
                 as_aux_lemma =>
                   go_wp2_with fail
                   go_region_law ((first
                    | (have HRX := HR7.out; go_simp; go_at_call 28; refine (put_is' L8 A7 N7 c7 M _ L7 _ rfl HL8.out HRX (by omega) (u64_low (by omega))).mono ?_; clear HRX; rintro e w8 ⟨A8, c8, rfl, hown8, hr8, hb8⟩; have HF8 := Lib.hid (HXD.out.app_put HO7.out HG7.out hown8 hb8); clear hr8 hown8 hb8; have hc8 : w8.cell? ⟨gb, 0, none⟩ = some (.slice A6 N6 c6) := HF8.out.2.2.cell 0; have hf8 := HF8.out.2.2.frozen 0; have hl8 : gb < w8.heap.size := HF8.out.2.2.lt)
                    | (refine step_append_str _ (by rfl) (.tmp 65) (.tmp 67) _ _ (by rfl) w1.heap.size 5 i0 Tryd.underlying26 Tryd.underlying9 hi0 hz0 hz1 hz2 (.slice A6 N6 c6) N6 (L6.map bv) (by rfl) (by exact HOX.out) q (by rfl) (by unfold maxLen; omega) (by omega) hXW ?_; intro v7 w7 hown7 hg7; rw [HL7.out, HQ7.out] at hown7; obtain ⟨A7, c7, hv7, hr7⟩ := own_reads hown7; subst hv7; have HR7 := Lib.hid hr7; have HO7 := Lib.hid hown7; have HG7 : Hid (X.drew.grownBy w7 (Value.slice A6 N6 c6).ownBlock) := Lib.hid hg7; clear hr7 hown7; have hm7 : w7.cell? ⟨gm, 3, none⟩ = some (.slice x.A M x.c) := ((HBXX.out.drew).grown hg7 (fun e => own_blk_ne HXD.out.own HBXX.out.drew (by decide) e.symm)).cell 3; clear hg7)))
                   all_goals (
                    go_wp2
                    go_meet)
                   all_goals (case rel => exact ⟨_, _, HF8.out.1, HF8.out.2.1 _ _ _ HBXX.out.drew (by decide) (by decide)⟩)
                case rest =>
                 as_aux_lemma =>
                   obtain ⟨A8, c8, hE8, hbx8⟩ := hcut
                   have HL8M : Hid (L8 = L ++ (encS x.m.par ++ (encS x.m.loc ++ (encR x.m.ret ++ enc x.m.code.length)))) := Lib.hid (by rw [HL8.out, HL7'.out, HLR.out, HL5.out, HMM.out]; simp)
                   have hl8 : L8.length ≤ 60400 := by rw [HL8.out, List.length_append, ← HN7.out]; have := enc_len M; omega
                   have HE8 := Lib.hid hE8
                   have HBX8 := Lib.hid hbx8
                   have hm8 : wc.cell? ⟨gm, 3, none⟩ = some (.slice x.A M x.c) := hbx8.cell 3
                   clear hE8 hbx8 HX HN6 HBXX HLR HXD HOX HL7 HN7 HL7' HQ7 hb6 hq6 hm6 hgbX hgmX hXW hq7 hn7 hn6
                   go_wp2_with fail
                   go_loopw [77] (fun si wr => EIRel w1 x.m.code gb gm #[.string ⟨x.m.par.toArray⟩, .string ⟨x.m.loc.toArray⟩, .string ⟨x.m.ret.toArray⟩, .slice x.A M x.c] L8 si wr) (fun si _ => M - (intOf si).toNat)
                   case atStart => exact ⟨0, _, Nat.zero_le _, rfl, by simpa using HE8.out, HBX8.out⟩
                   case round =>
                    clear HE8 HBX8 hm8
                    obtain ⟨j, v, hj, rfl, hes, hbm⟩ := hrel
                    have HBM := Lib.hid hbm
                    have HBWJ : Hid (Below w.heap.size w wr) := Lib.hid (HB1.out.trans (hes.bw.mono HB1.out.size))
                    by_cases hjM : j < M
                    · as_aux_lemma =>
                        have hjM' : (j : Int) < (M : Int) := by omega
                        obtain ⟨y, hy⟩ : ∃ y, x.m.code[j]? = some y := ⟨_, List.getElem?_eq_getElem (by have := HMM.out; omega)⟩
                        have HY := Lib.hid hy
                        have hoky := HOM.out.2.2.2 y (List.mem_of_getElem? hy)
                        obtain ⟨o, ho⟩ := Int.eq_ofNat_of_zero_le (show 0 ≤ y.op by have := hoky.1.1; omega)
                        have ho35 : o ≤ 35 := by have := hoky.1.2; omega
                        have HO := Lib.hid ho
                        have HOKY := Lib.hid hoky
                        obtain ⟨Lj, hLj⟩ : ∃ Lj, Lj = L8 ++ (x.m.code.take j).flatMap encI := ⟨_, rfl⟩
                        have hlj : Lj.length ≤ 64300 := by
                          rw [hLj, List.length_append]
                          have h1 := flat_len encI 31 (x.m.code.take j) (fun z _ => encI_len z)
                          have h2 : (x.m.code.take j).length ≤ 120 := by rw [List.length_take]; omega
                          omega
                        have HLJ := Lib.hid hLj
                        rw [← hLj] at hes
                        obtain ⟨A, c, hv, hr⟩ := own_reads hes.own
                        subst hv
                        obtain ⟨N, hN⟩ : ∃ N, N = Lj.length := ⟨_, rfl⟩
                        rw [← hN] at hes hlj
                        have HN := Lib.hid hN
                        have HES := Lib.hid hes
                        have hrc := (((HP.out.below HBWJ.out).more HBWJ.out.size).code x HXM.out)
                        obtain ⟨C, hC, hCb, n0, n1, n2, n3⟩ := hrc.four insC_len hy rfl
                        rw [ho] at n0
                        have HCA : Hid (x.A = some C) := Lib.hid hC
                        rw [hC]
                        have o5 : wr.ownsRow w1.heap.size 5 1 (.slice A N c) N (Lj.map bv) := by have := hes.own; rw [← hN] at this; exact this
                        have hs5 : w1.heap.size ≤ wr.heap.size := hes.bw.size
                        have b0 : wr.cell? ⟨gb, 0, none⟩ = some (.slice A N c) := hes.bb.cell 0
                        have hgbr : gb < wr.heap.size := hes.bb.lt
                        have hwo : IntKind.u8.wrap (o : Int) = (o : Int) := by rw [IntKind.wrap_u8']; omega
                        have HESA : Hid (ES w1 (wr.alloc (.cells #[.int .i64 (o : Int), .int .i64 y.a, .int .i64 y.b, .int .i64 y.n] 56)) gb (.slice A N c) Lj) := Lib.hid (hes.next ((Below.refl _ _).alloc (Nat.le_refl _) _))
                        have HBI : Hid (Blk (wr.alloc (.cells #[.int .i64 (o : Int), .int .i64 y.a, .int .i64 y.b, .int .i64 y.n] 56)) wr.heap.size 56 #[.int .i64 (o : Int), .int .i64 y.a, .int .i64 y.b, .int .i64 y.n]) := Lib.hid (Blk.new _ _ _)
                        obtain ⟨gi, hgi⟩ : ∃ g, g = wr.heap.size := ⟨_, rfl⟩
                        have HGI := Lib.hid hgi
                        have hne1 : gi ≠ gb := by omega
                        have hne2 : gb ≠ gi := by omega
                        clear hr hes hbm hoky hy hC hCb hrc hLj hN ho hgi
                        go_wp2_with (at_builtin
                                     go_must (refine wpList_append_any ((wr.alloc (.cells #[.int .i64 (o : Int), .int .i64 y.a, .int .i64 y.b, .int .i64 y.n] 56)).alloc (.cells #[.int .u8 (o : Int)] 5)) rfl (.tmp 81) (.tmp 85) _ rfl w1.heap.size 5 i0 _ 1 1 Tryd.underlying26 hi0 hz0 hz1 hz2 rfl (by omega) (.slice A N c) N (Lj.map bv) rfl (own_below (own_below o5 ((Below.refl _ _).alloc (Nat.le_refl _) _)) ((Below.refl _ _).alloc (Nat.le_refl _) _)) _ (some ⟨wr.heap.size + 1, 0, none⟩) 1 1 [bv o] rfl (by exact reads_newA _ _ _ 1 1 _ _ (World.size_alloc _ _) rfl rfl) (bvs_one [o]) (by unfold maxLen; omega) (by omega) (by simp; omega) ?_)
                                     intro v6 w6 hown6 hg6 hat6
                                     obtain ⟨A6, c6, hv6, hr6⟩ := own_reads hown6
                                     clear hr6 hat6
                                     subst hv6
                                     have HB6 : Hid (Blk w6 gb 26 #[.slice A N c]) := Lib.hid ((HESA.out.bb.alloc _).grown hg6 (fun e => own_blk_ne HESA.out.own HESA.out.bb (by decide) e.symm))
                                     have HI6 : Hid (Blk w6 wr.heap.size 56 #[.int .i64 (o : Int), .int .i64 y.a, .int .i64 y.b, .int .i64 y.n]) := Lib.hid ((HBI.out.alloc _).grown hg6 (fun e => own_blk_ne HESA.out.own HBI.out (by decide) e.symm))
                                     have hc6 : w6.cell? ⟨gb, 0, none⟩ = some (.slice A N c) := HB6.out.cell 0
                                     have hf6 := HB6.out.frozen 0
                                     have hl6 : gb < w6.heap.size := HB6.out.lt
                                     have hi6 : w6.cell? ⟨wr.heap.size, 0, none⟩ = some (.int .i64 (o : Int)) := HI6.out.cell 0
                                     have hne3 : wr.heap.size ≠ gb := by omega
                                     have hne4 : gb ≠ wr.heap.size := by omega)
                        have hlen1 : (Lj ++ [o]).length = N + 1 := by rw [List.length_append, ← HN.out]; rfl
                        have HX1 : Hid (ES w1 (w6.setCell ⟨gb, 0, none⟩ (.slice A6 (N + 1) c6)) gb (.slice A6 (N + 1) c6) (Lj ++ [o])) := Lib.hid ((HESA.out.next ((Below.refl _ _).alloc (Nat.le_refl _) _)).app (by rw [hlen1]; simpa using hown6) hg6)
                        have HI1 : Hid (Blk (w6.setCell ⟨gb, 0, none⟩ (.slice A6 (N + 1) c6)) gi 56 #[.int .i64 (o : Int), .int .i64 y.a, .int .i64 y.b, .int .i64 y.n]) := Lib.hid (by rw [HGI.out]; exact blk_app (HESA.out.next ((Below.refl _ _).alloc (Nat.le_refl _) _)) (HBI.out.alloc _) (by decide) (by decide) hg6)
                        have HM1 : Hid (Blk (w6.setCell ⟨gb, 0, none⟩ (.slice A6 (N + 1) c6)) gm 54 #[.string ⟨x.m.par.toArray⟩, .string ⟨x.m.loc.toArray⟩, .string ⟨x.m.ret.toArray⟩, .slice x.A M x.c]) := Lib.hid (blk_app (HESA.out.next ((Below.refl _ _).alloc (Nat.le_refl _) _)) ((HBM.out.alloc _).alloc _) (by decide) (by decide) hg6)
                        rw [← HGI.out]
                        obtain ⟨X1, hX1⟩ : ∃ X, X = w6.setCell ⟨gb, 0, none⟩ (.slice A6 (N + 1) c6) := ⟨_, rfl⟩
                        rw [← hX1] at HX1 HI1 HM1 ⊢
                        obtain ⟨N1', hN1'⟩ : ∃ n, n = N + 1 := ⟨_, rfl⟩
                        rw [← hN1'] at HX1 hlen1
                        have hn1' : N1' ≤ 64301 := by omega
                        have HN1' := Lib.hid hlen1
                        obtain ⟨L1', hL1'⟩ : ∃ L, L = Lj ++ [o] := ⟨_, rfl⟩
                        have HL1' := Lib.hid hL1'
                        rw [← hL1'] at HX1 HN1'
                        have HFIN : Hid (∀ T, encI y = o :: T → L1' ++ T = L8 ++ (x.m.code.take (j + 1)).flatMap encI) := Lib.hid (fun T hT => by
                          rw [HL1'.out, HLJ.out, List.take_add_one, HY.out]
                          simp [hT])
                        have HEY : Hid (encI y = o :: ((if hasA (o : Int) then enc y.a.toNat else []) ++ ((if hasB (o : Int) then enc y.b.toNat else []) ++ (if o = 1 then enc (zig y.n).toNat else [])))) := Lib.hid (by
                          unfold encI
                          rw [HO.out, Int.toNat_natCast]
                          congr 1
                          congr 1
                          congr 1
                          by_cases h1 : o = 1
                          · simp [h1]
                          · have h2 : ¬ (o : Int) = 1 := by omega
                            simp [h1, h2])
                        clear hX1 hN1' hL1' hlen1 hown6 hg6 HB6 HI6 hc6 hf6 hl6 hi6 hne3 hne4 b0 o5 hgbr hs5 n0 n1 n2 n3 HESA HBI
                        have i1 : X1.cell? ⟨gi, 0, none⟩ = some (.int .i64 (o : Int)) := HI1.out.cell 0
                        refine (hasA_any (o : Int) _).mono ?_
                        rintro e wA ⟨rfl, rfl⟩
                        cases hA : hasA (o : Int)
                        · have hB : hasB (o : Int) = false := by
                            cases hB : hasB (o : Int)
                            · rfl
                            · rw [hasBA hB] at hA; cases hA
                          go_wp2_with fail
                          refine (hasB_any (o : Int) _).mono ?_
                          rintro e wB ⟨rfl, rfl⟩
                          rw [hB]
                          by_cases h1 : o = 1
                          · have t1 : ((o : Int) == 1) = true := by simp [h1]
                            have hI64 : I64 y.n := by have := HOKY.out.2.2.2; rw [HO.out, if_pos (by omega)] at this; exact this
                            have hzu := zig_u64 y.n hI64
                            obtain ⟨u, hu⟩ := Int.eq_ofNat_of_zero_le hzu.1
                            have HU : Hid (U64 u) := Lib.hid (by have := hzu.2; rw [hu] at this; simpa using this)
                            have HZU := Lib.hid hu
                            have HT : Hid (L1' ++ enc u = L8 ++ (x.m.code.take (j + 1)).flatMap encI) := Lib.hid (HFIN.out _ (by rw [HEY.out, hA, hB, if_pos h1, hu]; rfl))
                            obtain ⟨L2', hL2'⟩ : ∃ L, L = L1' ++ enc u := ⟨_, rfl⟩
                            have HL2' := Lib.hid hL2'
                            have b1 : X1.cell? ⟨gb, 0, none⟩ = some (.slice A6 N1' c6) := HX1.out.bb.cell 0
                            have i3 : X1.cell? ⟨gi, 3, none⟩ = some (.int .i64 y.n) := HI1.out.cell 3
                            have HXD : Hid (ES w1 X1.drew gb (.slice A6 N1' c6) L1') := Lib.hid (HX1.out.next ((Below.refl _ _).drew))
                            have HR1 : Hid (Reads X1.drew X1.drew.heap.size 1 A6 N1' (L1'.map bv)) := Lib.hid (by have := HXD.out.own; rw [HN1'.out] at this; exact Reads.of_own this)
                            have hgb1 : gb < X1.heap.size := HX1.out.bb.lt
                            have hgi1 : gi < X1.heap.size := HI1.out.lt
                            clear h1 hu hzu hL2' hA hB
                            go_wp2_with fail
                            go_region_law ((first
                              | (go_simp; go_at_call 28; refine (put_is' L2' A6 N1' c6 u _ L1' _ HZU.out HL2'.out HR1.out (by omega) HU.out).mono ?_; rintro e w7 ⟨A7, c7, rfl, hown7, hr7, hb7⟩; have HF7 := Lib.hid (HXD.out.put hown7 hb7); have HBG := Lib.hid (HXD.out.bb.below hb7 HXD.out.bb.lt); have HM7 := Lib.hid (blk_put (v' := .slice A7 L2'.length c7) HXD.out HM1.out.drew (by decide) hb7); clear hr7 hown7 hb7; have hc7 : w7.cell? ⟨gb, 0, none⟩ = some (.slice A6 N1' c6) := HBG.out.cell 0; have hf7 := HBG.out.frozen 0; have hl7 : gb < w7.heap.size := HBG.out.lt)
                              | (go_simp; go_at_call 32; refine (zig_any y.n _).mono ?_; rintro e wz ⟨rfl, rfl⟩)))
                            all_goals (
                              go_wp2
                              go_roundw)
                            all_goals (first | (case rel => exact ⟨j + 1, _, by have := HMM.out; omega, by go_num, by rw [← HT.out, ← HL2'.out]; exact HF7.out, by have h := HM7.out; rw [HCA.out] at h; exact h⟩) | (simp [intOf]; omega))
                          · have t1 : ((o : Int) == 1) = false := by simp; omega
                            have HT : Hid (L1' = L8 ++ (x.m.code.take (j + 1)).flatMap encI) := Lib.hid (by
                              have := HFIN.out [] (by rw [HEY.out, hA, hB, if_neg h1]; rfl)
                              simpa using this)
                            clear hA hB
                            go_wp2
                            go_roundw
                            case rel => exact ⟨j + 1, _, by have := HMM.out; omega, by go_num, by rw [← HT.out]; exact HX1.out, by have h := HM1.out; rw [HCA.out] at h; exact h⟩
                            case measure => simp [intOf]; omega
                        · have h1 : ¬ o = 1 := by
                            intro h1
                            rw [h1] at hA
                            exact absurd hA (by decide)
                          have t1 : ((o : Int) == 1) = false := by simp; omega
                          have HO1 := Lib.hid h1
                          have hya : 0 ≤ y.a ∧ y.a ≤ 1048576 := by have := HOKY.out.2.1; rw [HO.out, if_pos hA] at this; exact this
                          obtain ⟨u, hu⟩ := Int.eq_ofNat_of_zero_le hya.1
                          have hul : u ≤ 1048576 := by omega
                          have HU := Lib.hid hu
                          have hwu : IntKind.u64.wrap y.a = (u : Int) := by rw [IntKind.wrap_u64]; omega
                          obtain ⟨L2', hL2'⟩ : ∃ L, L = L1' ++ enc u := ⟨_, rfl⟩
                          have HL2' := Lib.hid hL2'
                          have hl2 : L2'.length ≤ 64400 := by rw [hL2', List.length_append, HN1'.out]; have := enc_len u; omega
                          have b1 : X1.cell? ⟨gb, 0, none⟩ = some (.slice A6 N1' c6) := HX1.out.bb.cell 0
                          have ia : X1.cell? ⟨gi, 1, none⟩ = some (.int .i64 y.a) := HI1.out.cell 1
                          have HR1 : Hid (Reads X1 X1.heap.size 1 A6 N1' (L1'.map bv)) := Lib.hid (by have := HX1.out.own; rw [HN1'.out] at this; exact Reads.of_own this)
                          clear hu hya hL2' h1
                          go_wp2_with fail
                          refine (put_is' L2' A6 N1' c6 u _ L1' _ rfl HL2'.out HR1.out (by omega) (u64_small hul)).mono ?_
                          rintro e w7 ⟨A7, c7, rfl, hown7, hr7, hb7⟩
                          have HX2 := Lib.hid (HX1.out.put hown7 hb7)
                          have HI2 := Lib.hid (blk_put (v' := .slice A7 L2'.length c7) HX1.out HI1.out (by decide) hb7)
                          have HM2 := Lib.hid (blk_put (v' := .slice A7 L2'.length c7) HX1.out HM1.out (by decide) hb7)
                          have hbg := HX1.out.bb.below hb7 HX1.out.bb.lt
                          have hc7 : w7.cell? ⟨gb, 0, none⟩ = some (.slice A6 N1' c6) := hbg.cell 0
                          have hf7 := hbg.frozen 0
                          have hl7 : gb < w7.heap.size := hbg.lt
                          have hi7 : w7.cell? ⟨gi, 0, none⟩ = some (.int .i64 (o : Int)) := (HI1.out.below hb7 HI1.out.lt).cell 0
                          clear hr7 hown7 hb7 hbg b1 ia i1
                          go_wp2_with fail
                          obtain ⟨X2, hX2⟩ : ∃ X, X = w7.setCell ⟨gb, 0, none⟩ (.slice A7 L2'.length c7) := ⟨_, rfl⟩
                          rw [← hX2] at HX2 HI2 HM2 ⊢
                          clear hX2 hc7 hf7 hl7 hi7
                          have i2 : X2.cell? ⟨gi, 0, none⟩ = some (.int .i64 (o : Int)) := HI2.out.cell 0
                          refine (hasB_any (o : Int) _).mono ?_
                          rintro e wB ⟨rfl, rfl⟩
                          cases hB : hasB (o : Int)
                          · have HT : Hid (L2' = L8 ++ (x.m.code.take (j + 1)).flatMap encI) := Lib.hid (by
                              have := HFIN.out (enc u) (by rw [HEY.out, hA, hB, HU.out]; simp [HO1.out])
                              rw [HL2'.out]
                              exact this)
                            clear hA hB
                            go_wp2
                            go_roundw
                            case rel => exact ⟨j + 1, _, by have := HMM.out; omega, by go_num, by rw [← HT.out]; exact HX2.out, by have h := HM2.out; rw [HCA.out] at h; exact h⟩
                            case measure => simp [intOf]; omega
                          · have hyb : 0 ≤ y.b ∧ y.b ≤ 1048576 := by have := HOKY.out.2.2.1; rw [HO.out, if_pos hB] at this; exact this
                            obtain ⟨u2, hu2⟩ := Int.eq_ofNat_of_zero_le hyb.1
                            have hul2 : u2 ≤ 1048576 := by omega
                            have HU2 := Lib.hid hu2
                            have hwu2 : IntKind.u64.wrap y.b = (u2 : Int) := by rw [IntKind.wrap_u64]; omega
                            obtain ⟨L3', hL3'⟩ : ∃ L, L = L2' ++ enc u2 := ⟨_, rfl⟩
                            have HL3' := Lib.hid hL3'
                            have HT : Hid (L3' = L8 ++ (x.m.code.take (j + 1)).flatMap encI) := Lib.hid (by
                              have := HFIN.out (enc u ++ enc u2) (by rw [HEY.out, hA, hB, HU.out, HU2.out]; simp [HO1.out])
                              rw [HL3'.out, HL2'.out, List.append_assoc]
                              exact this)
                            have b2 : X2.cell? ⟨gb, 0, none⟩ = some (.slice A7 L2'.length c7) := HX2.out.bb.cell 0
                            have ib : X2.cell? ⟨gi, 2, none⟩ = some (.int .i64 y.b) := HI2.out.cell 2
                            have HR2 : Hid (Reads X2 X2.heap.size 1 A7 L2'.length (L2'.map bv)) := Lib.hid (Reads.of_own HX2.out.own)
                            clear hu2 hyb hL3' hA hB
                            go_wp2_with fail
                            refine (put_is' L3' A7 L2'.length c7 u2 _ L2' _ rfl HL3'.out HR2.out (by omega) (u64_small hul2)).mono ?_
                            rintro e w8 ⟨A9, c9, rfl, hown9, hr9, hb9⟩
                            have HX3 := Lib.hid (HX2.out.put hown9 hb9)
                            have HM3 := Lib.hid (blk_put (v' := .slice A9 L3'.length c9) HX2.out HM2.out (by decide) hb9)
                            have hbg := HX2.out.bb.below hb9 HX2.out.bb.lt
                            have hc9 : w8.cell? ⟨gb, 0, none⟩ = some (.slice A7 L2'.length c7) := hbg.cell 0
                            have hf9 := hbg.frozen 0
                            have hl9 : gb < w8.heap.size := hbg.lt
                            have hi9 : w8.cell? ⟨gi, 0, none⟩ = some (.int .i64 (o : Int)) := (HI2.out.below hb9 HI2.out.lt).cell 0
                            clear hr9 hown9 hb9 hbg b2 ib i2
                            go_wp2
                            go_roundw
                            case rel => exact ⟨j + 1, _, by have := HMM.out; omega, by go_num, by rw [← HT.out]; exact HX3.out, by have h := HM3.out; rw [HCA.out] at h; exact h⟩
                            case measure => simp [intOf]; omega
                    · as_aux_lemma =>
                        have HT : Hid (L8 ++ (x.m.code.take j).flatMap encI = preM p.prg (i + 1)) := Lib.hid (by
                          rw [preM_succ HPX.out, HL8M.out, HLP.out, List.take_of_length_le (by have := HMM.out; omega)]
                          simp [encM])
                        have HESX : Hid (ES w1 wr gb v (preM p.prg (i + 1))) := Lib.hid (by rw [← HT.out]; exact hes)
                        have t12 : decide ((j : Int) < (M : Int)) = false := by simp; omega
                        have t13 : decide (j < M) = false := by simp; omega
                        clear hes hbm HT
                        go_wp2
                        go_roundw
                        case rel => exact ⟨i + 1, v, by have := HN2c.out; omega, by go_num, HESX.out⟩
                        case measure => simp [intOf]; omega
          · as_aux_lemma =>
              have hT : preM p.prg i = encP p.prg := by
                have e : i = p.prg.mets.length := by have := HN2c.out; omega
                rw [e, preM_all]
              rw [hT] at HES
              obtain ⟨L, hL⟩ : ∃ L, L = encP p.prg := ⟨_, rfl⟩
              rw [← hL] at HES HEO
              have t12 : decide ((i : Int) < (N2 : Int)) = false := by simp; omega
              have t13 : decide (i < N2) = false := by simp; omega
              obtain ⟨A, c, hv, hr⟩ := own_reads HES.out.own
              subst hv
              obtain ⟨N, hN⟩ : ∃ N, N = L.length := ⟨_, rfl⟩
              rw [← hN] at HES HEO
              have HN := Lib.hid hN
              have b0 : wr.cell? ⟨gb, 0, none⟩ = some (.slice A N c) := HES.out.bb.cell 0
              have HEW := Lib.hid (HE.out.below HBW.out)
              have hbig : 14 ≤ wr.heap.size := by have := HEW.out.big 13 (by decide); have e : gnum 13 = 13 := rfl; omega
              have k0 : wr.cell? ⟨0, 0, none⟩ = some (eV (ad 0)) := HEW.out.cell 0 (by decide)
              have hb0 : 0 < wr.heap.size := by omega
              have hgb0 : gb < wr.heap.size := HES.out.bb.lt
              unfold eV at k0
              have HOW : Hid (wr.ownsRow w.heap.size 5 1 (.slice A N c) N (L.map bv)) := Lib.hid (by have := HES.out.own; rw [← hN] at this; exact own_base this HB1.out.size)
              clear hT hL hr hN
              by_cases hn : 16384 < N
              · have t1 : decide ((16384 : Int) < (N : Int)) = true := by simp; omega
                have HR : Hid (encO p.prg = (none, some (0, []))) := Lib.hid (by rw [HEO.out, if_pos hn])
                go_wp2_with fail
                go_region
                all_goals (
                  go_wp2
                  go_ret2
                  rw [HR.out]
                  refine ⟨?_, .inr ⟨(0, []), _, rfl, by rfl, rfl⟩⟩
                  repeat' (first | exact HBW.out | apply Below.drew))
              · have t1 : decide ((16384 : Int) < (N : Int)) = false := by simp; omega
                have HR : Hid (encO p.prg = (some L, none)) := Lib.hid (by rw [HEO.out, if_neg hn])
                go_wp2_with fail
                go_ret2
                rw [HR.out]
                exact ⟨HBW.out, .inl ⟨L, A, c, rfl, by rw [← HN.out]; rfl, by rw [← HN.out]; exact HOW.out⟩⟩
end Go.Proofs.YtnojejplckhifaaDoor
