/- Several texts in one (merged by merge.py): Sents, Refs, Ev, See, SameI, Fault, SameF, SameE. -/
import Derived.Test.YtnojejplckhifaaDoorRows
import Derived.Test.YtnojejplckhifaaDoorPB
import Derived.LaidLaws
import Derived.LaidEql
import Derived.KernelRfl
import Derived.WalkKit
import Derived.Outline
import Derived.Lib.Hide
import Derived.Deep.QuietTactic
import Derived.BigQuiet

/- What a row's list of sentinel errors gives a walk: each variable holds a pointer to a block of its own, and no two are the same. -/
namespace Go.Proofs.YtnojejplckhifaaDoor
open Go.RowKit Go.ChangeShapes Go.WideShapes

def errData (t : List UInt8) : DataW Unit := .iface "*errors.errorString" (.ptr (.agg [.lit (.string t)]))
theorem starErr : "*" ++ "errors.errorString" = "*errors.errorString" := by decide
theorem errRow (u : TypeId) (h : Tryd.prog.typeName? 3 u = some "*errors.errorString") : u = 147 :=
  typeName_ptr_named (nm := "errors.errorString") (by rw [starErr]; kernel_rfl) (by kernel_rfl) (by decide) u (by rw [starErr]; exact h)
theorem cellsErr : Tryd.prog.cellsOf 165 = 1 := by kernel_rfl
theorem cellsStr : Tryd.prog.cellsOf 9 = 1 := by kernel_rfl

/-- the variable in block g holds the sentinel at address a, which lies in a block that is not frozen -/
def SentAt (w : World) (g : Nat) (a : Addr) : Prop :=
  w.cell? ⟨g, 0, none⟩ = some (.iface 147 (.pointer (some a))) ∧ (∃ c t, w.heap[a.block]? = some (.cells c t (0, 0))) ∧ ∃ s, w.cell? a = some (.string s)

set_option maxRecDepth 100000 in
theorem sents_app {W : World} (r : List (String × DataW Unit)) : ∀ (l : List (String × List UInt8)) (ps : List MemPlace), DataW.LaidVars Tryd.prog W ((l.map fun x => (x.1, errData x.2)) ++ r) ps → ps.Nodup →
    (∀ b off, MemPlace.cell b off ∈ ps → (∃ c t, W.heap[b]? = some (.cells c t (0, 0))) ∧ ∀ u v, W.cell? ⟨b, off, none⟩ = some (.iface u v) → Value.okWide Tryd.prog W .any 0 u v) →
    (∀ x ∈ l, ∀ g, Tryd.prog.globalNamed x.1 = some g → (Tryd.prog.globals[g]?).map (·.type) = some 30) →
    ∃ ads : List Addr, ads.length = l.length ∧ (∀ a ∈ ads, MemPlace.cell a.block a.off ∈ ps) ∧ ads.Nodup ∧
      ∀ (i : Nat) x a g, l[i]? = some x → ads[i]? = some a → Tryd.prog.globalNamed x.1 = some g → SentAt W g a
  | [], _, _, _, _, _ => ⟨[], rfl, by simp, by simp, by simp⟩
  | x :: l, ps, h, hnd, hrows, hty => by
    obtain ⟨g, t, cs, fuel, p, q, hg, ht, hv, hd, hq, e⟩ := h
    obtain rfl := Option.some.inj ((hty x (by simp) g hg).symm.trans ht)
    subst e
    have hnd2 := List.nodup_append.1 hnd
    obtain ⟨ads, hlen, hin, hasn, hat⟩ := sents_app r l q hq hnd2.2.1 (fun b off hb => hrows b off (List.mem_append_right _ hb)) (fun y hy => hty y (by simp [hy]))
    obtain ⟨cl⟩ := cs
    have ok : ∀ u v, cl = [.iface u v] → Value.okWide Tryd.prog W .any 0 u v := fun u v e => by
      subst e
      exact (hrows g 0 (by simp [MemPlace.row])).2 u v (by simpa using World.var?_cell hg hv 0)
    obtain ⟨a, s, hcl, hc, _, _, hp⟩ := errorString_of_trod Tryd.underlying30 errRow Tryd.underlying147 Tryd.underlying165 rfl rfl Tryd.underlying9 cellsErr cellsStr hd ok
    have hcl' : cl = [.iface 147 (.pointer (some a))] := hcl
    subst hcl'
    subst hp
    refine ⟨a :: ads, by simp [hlen], ?_, ?_, ?_⟩
    · intro b hb
      rcases List.mem_cons.1 hb with rfl | hb
      · simp [MemPlace.row]
      · exact List.mem_append_right _ (hin b hb)
    · refine List.nodup_cons.2 ⟨fun hm => ?_, hasn⟩
      exact hnd2.2.2 _ (by simp [MemPlace.row]) _ (hin a hm) rfl
    · intro i y b g' hi hb hg'
      rcases i with _ | i
      · simp at hi hb
        subst hi hb
        obtain rfl := Option.some.inj (hg.symm.trans hg')
        exact ⟨by simpa using World.var?_cell hg hv 0, (hrows a.block a.off (by simp [MemPlace.row])).1, s, hc⟩
      · exact hat i y b g' (by simpa using hi) (by simpa using hb) hg'
theorem sents_aux {W : World} (l : List (String × List UInt8)) (ps : List MemPlace) (h : DataW.LaidVars Tryd.prog W (l.map fun x => (x.1, errData x.2)) ps) (hn : ps.Nodup)
    (hr : ∀ b off, MemPlace.cell b off ∈ ps → (∃ c t, W.heap[b]? = some (.cells c t (0, 0))) ∧ ∀ u v, W.cell? ⟨b, off, none⟩ = some (.iface u v) → Value.okWide Tryd.prog W .any 0 u v)
    (ht : ∀ x ∈ l, ∀ g, Tryd.prog.globalNamed x.1 = some g → (Tryd.prog.globals[g]?).map (·.type) = some 30) :
    ∃ ads : List Addr, ads.length = l.length ∧ (∀ a ∈ ads, MemPlace.cell a.block a.off ∈ ps) ∧ ads.Nodup ∧
      ∀ (i : Nat) x a g, l[i]? = some x → ads[i]? = some a → Tryd.prog.globalNamed x.1 = some g → SentAt W g a :=
  sents_app [] l ps (by simpa using h) hn hr ht
end Go.Proofs.YtnojejplckhifaaDoor

/- The contracts of overdriveref.None, Bare, Placed: faults as plain data. -/
namespace Go.Proofs.YtnojejplckhifaaDoor
open Go.RowKit
set_option linter.unusedVariables false

/-- a fault: its number, its places' slice -/
def fV (code : Int) (s : Value) : Value := .agg #[.int .i64 code, s]
def FPost (w : World) (v : Value) (e : Ending) (w' : World) : Prop := e = .returned v ∧ Below w.heap.size w w'
theorem none_any (w : World) : Calls Tryd.prog 37 #[] w (FPost w (fV 0 (.slice none 0 0))) := by
  go_enter Tryd.func37, Tryd.ntmps37
  go_wp2
  exact bodyPost_ret (v := fV 0 (.slice none 0 0)) (by simp [results, Tryd.results37, go_sem, fV]) rfl ⟨rfl, (Below.refl _ _).alloc (Nat.le_refl _) _⟩
theorem bare_any (c : Int) (w : World) : Calls Tryd.prog 33 #[.int .i64 c] w (FPost w (fV c (.slice none 0 0))) := by
  go_enter Tryd.func33, Tryd.ntmps33
  go_wp2
  exact bodyPost_ret (v := fV c (.slice none 0 0)) (by simp [results, Tryd.results33, go_sem, fV]) rfl ⟨rfl, (Below.refl _ _).alloc (Nat.le_refl _) _⟩
/-- a fault with one place -/
def PlPost (w : World) (c p : Int) (e : Ending) (w' : World) : Prop :=
  ∃ b, e = .returned (fV c (.slice (some ⟨b, 0, none⟩) 1 1)) ∧ w.heap.size ≤ b ∧ Blk w' b 3 #[.int .i64 p] ∧ Below w.heap.size w w'
theorem placed_any (c p : Int) (w : World) (h : (c == 0) = false) : Calls Tryd.prog 22 #[.int .i64 c, .int .i64 p] w (PlPost w c p) := by
  go_enter Tryd.func22, Tryd.ntmps22
  go_wp2
  refine bodyPost_ret (v := fV c (.slice (some ⟨w.heap.size + 1, 0, none⟩) 1 1)) (by simp [results, Tryd.results22, go_sem, fV]) rfl ⟨w.heap.size + 1, rfl, by omega, ?_, ((Below.refl _ _).alloc (Nat.le_refl _) _).alloc (by simp) _⟩
  have := Blk.new (w.alloc (Obj.cells #[Value.int IntKind.i64 c, Value.slice (some { block := w.heap.size + 1, off := 0 }) 1 1] 35)) 3 #[Value.int IntKind.i64 p]
  simpa using this
end Go.Proofs.YtnojejplckhifaaDoor

/- A sentinel error as a value. -/
namespace Go.Proofs.YtnojejplckhifaaDoor
open Go.RowKit
def eV (a : Addr) : Value := .iface 147 (.pointer (some a))
end Go.Proofs.YtnojejplckhifaaDoor

/- The contracts of overdrivesee.Alike, sentinels, sentinel: which of the document's errors one is. -/
namespace Go.Proofs.YtnojejplckhifaaDoor
open Go.RowKit
set_option linter.unusedVariables false

/-- the variables, in the order of the errors' numbers -/
def gnum (i : Nat) : Nat := [0, 2, 5, 4, 6, 3, 1, 7, 8, 9, 10, 11, 12, 13].getD i 0
structure Errs (w : World) (ad : Nat → Addr) : Prop where
  cell : ∀ i, i < 14 → w.cell? ⟨gnum i, 0, none⟩ = some (eV (ad i))
  inj : ∀ i j, i < 14 → j < 14 → ad i = ad j → i = j
  blk : ∀ i, i < 14 → ∃ c t, w.heap[(ad i).block]? = some (.cells c t (0, 0))
  big : ∀ i, i < 14 → gnum i < w.heap.size
theorem Errs.below {w w' : World} {ad : Nat → Addr} (h : Errs w ad) (hb : Below w.heap.size w w') : Errs w' ad where
  cell i hi := (hb.cell (p := ⟨gnum i, 0, none⟩) (by have := h.big i hi; simp; omega)).trans (h.cell i hi)
  inj := h.inj
  blk i hi := by
    obtain ⟨c, t, hc⟩ := h.blk i hi
    refine ⟨c, t, (hb.block _ ?_).trans hc⟩
    rcases Nat.lt_or_ge (ad i).block w.heap.size with h' | h'
    · exact h'
    · rw [Array.getElem?_eq_none h'] at hc; cases hc
  big i hi := Nat.lt_of_lt_of_le (h.big i hi) hb.size

theorem ptrInfo : (Tryd.prog.info? 147).map (·.comparable) = some true := by kernel_rfl
theorem errInfo : (Tryd.prog.info? 165).map (·.size) = some 1 := by kernel_rfl
theorem alike_same (a : Addr) (w : World) : Calls Tryd.prog 81 #[eV a, eV a] w fun e w' => e = .returned (.bool true) ∧ w = w' := by
  obtain ⟨i, hi, hc⟩ := Option.map_eq_some_iff.1 ptrInfo
  obtain ⟨j, hj, hs⟩ := Option.map_eq_some_iff.1 errInfo
  have he := run_eql_iface_ptr_same (P := Tryd.prog) w a Tryd.underlying30 Tryd.underlying147 hi hc hj
  clear hi hc hj hs
  unfold eV
  go_enter Tryd.func81, Tryd.ntmps81
  go_wp2
  go_ret
  exact ⟨rfl, rfl⟩
theorem alike_other (a b : Addr) (w : World) (hne : a ≠ b) (ha : ∃ c t, w.heap[a.block]? = some (.cells c t (0, 0))) (hb : ∃ c t, w.heap[b.block]? = some (.cells c t (0, 0))) :
    Calls Tryd.prog 81 #[eV a, eV b] w fun e w' => e = .returned (.bool false) ∧ w = w' := by
  obtain ⟨i, hi, hc⟩ := Option.map_eq_some_iff.1 ptrInfo
  obtain ⟨j, hj, hs⟩ := Option.map_eq_some_iff.1 errInfo
  obtain ⟨ca, ta, ha⟩ := ha
  obtain ⟨cb, tb, hb⟩ := hb
  have he := run_eql_iface_ptr_other (P := Tryd.prog) w Tryd.underlying30 Tryd.underlying147 hi hc hj (by omega) hne ha hb
  clear hi hc hj hs ha hb hne
  unfold eV
  go_enter Tryd.func81, Tryd.ntmps81
  go_wp2
  go_ret
  exact ⟨rfl, rfl⟩
def sentL (ad : Nat → Addr) : List Value := [eV (ad 0), eV (ad 1), eV (ad 2), eV (ad 3), eV (ad 4), eV (ad 5), eV (ad 6), eV (ad 7), eV (ad 8), eV (ad 9), eV (ad 10), eV (ad 11), eV (ad 12), eV (ad 13)]
theorem sentL_at (ad : Nat → Addr) : ∀ i : Nat, i < 14 → (sentL ad)[i]? = some (eV (ad i))
  | 0, _ => rfl
  | 1, _ => rfl
  | 2, _ => rfl
  | 3, _ => rfl
  | 4, _ => rfl
  | 5, _ => rfl
  | 6, _ => rfl
  | 7, _ => rfl
  | 8, _ => rfl
  | 9, _ => rfl
  | 10, _ => rfl
  | 11, _ => rfl
  | 12, _ => rfl
  | 13, _ => rfl
  | n + 14, h => by omega
def SentsPost (w : World) (ad : Nat → Addr) (e : Ending) (w' : World) : Prop :=
  ∃ A c, e = .returned (.slice A 14 c) ∧ Reads w' w'.heap.size 1 A 14 (sentL ad) ∧ Below w.heap.size w w'
set_option maxRecDepth 100000 in
set_option maxHeartbeats 400000 in
theorem sentinels_any (ad : Nat → Addr) (w : World) (h : Errs w ad) : Calls Tryd.prog 80 #[] w (SentsPost w ad) := by
  have c0 : w.cell? ⟨0, 0, none⟩ = some (.iface 147 (.pointer (some (ad 0)))) := h.cell 0 (by omega)
  have c1 : w.cell? ⟨2, 0, none⟩ = some (.iface 147 (.pointer (some (ad 1)))) := h.cell 1 (by omega)
  have c2 : w.cell? ⟨5, 0, none⟩ = some (.iface 147 (.pointer (some (ad 2)))) := h.cell 2 (by omega)
  have c3 : w.cell? ⟨4, 0, none⟩ = some (.iface 147 (.pointer (some (ad 3)))) := h.cell 3 (by omega)
  have c4 : w.cell? ⟨6, 0, none⟩ = some (.iface 147 (.pointer (some (ad 4)))) := h.cell 4 (by omega)
  have c5 : w.cell? ⟨3, 0, none⟩ = some (.iface 147 (.pointer (some (ad 5)))) := h.cell 5 (by omega)
  have c6 : w.cell? ⟨1, 0, none⟩ = some (.iface 147 (.pointer (some (ad 6)))) := h.cell 6 (by omega)
  have c7 : w.cell? ⟨7, 0, none⟩ = some (.iface 147 (.pointer (some (ad 7)))) := h.cell 7 (by omega)
  have c8 : w.cell? ⟨8, 0, none⟩ = some (.iface 147 (.pointer (some (ad 8)))) := h.cell 8 (by omega)
  have c9 : w.cell? ⟨9, 0, none⟩ = some (.iface 147 (.pointer (some (ad 9)))) := h.cell 9 (by omega)
  have c10 : w.cell? ⟨10, 0, none⟩ = some (.iface 147 (.pointer (some (ad 10)))) := h.cell 10 (by omega)
  have c11 : w.cell? ⟨11, 0, none⟩ = some (.iface 147 (.pointer (some (ad 11)))) := h.cell 11 (by omega)
  have c12 : w.cell? ⟨12, 0, none⟩ = some (.iface 147 (.pointer (some (ad 12)))) := h.cell 12 (by omega)
  have c13 : w.cell? ⟨13, 0, none⟩ = some (.iface 147 (.pointer (some (ad 13)))) := h.cell 13 (by omega)
  have HB := Lib.hid h.big
  clear h
  go_enter Tryd.func80, Tryd.ntmps80
  go_wp2
  go_ret
  refine ⟨some ⟨w.heap.size, 0, none⟩, 14, rfl, ?_, (Below.refl _ _).alloc (Nat.le_refl _) _⟩
  exact reads_new w 30 _ 14 (sentL ad) rfl rfl
def SentRel (w : World) (k : Nat) (si : Value) (wr : World) : Prop := ∃ i : Nat, i ≤ k ∧ si = .int .i64 (i : Int) ∧ Below w.heap.size w wr
def IntPost (w : World) (n : Int) (e : Ending) (w' : World) : Prop := e = .returned (.int .i64 n) ∧ Below w.heap.size w w'
set_option maxRecDepth 100000 in
set_option maxHeartbeats 400000 in
theorem sentinel_any (ad : Nat → Addr) (k : Nat) (hk : k < 14) (w : World) (h : Errs w ad) : Calls Tryd.prog 70 #[eV (ad k)] w (IntPost w (101 + k)) := by
  have HE := Lib.hid h
  clear h
  go_enter Tryd.func70, Tryd.ntmps70
  go_wp2_with fail
  refine (sentinels_any ad _ HE.out).mono ?_
  rintro e w1 ⟨A, c, rfl, hr, hb⟩
  have HR := Lib.hid hr
  clear hr
  go_wp2_with fail
  go_loop [4] (fun si => ∃ i : Nat, i ≤ k ∧ si = .int .i64 (i : Int)) (fun si => k - (intOf si).toNat)
  case atStart => exact ⟨0, Nat.zero_le _, rfl⟩
  case round =>
    obtain ⟨i, hik, rfl⟩ := hrel
    obtain ⟨p, v, rfl, hp, hv, hcell⟩ := HR.out.at_ (k := i) (by omega)
    rw [sentL_at ad i (by omega)] at hv
    obtain rfl := Option.some.inj hv
    clear hv
    have hi14 : i < 14 := by omega
    by_cases hlt : i < k
    · go_wp2_with fail
      refine (alike_other _ _ _ ?_ ((HE.out.below hb).blk k hk) ((HE.out.below hb).blk i (by omega))).mono ?_
      · intro e; have := HE.out.inj k i hk (by omega) e; omega
      rintro e w2 ⟨rfl, rfl⟩
      go_wp2
      exact ⟨⟨i + 1, by omega, by go_num⟩, by simp [intOf]; omega⟩
    · have hki : i = k := by omega
      subst hki
      go_wp2_with fail
      refine (alike_same _ _).mono ?_
      rintro e w2 ⟨rfl, rfl⟩
      go_wp2
      go_ret
      exact ⟨rfl, hb⟩
end Go.Proofs.YtnojejplckhifaaDoor

/- The contract of overdriveref.SameInts: whether two slices of ints hold the same. -/
namespace Go.Proofs.YtnojejplckhifaaDoor
open Go.RowKit
set_option linter.unusedVariables false

def sameI (l l' : List Int) : Bool := decide (l = l')
def SameIRel (w : World) (l l' : List Int) (si : Value) (wr : World) : Prop :=
  ∃ k : Nat, k ≤ l.length ∧ si = .int .i64 (k : Int) ∧ l.take k = l'.take k ∧ Below w.heap.size w wr
def SameIPost (w : World) (b : Bool) (e : Ending) (w' : World) : Prop := e = .returned (.bool b) ∧ Below w.heap.size w w'

set_option maxRecDepth 100000 in
theorem sameI_any (A B : Option Addr) (n m c d : Nat) (l l' : List Int) (w : World) (ha : Reads w w.heap.size 1 A n (l.map (Value.int .i64))) (hb : Reads w w.heap.size 1 B m (l'.map (Value.int .i64)))
    (hn : n ≤ 1099511627776) :
    Calls Tryd.prog 62 #[.slice A n c, .slice B m d] w (SameIPost w (sameI l l')) := by
  have hl : l.length = n := by have := ha.1; simpa using this
  have hl' : l'.length = m := by have := hb.1; simpa using this
  by_cases hnm : n = m
  · subst hnm
    have HL := Lib.hid hl
    have HL' := Lib.hid hl'
    clear hl hl'
    go_enter Tryd.func62, Tryd.ntmps62
    go_wp2
    go_loopw [5] (fun si wr => SameIRel w l l' si wr) (fun si _ => n - (intOf si).toNat)
    case atStart => exact ⟨0, Nat.zero_le _, rfl, rfl, Below.refl _ _⟩
    case round =>
      obtain ⟨k, hk, rfl, htake, hbr⟩ := hrel
      have HT := Lib.hid htake
      clear htake
      by_cases hlt : k < n
      · obtain ⟨ad, v, rfl, had, hv, hcell⟩ := (ha.below hbr).at_ hlt
        obtain ⟨bd, v', rfl, hbd, hv', hcell'⟩ := (hb.below hbr).at_ hlt
        have hk1 : k < l.length := by have := HL.out; omega
        have hk2 : k < l'.length := by have := HL'.out; omega
        obtain ⟨x, hx⟩ : ∃ x, x = l[k] := ⟨_, rfl⟩
        obtain ⟨y, hy⟩ : ∃ y, y = l'[k] := ⟨_, rfl⟩
        have hvx : v = .int .i64 x := by
          rw [List.getElem?_map, List.getElem?_eq_getElem hk1, ← hx] at hv
          simpa using hv.symm
        have hvy : v' = .int .i64 y := by
          rw [List.getElem?_map, List.getElem?_eq_getElem hk2, ← hy] at hv'
          simpa using hv'.symm
        subst hvx hvy
        have HX := Lib.hid hx
        have HY := Lib.hid hy
        clear hv hv' hx hy
        have k0 : (0 : Int) ≤ k := by omega
        have kn : (k : Int) < n := by omega
        by_cases hxy : x = y
        · subst hxy
          go_wp2
          go_quiet (fail)
          go_wp2
          refine ⟨⟨k + 1, by omega, by go_num, ?_, below_drewN hbr nq⟩, by simp [intOf]; omega⟩
          rw [List.take_succ_eq_append_getElem hk1, List.take_succ_eq_append_getElem hk2, HT.out, ← HX.out, ← HY.out]
        · have hxy' : (x == y) = false := beq_eq_false_iff_ne.2 hxy
          go_wp2
          go_quiet (fail)
          go_wp2
          go_ret
          refine ⟨?_, below_drewN hbr nq⟩
          have : sameI l l' = false := by
            simp only [sameI, decide_eq_false_iff_not]
            intro e
            apply hxy
            rw [HX.out, HY.out]
            subst e
            rfl
          rw [this]
          rfl
      · go_wp2
        go_ret
        refine ⟨?_, hbr⟩
        have : sameI l l' = true := by
          simp only [sameI, decide_eq_true_eq]
          have h := HT.out
          rwa [List.take_of_length_le (by have := HL.out; omega), List.take_of_length_le (by have := HL'.out; omega)] at h
        rw [this]
        rfl
  · have hnm' : ((n : Int) == (m : Int)) = false := beq_eq_false_iff_ne.2 (by omega)
    have hnm2 : ((n : Int) != (m : Int)) = true := by rw [bne_iff_ne]; omega
    have HD : Hid (sameI l l' = false) := Lib.hid (by
      simp only [sameI, decide_eq_false_iff_not]
      intro e
      apply hnm
      rw [← hl, ← hl', e])
    clear hl hl' hnm
    go_enter Tryd.func62, Tryd.ntmps62
    go_wp2
    go_ret
    rw [HD.out]
    exact ⟨rfl, Below.refl _ _⟩
end Go.Proofs.YtnojejplckhifaaDoor

/- The contracts of overdrivesee.fault, Fault, Same, Is and overdriveref.SameFault. -/
namespace Go.Proofs.YtnojejplckhifaaDoor
open Go.RowKit
set_option linter.unusedVariables false

theorem as_no_at (v : Value) (w : World) : (Instr.typeAssert (.iface 147 v) 30 104 true).run Tryd.prog w = .ok (.tuple #[.pointer none, .bool false]) w := by kernel_rfl
theorem as_no_where (v : Value) (w : World) : (Instr.typeAssert (.iface 147 v) 30 96 true).run Tryd.prog w = .ok (.tuple #[.pointer none, .bool false]) w := by kernel_rfl
theorem as_at (v : Value) (w : World) : (Instr.typeAssert (.iface 104 v) 30 104 true).run Tryd.prog w = .ok (.tuple #[v, .bool true]) w := by kernel_rfl
set_option maxRecDepth 100000 in
set_option maxHeartbeats 400000 in
theorem fault_leaf (ad : Nat → Addr) (k : Nat) (hk : k < 14) (left : Int) (hl : (left == 0) = false) (w : World) (h : Errs w ad) :
    Calls Tryd.prog 56 #[.iface 147 (.pointer (some (ad k))), .int .i64 left] w (FPost w (fV (101 + k) (.slice none 0 0))) := by
  have HE := Lib.hid h
  clear h
  go_enter Tryd.func56, Tryd.ntmps56
  have n1 := as_no_at
  have n2 := as_no_where
  go_wp2_with fail
  refine (sentinel_any ad k hk _ (HE.out.below ((Below.refl _ _).alloc (Nat.le_refl _) _))).mono ?_
  rintro e w1 ⟨rfl, hb1⟩
  go_wp2_with fail
  refine (bare_any _ _).mono ?_
  rintro e w2 ⟨rfl, hb2⟩
  unfold fV
  have hb12 := hb1.trans (hb2.mono hb1.size)
  have c4 : w2.cell? ⟨w.heap.size, 0, none⟩ = some (.int .i64 0) := (hb12.cell (p := ⟨w.heap.size, 0, none⟩) (by simp)).trans ((Blk.new w _ _).cell 0)
  have c5 : w2.cell? ⟨w.heap.size, 1, none⟩ = some (.slice none 0 0) := (hb12.cell (p := ⟨w.heap.size, 1, none⟩) (by simp)).trans ((Blk.new w _ _).cell 1)
  have f4 : w2.frozen? ⟨w.heap.size, 0, none⟩ = false := (hb12.frozen (p := ⟨w.heap.size, 0, none⟩) (by simp)).trans ((Blk.new w _ _).frozen 0)
  have f5 : w2.frozen? ⟨w.heap.size, 1, none⟩ = false := (hb12.frozen (p := ⟨w.heap.size, 1, none⟩) (by simp)).trans ((Blk.new w _ _).frozen 1)
  go_wp2
  have hbw : Below w.heap.size w w2 := ((Below.refl _ _).alloc (Nat.le_refl _) _).trans (hb12.mono (by simp))
  refine bodyPost_ret (v := fV (101 + k) (.slice none 0 0)) ?_ rfl ⟨rfl, (hbw.setCell (p := ⟨w.heap.size, 0, none⟩) (Nat.le_refl _) _).setCell (p := ⟨w.heap.size, 1, none⟩) (Nat.le_refl _) _⟩
  simp [results, Tryd.results56, go_sem, fV, c4, c5]
set_option maxRecDepth 100000 in
set_option maxHeartbeats 400000 in
theorem fault_at (ad : Nat → Addr) (k : Nat) (hk : k < 14) (b : Nat) (pos : Int) (w : World) (h : Errs w ad) (hblk : Blk w b 106 #[.int .i64 pos, .iface 147 (.pointer (some (ad k)))]) :
    Calls Tryd.prog 56 #[.iface 104 (.pointer (some ⟨b, 0, none⟩)), .int .i64 9] w (PlPost w (101 + k) pos) := by
  have HE := Lib.hid h
  have HBK := Lib.hid hblk
  have hlt := hblk.lt
  clear h hblk
  have n1 := as_at
  have q0 : (w.alloc (Obj.cells #[Value.int IntKind.i64 0, Value.slice none 0 0] 35)).cell? ⟨b, 0, none⟩ = some (.int .i64 pos) := (HBK.out.alloc _).cell 0
  have q1 : (w.alloc (Obj.cells #[Value.int IntKind.i64 0, Value.slice none 0 0] 35)).cell? ⟨b, 1, none⟩ = some (.iface 147 (.pointer (some (ad k)))) := (HBK.out.alloc _).cell 1
  go_enter Tryd.func56, Tryd.ntmps56
  go_wp2_with fail
  refine (fault_leaf ad k hk _ (by decide) _ (HE.out.below ((Below.refl _ _).alloc (Nat.le_refl _) _))).mono ?_
  rintro e w1 ⟨rfl, hb1⟩
  unfold fV
  go_wp2_with fail
  have hbw : Below w.heap.size w w1 := ((Below.refl _ _).alloc (Nat.le_refl _) _).trans (hb1.mono (by simp))
  have hsz : w.heap.size + 1 ≤ w1.heap.size := by have := hb1.size; simpa using this
  have p0 : w1.cell? ⟨b, 0, none⟩ = some (.int .i64 pos) := (hbw.cell (p := ⟨b, 0, none⟩) hlt).trans (HBK.out.cell 0)
  have c4 : w1.cell? ⟨w.heap.size, 0, none⟩ = some (.int .i64 0) := (hb1.cell (p := ⟨w.heap.size, 0, none⟩) (by simp)).trans ((Blk.new w _ _).cell 0)
  have c5 : w1.cell? ⟨w.heap.size, 1, none⟩ = some (.slice none 0 0) := (hb1.cell (p := ⟨w.heap.size, 1, none⟩) (by simp)).trans ((Blk.new w _ _).cell 1)
  have f4 : w1.frozen? ⟨w.heap.size, 0, none⟩ = false := (hb1.frozen (p := ⟨w.heap.size, 0, none⟩) (by simp)).trans ((Blk.new w _ _).frozen 0)
  have f5 : w1.frozen? ⟨w.heap.size, 1, none⟩ = false := (hb1.frozen (p := ⟨w.heap.size, 1, none⟩) (by simp)).trans ((Blk.new w _ _).frozen 1)
  have b1 : b < w1.heap.size := by omega
  have b2 : w.heap.size < w1.heap.size := by omega
  clear q0 q1
  go_region
  all_goals go_wp2
  have hB := (hbw.setCell (p := ⟨w.heap.size, 0, none⟩) (Nat.le_refl _) (Value.int IntKind.i64 (101 + k))).setCell (p := ⟨w.heap.size, 1, none⟩) (Nat.le_refl _) (Value.slice (some { block := w1.heap.size + 1, off := 0 }) 1 1)
  have hS : ((w1.setCell ⟨w.heap.size, 0, none⟩ (Value.int IntKind.i64 (101 + k))).setCell ⟨w.heap.size, 1, none⟩ (Value.slice (some { block := w1.heap.size + 1, off := 0 }) 1 1)).heap.size = w1.heap.size := by simp [World.setCell]
  refine bodyPost_ret (v := fV (101 + k) (.slice (some ⟨w1.heap.size + 1, 0, none⟩) 1 1)) ?_ rfl ⟨w1.heap.size + 1, rfl, by omega, ?_, ((hB.alloc (by rw [hS]; omega) _).alloc (by simp [World.setCell]; omega) _).drew⟩
  · simp [results, Tryd.results56, go_sem, fV, c4, c5, b2]
  · have := Blk.new (((w1.setCell ⟨w.heap.size, 0, none⟩ (Value.int IntKind.i64 (101 + k))).setCell ⟨w.heap.size, 1, none⟩ (Value.slice (some { block := w1.heap.size + 1, off := 0 }) 1 1)).alloc (Obj.cells #[Value.int IntKind.i64 (101 + k), Value.slice none 0 0] 35)) 3 #[Value.int IntKind.i64 pos]
    have e : (((w1.setCell ⟨w.heap.size, 0, none⟩ (Value.int IntKind.i64 (101 + k))).setCell ⟨w.heap.size, 1, none⟩ (Value.slice (some { block := w1.heap.size + 1, off := 0 }) 1 1)).alloc (Obj.cells #[Value.int IntKind.i64 (101 + k), Value.slice none 0 0] 35)).heap.size = w1.heap.size + 1 := by simp [World.setCell]
    rw [e] at this
    exact this.drew
end Go.Proofs.YtnojejplckhifaaDoor

/- The contracts of overdriveref.SameFault, overdrivesee.Fault, Same, Is. -/
namespace Go.Proofs.YtnojejplckhifaaDoor
open Go.RowKit
set_option linter.unusedVariables false

set_option maxRecDepth 100000 in
theorem sameF_any (c c' : Int) (A B : Option Addr) (n m d d' : Nat) (l l' : List Int) (w : World) (ha : Reads w w.heap.size 1 A n (l.map (Value.int .i64))) (hb : Reads w w.heap.size 1 B m (l'.map (Value.int .i64))) (hn : n ≤ 1000) :
    Calls Tryd.prog 38 #[fV c (.slice A n d), fV c' (.slice B m d')] w (SameIPost w (decide (c = c') && sameI l l')) := by
  unfold fV
  have HA := Lib.hid ha
  have HB := Lib.hid hb
  clear ha hb
  go_enter Tryd.func38, Tryd.ntmps38
  go_wp2_with fail
  refine (sameI_any A B n m d d' l l' _ (by exact ((HA.out.alloc (Nat.le_refl _) _).alloc (by simp) _).more (by simp; omega)) (by exact ((HB.out.alloc (Nat.le_refl _) _).alloc (by simp) _).more (by simp; omega)) (by omega)).mono ?_
  rintro e w1 ⟨rfl, hb1⟩
  have hbw : Below w.heap.size w w1 := (((Below.refl _ _).alloc (Nat.le_refl _) _).alloc (by simp) _).trans (hb1.mono (by simp; omega))
  have q0 : w1.cell? ⟨w.heap.size, 0, none⟩ = some (.int .i64 c) := (hb1.cell (p := ⟨w.heap.size, 0, none⟩) (by simp; omega)).trans (((Blk.new w _ _).alloc _).cell 0)
  have q1 : w1.cell? ⟨w.heap.size + 1, 0, none⟩ = some (.int .i64 c') := by
    refine (hb1.cell (p := ⟨w.heap.size + 1, 0, none⟩) (by simp)).trans ?_
    simp
  by_cases hc : c = c'
  · have hc' : (c == c') = true := by simpa using hc
    have HC : Hid (decide (c = c') = true) := Lib.hid (by simpa using hc)
    clear hc
    go_wp2
    all_goals go_ret
    all_goals refine ⟨?_, hbw⟩
    all_goals rw [HC.out]
    all_goals simp_all
  · have hc' : (c == c') = false := by simpa using hc
    have HC : Hid (decide (c = c') = false) := Lib.hid (by simpa using hc)
    clear hc
    go_wp2
    go_ret
    refine ⟨?_, hbw⟩
    rw [HC.out]
    rfl
end Go.Proofs.YtnojejplckhifaaDoor

/- The contracts of overdrivesee.Fault and Same at the errors that script answers. -/
namespace Go.Proofs.YtnojejplckhifaaDoor
open Go.RowKit
set_option linter.unusedVariables false

/-- what a fault's value reads as, in new memory: its number, its places -/
def FaultPost (w : World) (c : Int) (l : List Int) (e : Ending) (w' : World) : Prop :=
  ∃ A d, e = .returned (fV c (.slice A l.length d)) ∧ Reads w' w'.heap.size 1 A l.length (l.map (Value.int .i64)) ∧ (∀ x, A = some x → w.heap.size ≤ x.block) ∧ Below w.heap.size w w'
theorem reads_far {w : World} {B n g i : Nat} {A : Option Addr} {xs : List Value} {u : Value} (h : Reads w B 1 A n xs) (hA : ∀ x, A = some x → x.block ≠ g) : Reads (w.setCell ⟨g, i, none⟩ u) B 1 A n xs :=
  ⟨h.1, fun hn => by
    obtain ⟨ad, e, hb, hc⟩ := h.2 hn
    refine ⟨ad, e, hb, fun j v hv => ?_⟩
    rw [World.cell?_setCell_other _ _ _ _ (fun e' => hA ad e (by have := congrArg Addr.block e'; rw [block_of_add] at this; first | exact this | exact this.symm))]
    exact hc j v hv⟩
/-- what an error is as plain data: what fault answers, whatever it is -/
def Faulty (ev : Value) (c : Int) (l : List Int) (w0 : World) : Prop :=
  ∀ w, Below w0.heap.size w0 w → Calls Tryd.prog 56 #[ev, .int .i64 9] w (FaultPost w c l)
theorem faulty_leaf (ad : Nat → Addr) (k : Nat) (hk : k < 14) (w0 : World) (h : Errs w0 ad) : Faulty (.iface 147 (.pointer (some (ad k)))) (101 + k) [] w0 := by
  intro w hb
  refine (fault_leaf ad k hk 9 (by decide) w (h.below hb)).mono ?_
  rintro e w' ⟨he, hb'⟩
  exact ⟨none, 0, he, Reads.none_, (fun x hx => by cases hx), hb'⟩
theorem faulty_at (ad : Nat → Addr) (k : Nat) (hk : k < 14) (b : Nat) (pos : Int) (w0 : World) (h : Errs w0 ad) (hblk : Blk w0 b 106 #[.int .i64 pos, .iface 147 (.pointer (some (ad k)))]) :
    Faulty (.iface 104 (.pointer (some ⟨b, 0, none⟩))) (101 + k) [pos] w0 := by
  intro w hb
  refine (fault_at ad k hk b pos w (h.below hb) (hblk.below hb hblk.lt)).mono ?_
  rintro e w' ⟨b', he, hge, hB, hb'⟩
  exact ⟨some ⟨b', 0, none⟩, 1, he, ⟨rfl, fun _ => ⟨_, rfl, hB.lt, World.news_of_block hB⟩⟩, (fun x hx => by cases hx; exact hge), hb'⟩
set_option maxRecDepth 100000 in
theorem Fault_any (t : TypeId) (v : Value) (c : Int) (l : List Int) (w : World) (h : Faulty (.iface t v) c l w) :
    Calls Tryd.prog 25 #[.iface t v] w (FaultPost w c l) := by
  have HF := Lib.hid h
  clear h
  go_enter Tryd.func25, Tryd.ntmps25
  go_wp2_with fail
  refine (HF.out _ ((Below.refl _ _).alloc (Nat.le_refl _) _)).mono ?_
  rintro e w1 ⟨A, d, rfl, hr, hA, hb1⟩
  unfold fV
  have HR := Lib.hid hr
  clear hr
  have hbw : Below w.heap.size w w1 := ((Below.refl _ _).alloc (Nat.le_refl _) _).trans (hb1.mono (by simp))
  have c4 : w1.cell? ⟨w.heap.size, 0, none⟩ = some (.int .i64 0) := (hb1.cell (p := ⟨w.heap.size, 0, none⟩) (by simp)).trans ((Blk.new w _ _).cell 0)
  have c5 : w1.cell? ⟨w.heap.size, 1, none⟩ = some (.slice none 0 0) := (hb1.cell (p := ⟨w.heap.size, 1, none⟩) (by simp)).trans ((Blk.new w _ _).cell 1)
  have f4 : w1.frozen? ⟨w.heap.size, 0, none⟩ = false := (hb1.frozen (p := ⟨w.heap.size, 0, none⟩) (by simp)).trans ((Blk.new w _ _).frozen 0)
  have f5 : w1.frozen? ⟨w.heap.size, 1, none⟩ = false := (hb1.frozen (p := ⟨w.heap.size, 1, none⟩) (by simp)).trans ((Blk.new w _ _).frozen 1)
  have HA : Hid (∀ x, A = some x → w.heap.size + 1 ≤ x.block) := Lib.hid (by simpa using hA)
  clear hA
  go_wp2
  refine bodyPost_ret (v := fV c (.slice A l.length d)) ?_ rfl ⟨A, d, rfl, ?_, fun x hx => by have := HA.out x hx; omega, (hbw.setCell (p := ⟨w.heap.size, 0, none⟩) (Nat.le_refl _) _).setCell (p := ⟨w.heap.size, 1, none⟩) (Nat.le_refl _) _⟩
  · simp [results, Tryd.results25, go_sem, fV, c4, c5]
  · have hf : ∀ x, A = some x → x.block ≠ w.heap.size := fun x hx => by have := HA.out x hx; omega
    exact (reads_far (reads_far HR.out hf) hf).more (by simp [World.setCell])
set_option maxRecDepth 100000 in
theorem Same_any (t : TypeId) (v : Value) (c c' : Int) (l l' : List Int) (B : Option Addr) (m d' : Nat) (w : World) (h : Faulty (.iface t v) c l w) (hb : Reads w w.heap.size 1 B m (l'.map (Value.int .i64))) (hl : l.length ≤ 1000) :
    Calls Tryd.prog 13 #[.iface t v, fV c' (.slice B m d')] w (SameIPost w (decide (c = c') && sameI l l')) := by
  have HF : Hid (Faulty (.iface t v) c l w) := Lib.hid h
  have HB := Lib.hid hb
  clear h hb
  unfold fV
  go_enter Tryd.func13, Tryd.ntmps13
  go_wp2_with fail
  have hb0 : Below w.heap.size w (w.alloc (Obj.cells #[Value.int IntKind.i64 c', Value.slice B m d'] 35)) := (Below.refl _ _).alloc (Nat.le_refl _) _
  refine (Fault_any t v c l _ (fun w2 h2 => HF.out w2 (hb0.trans (h2.mono (by simp))))).mono ?_
  rintro e w1 ⟨A, d, rfl, hr, hA, hb1⟩
  have HR := Lib.hid hr
  clear hr hA
  unfold fV
  have hbw := hb0.trans (hb1.mono (by simp))
  have q0 : w1.cell? ⟨w.heap.size, 0, none⟩ = some (.int .i64 c') := (hb1.cell (p := ⟨w.heap.size, 0, none⟩) (by simp)).trans ((Blk.new w _ _).cell 0)
  have q1 : w1.cell? ⟨w.heap.size, 1, none⟩ = some (.slice B m d') := (hb1.cell (p := ⟨w.heap.size, 1, none⟩) (by simp)).trans ((Blk.new w _ _).cell 1)
  have b2 : w.heap.size < w1.heap.size := by have := hb1.size; simp at this; omega
  go_wp2_with fail
  refine (sameF_any c c' A B l.length m d d' l l' _ (by exact (HR.out.alloc (Nat.le_refl _) _).more (by simp)) (by exact (((HB.out.below hbw).more hbw.size).alloc (Nat.le_refl _) _).more (by simp)) hl).mono ?_
  rintro e w3 ⟨rfl, hb3⟩
  go_wp2
  go_ret
  exact ⟨rfl, (hbw.alloc hbw.size _).trans (hb3.mono (by simp; omega))⟩
theorem Is_any (t : TypeId) (v : Value) (c c' : Int) (l : List Int) (w : World) (h : Faulty (.iface t v) c l w) (hl : l.length ≤ 1000) :
    Calls Tryd.prog 15 #[.iface t v, .int .i64 c'] w (SameIPost w (decide (c = c') && sameI l [])) := by
  have HF : Hid (Faulty (.iface t v) c l w) := Lib.hid h
  clear h
  go_enter Tryd.func15, Tryd.ntmps15
  go_wp2_with fail
  refine (bare_any _ _).mono ?_
  rintro e w1 ⟨rfl, hb1⟩
  go_wp2_with fail
  refine (Same_any t v c c' l [] none 0 0 _ (fun w2 h2 => HF.out w2 (hb1.trans (h2.mono hb1.size))) Reads.none_ hl).mono ?_
  rintro e w2 ⟨rfl, hb2⟩
  go_wp2
  go_ret
  exact ⟨rfl, hb1.trans (hb2.mono hb1.size)⟩
end Go.Proofs.YtnojejplckhifaaDoor
