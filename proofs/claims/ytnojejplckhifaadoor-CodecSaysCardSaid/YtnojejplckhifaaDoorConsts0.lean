/- Words for the law CodecConsts: a program that is being built in memory: one method, its instructions a row of the call's own. -/
import Derived.StillTailTactics
import Derived.Test.YtnojejplckhifaaDoorPA
import Derived.Test.YtnojejplckhifaaDoorRZig
import Derived.Test.YtnojejplckhifaaDoorRefPut
import Derived.Test.YtnojejplckhifaaDoorSamePr
import Derived.Test.YtnojejplckhifaaDoorLaw4
import Derived.Deep.CutBlock
import Derived.Deep.CutRange
namespace Go.Proofs.YtnojejplckhifaaDoor
open Go.RowKit
set_option linter.unusedVariables false

structure CS (w W : World) (gp gm : Nat) (v : Value) (xs : List Ins) : Prop where
  bp : Blk W gp 25 #[.slice none 0 0, .slice (some ⟨gm, 0, none⟩) 1 1]
  bm : Blk W gm 54 #[.string ⟨#[]⟩, .string ⟨#[]⟩, .string ⟨#[]⟩, v]
  own : W.ownsRow w.heap.size 56 4 v xs.length (insL xs)
  bw : Below w.heap.size w W
  hp : w.heap.size ≤ gp
  hm : w.heap.size ≤ gm
theorem CS.next {w W W' : World} {gp gm : Nat} {v : Value} {xs : List Ins} (h : CS w W gp gm v xs) (hb : Below W.heap.size W W') : CS w W' gp gm v xs :=
  ⟨h.bp.below hb h.bp.lt, h.bm.below hb h.bm.lt, own_below h.own hb, h.bw.trans (hb.mono h.bw.size), h.hp, h.hm⟩
theorem CS.app {w W W2 : World} {gp gm : Nat} {v v2 : Value} {xs : List Ins} (h : CS w W gp gm v xs) (y : Ins) (ho : W2.ownsRow w.heap.size 56 4 v2 (xs.length + 1) (insL xs ++ insC y)) (hg : W.grownBy W2 v.ownBlock) : CS w (W2.setCell ⟨gm, 3, none⟩ v2) gp gm v2 (xs ++ [y]) := by
  have b2 : Below w.heap.size w W2 := h.bw.grown hg h.bw.size (fun k hk => own_ge h.own hk)
  have p2 := h.bp.grown hg (fun e => own_blk_ne h.own h.bp (by decide) e.symm)
  have m2 := h.bm.grown hg (fun e => own_blk_ne h.own h.bm (by decide) e.symm)
  refine ⟨p2.far (p := ⟨gm, 3, none⟩) (Blk.ne_ p2 m2 (by decide)) v2, by have := m2.set_ 3 v2; simpa using this, ?_, b2.setCell (p := ⟨gm, 3, none⟩) h.hm _, h.hp, h.hm⟩
  have e : insL (xs ++ [y]) = insL xs ++ insC y := by simp [insL]
  rw [e, List.length_append]
  exact own_far ho m2 (by decide) v2
theorem instr_info : (Tryd.prog.info? 56).map (fun i => (i.zero, i.size, i.bytes)) = some (some (.agg #[.int .i64 0, .int .i64 0, .int .i64 0, .int .i64 0]), 4, 32) := by kernel_rfl
theorem insC_one' (x : Ins) : ∀ u ∈ insC x, u.oneCell' = true := by
  intro u hu
  simp [insC] at hu
  rcases hu with rfl | rfl | rfl | rfl <;> rfl
theorem own_cap {w : World} {base : Nat} {e : TypeId} {size n n' c : Nat} {A : Option Addr} {xs : List Value} (h : w.ownsRow base e size (.slice A n' c) n xs) : n ≤ c ∧ c ≤ maxLen := by
  rcases h.2 with ⟨hv, hn⟩ | ⟨g, cap, cur, hv, _, _, h1, h2, _⟩
  · injection hv with e1 e2 e3
    subst e3 hn
    exact ⟨Nat.le_refl _, Nat.zero_le _⟩
  · injection hv with e1 e2 e3
    subst e3
    exact ⟨h1, h2⟩
/-- the program that lies there -/
theorem CS.pat {w W : World} {gp gm : Nat} {v : Value} {xs : List Ins} (h : CS w W gp gm v xs) : ∃ A c, v = .slice A xs.length c ∧ PAt W W.heap.size ⟨[], none, 0, [⟨⟨[], [], [], xs⟩, A, c⟩], some ⟨gm, 0, none⟩, 1⟩ := by
  obtain ⟨A, c, hv, hr⟩ := own_reads h.own
  refine ⟨A, c, hv, Reads.none_, ?_, fun x hx => ?_⟩
  · have hbm := h.bm
    rw [hv] at hbm
    exact ⟨rfl, fun _ => ⟨_, rfl, hbm.lt, World.news_of_block hbm⟩⟩
  · obtain rfl := List.mem_singleton.1 hx
    exact hr
theorem rput_is (u : Nat) (z : Int) (hz : z = (u : Int)) (w : World) (hu : U64 u) : Calls Tryd.prog 23 #[.int .u64 z] w (PutPost w (enc u)) := by
  subst hz
  exact rput_any u w hu
theorem cell_far {w w' : World} {row : Option Nat} (hg : w.grownBy w' row) {a : Addr} (hl : a.block < w.heap.size) (hne : some a.block ≠ row) : w'.cell? a = w.cell? a := World.cell?_of_block (hg.block _ hl hne)
theorem sameProg_is (p q : PV) (v v' : Value) (hv : v = p.val) (hv' : v' = q.val) (w : World) (hp : PAt w w.heap.size p) (hq : PAt w w.heap.size q) (h1 : p.cls.length ≤ 1099511627776) (h2 : p.ms.length ≤ 1099511627776)
    (h3 : ∀ x ∈ p.ms, x.m.code.length ≤ 1099511627776) (h4 : ∀ x ∈ q.ms, x.m.code.length ≤ 1099511627776) :
    Calls Tryd.prog 19 #[v, v'] w (YPost w (p.prg = q.prg)) := by
  subst hv hv'
  exact sameProg_any p q w hp hq h1 h2 h3 h4
theorem con_encO (z : List Int) (h : z.length ≤ 40) : encO (conP z) = (some (encP (conP z)), none) := by
  unfold encO
  rw [con_may z h]
  dsimp only
  rw [if_neg (by rw [con_len z h]; have := conN_le z; omega)]
theorem con_max (z : List Int) (h : z.length ≤ 40) : (conM z).par.length ≤ maxLen ∧ (conM z).loc.length ≤ maxLen ∧ (conM z).code.length ≤ maxLen := by
  refine ⟨Nat.zero_le _, Nat.zero_le _, ?_⟩
  simp [conM]
  unfold maxLen
  omega
theorem con_num (z : List Int) (hz : ∀ n ∈ z, I64 n) : ∀ x ∈ (conM z).code, I64 x.n := by
  intro x hx
  simp only [conM, List.mem_append, List.mem_map, List.mem_singleton] at hx
  rcases hx with ⟨n, hn, rfl⟩ | rfl
  · exact hz n hn
  · show I64 0; unfold I64; omega
theorem one_ms {q : PV} {P : Prg} {m : Met} (h : q.prg = P) (hP : P.mets = [m]) : ∀ x ∈ q.ms, x.m = m := by
  intro x hx
  have : x.m ∈ q.prg.mets := List.mem_map.2 ⟨x, hx, rfl⟩
  rw [h, hP] at this
  exact List.mem_singleton.1 this
def CoCut (w : World) (gp gm : Nat) (xs : List Ins) (wx : World) : Prop := ∃ v, CS w wx gp gm v xs
def CoRel (w : World) (z : List Int) (gp gm : Nat) (sn si : Value) (wr : World) : Prop := ∃ (k c : Nat) (v : Value), k ≤ z.length ∧ c = 9 + conN (z.take k) ∧ sn = .int .i64 (c : Int) ∧ si = .int .i64 (k : Int) ∧ CS w wr gp gm v ((z.take k).map cI)
theorem i64_wfc {n : Int} (h : (Lit.int .i64 n).wf = true) : I64 n := by
  simp [Lit.wf, IntKind.min, IntKind.max, IntKind.signed, IntKind.bits] at h
  unfold I64; omega
end Go.Proofs.YtnojejplckhifaaDoor
