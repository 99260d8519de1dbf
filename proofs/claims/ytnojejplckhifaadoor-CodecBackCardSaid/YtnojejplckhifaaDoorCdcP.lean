/- Plain: a program's bytes are read as that program, what is read has these bytes; cut off they end too early. No program of Go here. -/
import Derived.Test.YtnojejplckhifaaDoorCdcR
namespace Go.Proofs.YtnojejplckhifaaDoor
open Go.RowKit
set_option linter.unusedVariables false

/-! ### letters -/
theorem ofNat_toNat8 (c : Nat) (h : c < 256) : (UInt8.ofNat c).toNat = c := by simp; omega
theorem nats_strB (l : List Nat) (h : ∀ c ∈ l, c < 256) : nats (strB l) = l := by
  unfold nats strB
  rw [List.map_map]
  conv => rhs; rw [← List.map_id l]
  exact List.map_congr_left fun c hc => ofNat_toNat8 c (h c hc)
theorem strB_nats (s : List UInt8) : strB (nats s) = s := by
  unfold nats strB
  rw [List.map_map]
  conv => rhs; rw [← List.map_id s]
  exact List.map_congr_left fun c hc => by simp
theorem nats_lt (s : List UInt8) : ∀ c ∈ nats s, c < 256 := by
  intro c hc
  obtain ⟨x, _, rfl⟩ := List.mem_map.1 hc
  exact x.toNat_lt
theorem mIR_isIR : ∀ c : Fin 256, mIR c.val = isIR (UInt8.ofNat c.val) := by decide +kernel
theorem isIR_of {c : Nat} (h : c < 256) (hm : mIR c = true) : isIR (UInt8.ofNat c) = true := by rw [← mIR_isIR ⟨c, h⟩]; exact hm
theorem mIR_of (x : UInt8) (hm : isIR x = true) : mIR x.toNat = true := by
  have := mIR_isIR ⟨x.toNat, x.toNat_lt⟩
  rw [this]
  simpa using hm
theorem flat_one (l : List Nat) : l.flatMap (fun c => [c]) = l := by induction l with
  | nil => rfl
  | cons x l ih => rw [List.flatMap_cons, ih]; rfl
theorem rd_letters (most : Nat) (hm : most ≤ 1048576) : Rd (fun l => lettersR l most) (fun xs => enc xs.length ++ xs) (fun xs => xs.length ≤ most ∧ ∀ c ∈ xs, mIR c = true ∧ c < 256) := by
  have h := (Rd.bind (rd_number 0 most hm) (g := fun n l s => timesR (byteR l mIR) n s) (fun n l s => ((rd_byte mIR).times n).stay l s) (fun n _ => (rd_byte mIR).times n)).map (fun p => p.2) (fun xs => (xs.length, xs))
    (e' := fun xs => enc xs.length ++ xs) (ok' := fun xs => xs.length ≤ most ∧ ∀ c ∈ xs, mIR c = true ∧ c < 256)
    (by
      rintro ⟨n, xs⟩ ⟨⟨_, h1⟩, h2, h3⟩
      simp only [] at h1 h2 h3
      subst h2
      exact ⟨⟨h1, h3⟩, by simp only []; rw [flat_one]⟩)
    (by
      rintro xs ⟨h1, h2⟩
      exact ⟨⟨⟨Nat.zero_le _, h1⟩, rfl, h2⟩, rfl, by simp only []; rw [flat_one]⟩)
  exact h.same (fun l s => rfl) (fun x => Iff.rfl) (fun x _ => rfl)
def okS (most : Nat) (s : List UInt8) : Prop := s.length ≤ most ∧ lettersB s = true
theorem okS_strB {most : Nat} {xs : List Nat} (h : xs.length ≤ most ∧ ∀ c ∈ xs, mIR c = true ∧ c < 256) : okS most (strB xs) ∧ encS (strB xs) = enc xs.length ++ xs := by
  refine ⟨⟨by simpa [strB] using h.1, List.all_eq_true.2 fun x hx => ?_⟩, ?_⟩
  · obtain ⟨c, hc, rfl⟩ := List.mem_map.1 hx
    exact isIR_of (h.2 c hc).2 (h.2 c hc).1
  · unfold encS
    rw [nats_strB xs fun c hc => (h.2 c hc).2]
    simp [strB]
theorem okS_nats {most : Nat} {s : List UInt8} (h : okS most s) : ((nats s).length ≤ most ∧ ∀ c ∈ nats s, mIR c = true ∧ c < 256) ∧ enc (nats s).length ++ nats s = encS s := by
  refine ⟨⟨by simpa [nats] using h.1, fun c hc => ⟨?_, nats_lt s c hc⟩⟩, by simp [encS, nats]⟩
  obtain ⟨x, hx, rfl⟩ := List.mem_map.1 hc
  exact mIR_of x (List.all_eq_true.1 h.2 x hx)
theorem rd_class : Rd classR encS (okS 10) :=
  ((rd_letters 10 (by decide)).map strB nats (e' := encS) (ok' := okS 10) (fun x hx => okS_strB hx) (fun y hy => ⟨(okS_nats hy).1, strB_nats y, (okS_nats hy).2⟩)).same (fun l s => rfl) (fun x => Iff.rfl) (fun x _ => rfl)

/-! ### an instruction -/
theorem rd_if {α : Type} {f : List Nat → RS → α × RS} {e : α → List Nat} {ok : α → Prop} (hf : Rd f e ok) (b : Bool) (x0 : α) :
    Rd (fun l s => if b = true then f l s else (x0, s)) (fun x => if b = true then e x else []) (fun x => if b = true then ok x else x = x0) := by
  cases b
  · refine ⟨fun l s _ => rfl, ?_, ?_, ?_⟩
    · intro l a x h _
      have h' : x = x0 := by simpa using h
      subst h'
      rfl
    · intro l a x a' _ h
      simp at h
      obtain ⟨rfl, rfl⟩ := h
      exact ⟨by simp, by simp, by simp⟩
    · intro l a x _ _ _ hlt
      simp at hlt
  · exact hf.same (fun l s => by simp) (fun x => by simp) (fun x _ => by simp)
def okI (x : Ins) : Prop := (1 ≤ x.op ∧ x.op ≤ 35) ∧ (if hasA x.op = true then 0 ≤ x.a ∧ x.a ≤ 1048576 else x.a = 0) ∧ (if hasB x.op = true then 0 ≤ x.b ∧ x.b ≤ 1048576 else x.b = 0) ∧ (if x.op = 1 then I64 x.n else x.n = 0)
def insV (p : Nat × Nat × Nat × Nat) : Ins := ⟨p.1, p.2.1, p.2.2.1, if p.1 = 1 then zag p.2.2.2 else 0⟩
def insW (x : Ins) : Nat × Nat × Nat × Nat := (x.op.toNat, x.a.toNat, x.b.toNat, if x.op = 1 then (zig x.n).toNat else 0)
theorem zag_i64 (u : Nat) (h : U64 u) : I64 (zag u) := by
  unfold U64 at h
  unfold I64
  rcases Nat.mod_two_eq_zero_or_one u with h0 | h0
  · rw [zag_even u h h0]
    omega
  · rw [zag_odd u h h0]
    omega
theorem rd_instr : Rd instrR encI okI := by
  have hA : ∀ op : Nat, Rd (fun l s => insA l op s) (fun u => if hasA op = true then enc u else []) (fun u => if hasA op = true then 0 ≤ u ∧ u ≤ 1048576 else u = 0) := fun op => rd_if (rd_number 0 1048576 (by decide)) _ 0
  have hB : ∀ op : Nat, Rd (fun l s => insB l op s) (fun u => if hasB op = true then enc u else []) (fun u => if hasB op = true then 0 ≤ u ∧ u ≤ 1048576 else u = 0) := fun op => rd_if (rd_number 0 1048576 (by decide)) _ 0
  have hN : ∀ op : Nat, Rd (fun l s => insN l op s) (fun u => if op = 1 then enc u else []) (fun u => if op = 1 then U64 u else u = 0) := fun op => by
    have := rd_if rd_whole (decide (op = 1)) 0
    exact this.same (fun l s => by simp [insN]) (fun x => by simp) (fun x _ => by simp)
  have hAB := fun op : Nat => Rd.bind (hB op) (g := fun _ l s => insN l op s) (fun _ l s => (hN op).stay l s) (fun _ _ => hN op)
  have hABC := fun op : Nat => Rd.bind (hA op) (g := fun _ => bindR (fun l s => insB l op s) (fun _ l s => insN l op s)) (fun _ l s => (hAB op).stay l s) (fun _ _ => hAB op)
  have hall := Rd.bind (rd_byte mOp) (g := fun op => bindR (fun l s => insA l op s) (fun _ => bindR (fun l s => insB l op s) (fun _ l s => insN l op s))) (fun op l s => (hABC op).stay l s) (fun op _ => hABC op)
  refine (hall.map insV insW (e' := encI) (ok' := okI) ?_ ?_).same (fun l s => rfl) (fun x => Iff.rfl) (fun x _ => rfl)
  · rintro ⟨op, a, b, u⟩ ⟨⟨h1, _⟩, h2, h3, h4⟩
    simp only [] at h1 h2 h3 h4
    unfold mOp at h1
    rw [Bool.and_eq_true, decide_eq_true_eq, decide_eq_true_eq] at h1
    have hn : (if (op : Int) = 1 then (zig (if op = 1 then zag u else 0)).toNat else 0) = if op = 1 then u else 0 := by
      by_cases ho : op = 1
      · rw [if_pos (by omega), if_pos ho, if_pos ho]
        rw [if_pos ho] at h4
        rw [zig_zag u h4]
        rfl
      · rw [if_neg (by omega), if_neg ho]
    refine ⟨⟨by simp only [insV]; omega, ?_, ?_, ?_⟩, ?_⟩
    · simp only [insV]
      split
      · rename_i hx; rw [if_pos hx] at h2; omega
      · rename_i hx; rw [if_neg hx] at h2; omega
    · simp only [insV]
      split
      · rename_i hx; rw [if_pos hx] at h3; omega
      · rename_i hx; rw [if_neg hx] at h3; omega
    · simp only [insV]
      by_cases ho : op = 1
      · rw [if_pos (by omega), if_pos ho]
        rw [if_pos ho] at h4
        exact zag_i64 u h4
      · rw [if_neg (by omega), if_neg ho]
    · simp only [insV, encI, Int.toNat_natCast]
      rw [List.singleton_append]
      congr 1
      congr 1
      congr 1
      by_cases ho : op = 1
      · rw [if_pos (by omega), if_pos ho, if_pos ho]
        rw [if_pos ho] at h4
        rw [zig_zag u h4]
        rfl
      · rw [if_neg (by omega), if_neg ho]
  · rintro ⟨op, a, b, n⟩ ⟨⟨h1, h1'⟩, h2, h3, h4⟩
    simp only [] at h1 h1' h2 h3 h4
    obtain ⟨op, rfl⟩ := Int.eq_ofNat_of_zero_le (show 0 ≤ op by omega)
    have ha : 0 ≤ a := by split at h2 <;> omega
    have hb : 0 ≤ b := by split at h3 <;> omega
    obtain ⟨a, rfl⟩ := Int.eq_ofNat_of_zero_le ha
    obtain ⟨b, rfl⟩ := Int.eq_ofNat_of_zero_le hb
    refine ⟨⟨⟨by simp [insW, mOp]; omega, by simp [insW]; omega⟩, ?_, ?_, ?_⟩, ?_, ?_⟩
    · simp only [insW, Int.toNat_natCast]
      split
      · rename_i hx; rw [if_pos hx] at h2; omega
      · rename_i hx; rw [if_neg hx] at h2; omega
    · simp only [insW, Int.toNat_natCast]
      split
      · rename_i hx; rw [if_pos hx] at h3; omega
      · rename_i hx; rw [if_neg hx] at h3; omega
    · simp only [insW, Int.toNat_natCast]
      by_cases ho : op = 1
      · rw [if_pos ho, if_pos (by omega)]
        rw [if_pos (by omega)] at h4
        exact (zig_u64 n h4).2
      · rw [if_neg ho, if_neg (by omega)]
    · simp only [insW, insV, Int.toNat_natCast]
      by_cases ho : op = 1
      · rw [if_pos ho, if_pos (by omega)]
        rw [if_pos (by omega)] at h4
        rw [Int.toNat_of_nonneg (zig_u64 n h4).1, zag_zig n h4]
      · rw [if_neg ho]
        rw [if_neg (by omega)] at h4
        rw [h4]
    · simp only [insW, encI, Int.toNat_natCast]
      rw [List.singleton_append]
      congr 1
      congr 1
      congr 1
      by_cases ho : op = 1
      · subst ho
        simp
      · have : ¬ (op : Int) = 1 := by omega
        simp [ho, this]

/-! ### a method -/
def okM (m : Met) : Prop := (okS 12 m.par ∧ okS (12 - m.par.length) m.loc) ∧ retB m.ret = true ∧ (1 ≤ m.code.length ∧ m.code.length ≤ 120) ∧ ∀ x ∈ m.code, okI x
theorem retB_cases {r : List UInt8} (h : retB r = true) : r = [] ∨ r = [73] ∨ r = [82] := by
  unfold retB at h
  simp at h
  rcases h with (h | h) | h
  · exact .inl h
  · exact .inr (.inl h)
  · exact .inr (.inr h)
theorem ret_fwd {c : Nat} (h : mRet c = true) : retB (retL c) = true ∧ encR (retL c) = [c] := by
  unfold mRet at h
  simp at h
  rcases h with rfl | rfl | rfl <;> exact ⟨by decide, by decide⟩
def retW (r : List UInt8) : Nat := match r with
  | [] => 0
  | c :: _ => c.toNat
theorem ret_bwd {r : List UInt8} (h : retB r = true) : (mRet (retW r) = true ∧ retW r < 256) ∧ retL (retW r) = r ∧ [retW r] = encR r := by
  rcases retB_cases h with rfl | rfl | rfl <;> exact ⟨⟨by decide, by decide⟩, by decide, by decide⟩
def metV (p : List Nat × List Nat × Nat × Nat × List Ins) : Met := ⟨strB p.1, strB p.2.1, retL p.2.2.1, p.2.2.2.2⟩
def metW (m : Met) : List Nat × List Nat × Nat × Nat × List Ins := (nats m.par, nats m.loc, retW m.ret, m.code.length, m.code)
def mR3 : List Nat → RS → (Nat × List Ins) × RS := bindR (fun l => numberR l 1 120) (fun n l s => timesR (instrR l) n s)
def mR2 : List Nat → RS → (Nat × Nat × List Ins) × RS := bindR (fun l => byteR l mRet) (fun _ => mR3)
def mR1 (k : Nat) : List Nat → RS → (List Nat × Nat × Nat × List Ins) × RS := bindR (fun l => lettersR l (12 - k)) (fun _ => mR2)
def mR0 : List Nat → RS → (List Nat × List Nat × Nat × Nat × List Ins) × RS := bindR (fun l => lettersR l 12) (fun xs => mR1 xs.length)
theorem rd_m3 : Rd mR3 (fun p => enc p.1 ++ p.2.flatMap encI) (fun p => (1 ≤ p.1 ∧ p.1 ≤ 120) ∧ p.2.length = p.1 ∧ ∀ x ∈ p.2, okI x) :=
  Rd.bind (rd_number 1 120 (by decide)) (g := fun n l s => timesR (instrR l) n s) (fun n l s => (rd_instr.times n).stay l s) (fun n _ => rd_instr.times n)
theorem rd_m2 : Rd mR2 (fun p => [p.1] ++ (enc p.2.1 ++ p.2.2.flatMap encI)) (fun p => (mRet p.1 = true ∧ p.1 < 256) ∧ (1 ≤ p.2.1 ∧ p.2.1 ≤ 120) ∧ p.2.2.length = p.2.1 ∧ ∀ x ∈ p.2.2, okI x) :=
  Rd.bind (rd_byte mRet) (g := fun _ => mR3) (fun _ l s => rd_m3.stay l s) (fun _ _ => rd_m3)
theorem rd_m1 (k : Nat) : Rd (mR1 k) (fun p => (enc p.1.length ++ p.1) ++ ([p.2.1] ++ (enc p.2.2.1 ++ p.2.2.2.flatMap encI)))
    (fun p => (p.1.length ≤ 12 - k ∧ ∀ c ∈ p.1, mIR c = true ∧ c < 256) ∧ (mRet p.2.1 = true ∧ p.2.1 < 256) ∧ (1 ≤ p.2.2.1 ∧ p.2.2.1 ≤ 120) ∧ p.2.2.2.length = p.2.2.1 ∧ ∀ x ∈ p.2.2.2, okI x) :=
  Rd.bind (rd_letters (12 - k) (by omega)) (g := fun _ => mR2) (fun _ l s => rd_m2.stay l s) (fun _ _ => rd_m2)
def eM1 (p : List Nat × Nat × Nat × List Ins) : List Nat := (enc p.1.length ++ p.1) ++ ([p.2.1] ++ (enc p.2.2.1 ++ p.2.2.2.flatMap encI))
def oM1 (k : Nat) (p : List Nat × Nat × Nat × List Ins) : Prop := (p.1.length ≤ 12 - k ∧ ∀ c ∈ p.1, mIR c = true ∧ c < 256) ∧ (mRet p.2.1 = true ∧ p.2.1 < 256) ∧ (1 ≤ p.2.2.1 ∧ p.2.2.1 ≤ 120) ∧ p.2.2.2.length = p.2.2.1 ∧ ∀ x ∈ p.2.2.2, okI x
theorem rd_m1' (k : Nat) : Rd (mR1 k) eM1 (oM1 k) := rd_m1 k
theorem rd_m0 : Rd mR0 (fun p => (enc p.1.length ++ p.1) ++ eM1 p.2) (fun p => (p.1.length ≤ 12 ∧ ∀ c ∈ p.1, mIR c = true ∧ c < 256) ∧ oM1 p.1.length p.2) := by
  unfold mR0
  refine Rd.bind (g := fun xs => mR1 xs.length) (e' := fun _ => eM1) (ok' := fun xs => oM1 xs.length) (rd_letters 12 (by decide)) ?_ ?_
  · intro xs l s h
    exact (rd_m1' xs.length).stay l s h
  · intro xs _
    exact rd_m1' xs.length
theorem methodR_eq (l : List Nat) (s : RS) : methodR l s = mapR mR0 metV l s := by simp only [methodR, mapR, mR0, mR1, mR2, mR3, bindR, metV]
theorem rd_method : Rd methodR encM okM := by
  refine (rd_m0.map metV metW (e' := encM) (ok' := okM) ?_ ?_).same methodR_eq (fun x => Iff.rfl) (fun x _ => rfl)
  · rintro ⟨p, q, c, n, xs⟩ ⟨k0, k1, ⟨k2, _⟩, k3, k4, k5⟩
    simp only [] at k0 k1 k2 k3 k4 k5
    subst k4
    have hp : (strB p).length = p.length := by simp [strB]
    refine ⟨⟨⟨(okS_strB k0).1, ?_⟩, (ret_fwd k2).1, k3, k5⟩, ?_⟩
    · show okS (12 - (strB p).length) (strB q)
      rw [hp]
      exact (okS_strB k1).1
    · simp only [metV, encM]
      rw [(okS_strB k0).2, (okS_strB k1).2, (ret_fwd k2).2]
      rfl
  · rintro ⟨p, q, r, xs⟩ ⟨⟨k0, k1⟩, k2, k3, k4⟩
    simp only [] at k0 k1 k2 k3 k4
    have hp : (nats p).length = p.length := by simp [nats]
    refine ⟨⟨(okS_nats k0).1, ?_, (ret_bwd k2).1, k3, rfl, k4⟩, ?_, ?_⟩
    · show (nats q).length ≤ 12 - (nats p).length ∧ _
      rw [hp]
      exact (okS_nats k1).1
    · simp only [metV, metW, strB_nats, (ret_bwd k2).2.1]
    · simp only [metW, encM]
      rw [← (okS_nats k0).2, ← (okS_nats k1).2, ← (ret_bwd k2).2.2]
      rfl

/-! ### a program -/
def okP (P : Prg) : Prop := (P.cls.length ≤ 12 ∧ ∀ c ∈ P.cls, okS 10 c) ∧ (1 ≤ P.mets.length ∧ P.mets.length ≤ 12) ∧ ∀ m ∈ P.mets, okM m
def pR6 : List Nat → RS → (Nat × List Met) × RS := bindR (fun l => numberR l 1 12) (fun k l s => timesR (methodR l) k s)
def pR5 (n : Nat) : List Nat → RS → (List (List UInt8) × Nat × List Met) × RS := bindR (fun l s => timesR (classR l) n s) (fun _ => pR6)
def pR4 : List Nat → RS → (Nat × List (List UInt8) × Nat × List Met) × RS := bindR (fun l => numberR l 0 12) (fun n => pR5 n)
def pR3 : List Nat → RS → (Nat × Nat × List (List UInt8) × Nat × List Met) × RS := bindR (fun l => byteR l (mIs 1)) (fun _ => pR4)
def pR2 : List Nat → RS → (Nat × Nat × Nat × List (List UInt8) × Nat × List Met) × RS := bindR (fun l => byteR l (mIs 68)) (fun _ => pR3)
def progB : List Nat → RS → (Nat × Nat × Nat × Nat × List (List UInt8) × Nat × List Met) × RS := bindR (fun l => byteR l (mIs 79)) (fun _ => pR2)
def prgV (p : Nat × Nat × Nat × Nat × List (List UInt8) × Nat × List Met) : Prg := ⟨p.2.2.2.2.1, p.2.2.2.2.2.2⟩
def prgW (P : Prg) : Nat × Nat × Nat × Nat × List (List UInt8) × Nat × List Met := (79, 68, 1, P.cls.length, P.cls, P.mets.length, P.mets)
theorem progR_eq (l : List Nat) : progR l = ((mapR progB prgV l ⟨0, none⟩).1, if (mapR progB prgV l ⟨0, none⟩).2.at_ < l.length then failR (mapR progB prgV l ⟨0, none⟩).2 6 (mapR progB prgV l ⟨0, none⟩).2.at_ else (mapR progB prgV l ⟨0, none⟩).2) := by
  unfold progR headR mapR progB pR2 pR3 pR4 pR5 pR6 bindR prgV
  dsimp only
theorem rd_p6 : Rd pR6 (fun p => enc p.1 ++ p.2.flatMap encM) (fun p => (1 ≤ p.1 ∧ p.1 ≤ 12) ∧ p.2.length = p.1 ∧ ∀ x ∈ p.2, okM x) :=
  Rd.bind (rd_number 1 12 (by decide)) (g := fun n l s => timesR (methodR l) n s) (fun n l s => (rd_method.times n).stay l s) (fun n _ => rd_method.times n)
theorem rd_p5 (n : Nat) : Rd (pR5 n) (fun p => p.1.flatMap encS ++ (enc p.2.1 ++ p.2.2.flatMap encM)) (fun p => (p.1.length = n ∧ ∀ c ∈ p.1, okS 10 c) ∧ (1 ≤ p.2.1 ∧ p.2.1 ≤ 12) ∧ p.2.2.length = p.2.1 ∧ ∀ x ∈ p.2.2, okM x) :=
  Rd.bind (rd_class.times n) (g := fun _ => pR6) (fun _ l s => rd_p6.stay l s) (fun _ _ => rd_p6)
theorem rd_p4 : Rd pR4 (fun p => enc p.1 ++ (p.2.1.flatMap encS ++ (enc p.2.2.1 ++ p.2.2.2.flatMap encM))) (fun p => (0 ≤ p.1 ∧ p.1 ≤ 12) ∧ (p.2.1.length = p.1 ∧ ∀ c ∈ p.2.1, okS 10 c) ∧ (1 ≤ p.2.2.1 ∧ p.2.2.1 ≤ 12) ∧ p.2.2.2.length = p.2.2.1 ∧ ∀ x ∈ p.2.2.2, okM x) :=
  Rd.bind (rd_number 0 12 (by decide)) (g := fun n => pR5 n) (fun n l s => (rd_p5 n).stay l s) (fun n _ => rd_p5 n)
theorem rd_prog : Rd (mapR progB prgV) encP okP := by
  have b3 := Rd.bind (rd_byte (mIs 1)) (g := fun _ => pR4) (fun _ l s => rd_p4.stay l s) (fun _ _ => rd_p4)
  have b2 := Rd.bind (rd_byte (mIs 68)) (g := fun _ => pR3) (fun _ l s => b3.stay l s) (fun _ _ => b3)
  have b1 := Rd.bind (rd_byte (mIs 79)) (g := fun _ => pR2) (fun _ l s => b2.stay l s) (fun _ _ => b2)
  refine b1.map prgV prgW (e' := encP) (ok' := okP) ?_ ?_
  · rintro ⟨x, y, z, n, cs, k, ms⟩ ⟨⟨e1, _⟩, ⟨e2, _⟩, ⟨e3, _⟩, k0, ⟨k1, k2⟩, k3, k4, k5⟩
    simp only [] at e1 e2 e3 k0 k1 k2 k3 k4 k5
    have e1 : x = 79 := by simpa [mIs] using e1
    have e2 : y = 68 := by simpa [mIs] using e2
    have e3 : z = 1 := by simpa [mIs] using e3
    subst e1 e2 e3 k1 k4
    exact ⟨⟨⟨k0.2, k2⟩, k3, k5⟩, rfl⟩
  · rintro ⟨cs, ms⟩ ⟨⟨k0, k1⟩, k2, k3⟩
    exact ⟨⟨⟨rfl, (by decide : 79 < 256)⟩, ⟨rfl, (by decide : 68 < 256)⟩, ⟨rfl, (by decide : 1 < 256)⟩, ⟨Nat.zero_le _, k0⟩, ⟨rfl, k1⟩, k2, rfl, k3⟩, rfl, rfl⟩
theorem dec_enc (P : Prg) (h : okP P) (hm : mayP P = none) (hl : (encP P).length ≤ 16384) : decP (encP P) = (some P, none) := by
  have hb := rd_prog.back (encP P) 0 P h (by rw [List.drop_zero]; exact List.prefix_rfl)
  unfold decP
  rw [if_neg (by omega), progR_eq, hb]
  simp [hm]
theorem dec_is (l : List Nat) (hb : ∀ c ∈ l, c < 256) (P : Prg) (o : Option (Nat × List Int)) (h : decP l = (some P, o)) : okP P ∧ mayP P = none ∧ l = encP P ∧ o = none := by
  unfold decP at h
  split at h
  · simp at h
  · split at h
    · simp at h
    · rename_i hE
      split at h
      · simp at h
      · rename_i hM
        simp at h
        obtain ⟨h1, h2⟩ := h
        rw [progR_eq] at h1 hE hM
        simp only [] at h1 hE hM
        rw [h1] at hM
        split at hE
        · rename_i hlt
          unfold failR at hE
          split at hE
          · rename_i hx; rw [hE] at hx; cases hx
          · cases hE
        · rename_i hlt
          obtain ⟨k1, k2, k3⟩ := rd_prog.is l 0 P _ hb (pair_eta _ h1 (rs_none hE))
          rw [List.drop_zero] at k2
          refine ⟨k1, hM, ?_, h2.symm⟩
          obtain ⟨r, hr⟩ := k2
          have : r = [] := List.eq_nil_of_length_eq_zero (by have := congrArg List.length hr; simp at this; omega)
          rw [← hr, this, List.append_nil]
theorem dec_cut (P : Prg) (h : okP P) (t : Nat) (ht : t < (encP P).length) (hl : t ≤ 16384) : decP ((encP P).take t) = (none, some (5, [(t : Int)])) := by
  have hlen : ((encP P).take t).length = t := by rw [List.length_take]; omega
  have hc := rd_prog.cut ((encP P).take t) 0 P h (by omega) (by rw [List.drop_zero]; exact List.take_prefix _ _) (by rw [List.drop_zero, hlen]; exact ht)
  unfold decP
  rw [if_neg (by omega), progR_eq]
  simp only []
  have : (if (mapR progB prgV ((encP P).take t) ⟨0, none⟩).2.at_ < ((encP P).take t).length then failR (mapR progB prgV ((encP P).take t) ⟨0, none⟩).2 6 (mapR progB prgV ((encP P).take t) ⟨0, none⟩).2.at_ else (mapR progB prgV ((encP P).take t) ⟨0, none⟩).2).err = some (5, t) := by
    rw [hlen] at hc ⊢
    split
    · unfold failR
      rw [hc]
      exact hc
    · exact hc
  rw [this]
theorem dec_more (P : Prg) (h : okP P) (c : Nat) (hl : (encP P).length < 16384) : decP (encP P ++ [c]) = (none, some (6, [((encP P).length : Int)])) := by
  have hb := rd_prog.back (encP P ++ [c]) 0 P h (by rw [List.drop_zero]; exact List.prefix_append _ _)
  unfold decP
  rw [if_neg (by simp; omega), progR_eq, hb]
  simp [failR]

/-! ### what may be -/
theorem mayCs_none : ∀ (l : List (List UInt8)) (i : Nat), mayCs i l = none → ∀ c ∈ l, mayC c = none
  | [], i, _, c, hc => by cases hc
  | x :: r, i, h, c, hc => by
    unfold mayCs at h
    split at h
    · cases h
    · rename_i hx
      rcases List.mem_cons.1 hc with rfl | hc
      · exact hx
      · exact mayCs_none r (i + 1) h c hc
theorem mayIs_none (P : Prg) (m : Met) (i : Nat) : ∀ (l : List Ins) (pc : Nat), mayIs P m i pc l = none → ∀ x ∈ l, mayI P m x = none
  | [], pc, _, c, hc => by cases hc
  | x :: r, pc, h, c, hc => by
    unfold mayIs at h
    split at h
    · cases h
    · rename_i hx
      rcases List.mem_cons.1 hc with rfl | hc
      · exact hx
      · exact mayIs_none P m i r (pc + 1) h c hc
theorem mayMs_none (P : Prg) : ∀ (l : List Met) (i : Nat), mayMs P i l = none → ∀ m ∈ l, ∃ j, mayM P j m = none
  | [], i, _, c, hc => by cases hc
  | x :: r, i, h, c, hc => by
    unfold mayMs at h
    split at h
    · cases h
    · rename_i hx
      rcases List.mem_cons.1 hc with rfl | hc
      · exact ⟨i, hx⟩
      · exact mayMs_none P r (i + 1) h c hc
theorem there_small (P : Prg) (m : Met) (x : Ins) (hc : P.cls.length ≤ 12) (hm : P.mets.length ≤ 12) (hk : ∀ c ∈ P.cls, c.length ≤ 10) (hp : m.par.length ≤ 12) (hq : m.loc.length ≤ 12) (hcode : m.code.length ≤ 120)
    (h3 : ¬ ((x.op = 22 ∨ x.op = 23) ∧ ¬ (0 ≤ x.a ∧ x.a < m.code.length))) (h : thereI P m x = true) : (hasA x.op = true → 0 ≤ x.a ∧ x.a ≤ 120) ∧ (hasB x.op = true → 0 ≤ x.b ∧ x.b ≤ 10) := by
  unfold thereI at h
  unfold hasA hasB
  have hcl : ∀ k : Nat, (P.cls.getD k []).length ≤ 10 := fun k => by
    rw [List.getD_eq_getElem?_getD]
    cases hg : P.cls[k]? with
    | none => simp
    | some c => exact hk c (List.mem_of_getElem? hg)
  have := hcl x.a.toNat
  constructor
  · intro hA
    simp only [Bool.or_eq_true, beq_iff_eq] at hA
    split at h
    · simp at h; omega
    · split at h
      · simp at h; omega
      · split at h
        · simp only [decide_eq_true_eq] at h; omega
        · split at h
          · simp at h; omega
          · split at h
            · simp at h; omega
            · have : x.op = 22 ∨ x.op = 23 := by omega
              by_cases h4 : 0 ≤ x.a ∧ x.a < m.code.length
              · omega
              · exact absurd ⟨this, h4⟩ h3
  · intro hB
    simp only [Bool.or_eq_true, beq_iff_eq] at hB
    rw [if_neg (by omega), if_neg (by omega), if_pos (by omega)] at h
    simp only [decide_eq_true_eq] at h
    omega
theorem may_ok (P : Prg) (h : mayP P = none) (hn : ∀ m ∈ P.mets, ∀ x ∈ m.code, I64 x.n) : okP P := by
  unfold mayP at h
  split at h
  · cases h
  · rename_i h0
    split at h
    · cases h
    · rename_i hcs
      have hC : ∀ c ∈ P.cls, okS 10 c := fun c hc => by
        have := mayCs_none _ _ hcs c hc
        unfold mayC at this
        split at this
        · cases this
        · split at this
          · exact ⟨by omega, by assumption⟩
          · cases this
      refine ⟨⟨by omega, hC⟩, by omega, fun m hm => ?_⟩
      obtain ⟨j, hj⟩ := mayMs_none P _ _ h m hm
      unfold mayM at hj
      split at hj
      · cases hj
      · rename_i hH
        unfold mayH at hH
        split at hH
        · cases hH
        · rename_i h1
          split at hH
          · rename_i h2
            simp only [Bool.and_eq_true] at h2
            refine ⟨⟨⟨by omega, h2.1.1.1⟩, ⟨by omega, h2.1.1.2⟩⟩, h2.1.2, by omega, fun x hx => ?_⟩
            have hI := mayIs_none P m j _ _ hj x hx
            unfold mayI at hI
            split at hI
            · cases hI
            · split at hI
              · cases hI
              · rename_i h4 h5
                split at hI
                · rename_i h6
                  rw [Bool.and_eq_true] at h6
                  obtain ⟨j1, j2⟩ := there_small P m x (by omega) (by omega) (fun c hc => (hC c hc).1) (by omega) (by omega) (by omega) h5 h6.1
                  have h7 := h6.2
                  unfold idleI at h7
                  simp only [Bool.and_eq_true, Bool.or_eq_true, beq_iff_eq] at h7
                  refine ⟨by omega, ?_, ?_, ?_⟩
                  · split
                    · rename_i hx; have := j1 hx; omega
                    · rename_i hx; exact h7.1.1.resolve_left hx
                  · split
                    · rename_i hx; have := j2 hx; omega
                    · rename_i hx; exact h7.1.2.resolve_left hx
                  · split
                    · exact hn m hm x hx
                    · rename_i hx; exact h7.2.resolve_left hx
                · cases hI
          · cases hH
end Go.Proofs.YtnojejplckhifaaDoor
