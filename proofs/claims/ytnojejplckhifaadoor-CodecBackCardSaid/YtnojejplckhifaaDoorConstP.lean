/- Plain: a program of constants: it may be, and so many are its bytes. -/
import Derived.Test.YtnojejplckhifaaDoorCdcP
namespace Go.Proofs.YtnojejplckhifaaDoor
open Go.RowKit
set_option linter.unusedVariables false

def cI (n : Int) : Ins := ⟨1, 0, 0, n⟩
def retI : Ins := ⟨33, 0, 0, 0⟩
def conM (z : List Int) : Met := ⟨[], [], [], z.map cI ++ [retI]⟩
def conP (z : List Int) : Prg := ⟨[], [conM z]⟩
/-- so many bytes for the constants -/
def conN : List Int → Nat
  | [] => 0
  | n :: z => 1 + (enc (zig n).toNat).length + conN z
theorem conN_snoc (z : List Int) (n : Int) : conN (z ++ [n]) = conN z + 1 + (enc (zig n).toNat).length := by
  induction z with
  | nil => simp [conN]
  | cons x z ih => simp [conN, ih]; omega
theorem conN_le (z : List Int) : conN z ≤ 11 * z.length := by
  induction z with
  | nil => simp [conN]
  | cons x z ih => have := enc_len (zig x).toNat; simp [conN]; omega
theorem mayIs_all (P : Prg) (m : Met) (i : Nat) : ∀ (l : List Ins) (pc : Nat), (∀ x ∈ l, mayI P m x = none) → mayIs P m i pc l = none
  | [], _, _ => rfl
  | x :: r, pc, h => by
    rw [mayIs, h x (by simp)]
    exact mayIs_all P m i r (pc + 1) (fun y hy => h y (by simp [hy]))
theorem may_cI (P : Prg) (m : Met) (n : Int) : mayI P m (cI n) = none := by
  simp [mayI, cI, thereI, idleI, hasA, hasB]
theorem may_retI (P : Prg) (m : Met) : mayI P m retI = none := by
  simp [mayI, retI, thereI, idleI, hasA, hasB]
theorem con_mayH (z : List Int) (h : z.length ≤ 40) : mayH (conM z) true = none := by
  unfold mayH conM
  rw [if_neg (by simp; omega)]
  simp [lettersB, retB]
theorem con_may (z : List Int) (h : z.length ≤ 40) : mayP (conP z) = none := by
  unfold mayP conP
  rw [if_neg (by simp)]
  simp only [mayCs, mayMs]
  have e : mayM ⟨[], [conM z]⟩ 0 (conM z) = none := by
    unfold mayM
    rw [show ((0 : Nat) == 0) = true from rfl, con_mayH z h]
    refine mayIs_all _ _ _ _ _ (fun x hx => ?_)
    simp only [conM, List.mem_append, List.mem_map, List.mem_singleton] at hx
    rcases hx with ⟨n, _, rfl⟩ | rfl
    · exact may_cI _ _ n
    · exact may_retI _ _
  rw [e]
theorem enc_one (n : Nat) (h : n < 128) : enc n = [n] := encF_low 9 n h
theorem con_flat (z : List Int) : ((z.map cI).flatMap encI).length = conN z := by
  induction z with
  | nil => rfl
  | cons n z ih =>
    rw [List.map_cons, List.flatMap_cons, List.length_append, ih, conN]
    have : (encI (cI n)).length = 1 + (enc (zig n).toNat).length := by
      unfold encI cI
      simp [hasA, hasB]
      omega
    omega
theorem con_len (z : List Int) (h : z.length ≤ 40) : (encP (conP z)).length = 9 + conN z + 1 := by
  have e0 : enc (0 : Nat) = [0] := enc_one 0 (by decide)
  have e1 : enc (1 : Nat) = [1] := enc_one 1 (by decide)
  have e2 : enc (z.length + 1) = [z.length + 1] := enc_one _ (by omega)
  have e3 : (encI retI).length = 1 := by unfold encI retI; simp [hasA, hasB]
  have e4 := con_flat z
  unfold encP conP encM conM encS encR
  simp [e0, e1, e2, nats, e3] at e4 ⊢
  omega
theorem con_ok (z : List Int) (h : z.length ≤ 40) (hz : ∀ n ∈ z, I64 n) : okP (conP z) := may_ok _ (con_may z h) (by
  intro m hm x hx
  obtain rfl := List.mem_singleton.1 hm
  simp only [conM, List.mem_append, List.mem_map, List.mem_singleton] at hx
  rcases hx with ⟨n, hn, rfl⟩ | rfl
  · exact hz n hn
  · show I64 0; unfold I64; omega)
theorem con_dec (z : List Int) (h : z.length ≤ 40) (hz : ∀ n ∈ z, I64 n) : decP (encP (conP z)) = (some (conP z), none) :=
  dec_enc _ (con_ok z h hz) (con_may z h) (by rw [con_len z h]; have := conN_le z; omega)
/-! ### bytes are bytes -/
theorem encS_lt (s : List UInt8) : ∀ c ∈ encS s, c < 256 := by
  intro c hc
  unfold encS at hc
  rcases List.mem_append.1 hc with h | h
  · exact enc_byte _ c h
  · exact nats_lt s c h
theorem encR_lt (s : List UInt8) : ∀ c ∈ encR s, c < 256 := by
  intro c hc
  unfold encR at hc
  split at hc
  · obtain rfl := List.mem_singleton.1 hc; decide
  · exact nats_lt s c hc
theorem encI_lt (x : Ins) (h : x.op.toNat < 256) : ∀ c ∈ encI x, c < 256 := by
  intro c hc
  unfold encI at hc
  rcases List.mem_cons.1 hc with rfl | hc
  · exact h
  · rcases List.mem_append.1 hc with hc | hc
    · split at hc
      · exact enc_byte _ c hc
      · cases hc
    · rcases List.mem_append.1 hc with hc | hc
      · split at hc
        · exact enc_byte _ c hc
        · cases hc
      · split at hc
        · exact enc_byte _ c hc
        · cases hc
theorem encM_lt (m : Met) (h : ∀ x ∈ m.code, x.op.toNat < 256) : ∀ c ∈ encM m, c < 256 := by
  intro c hc
  unfold encM at hc
  rcases List.mem_append.1 hc with hc | hc
  · exact encS_lt _ c hc
  · rcases List.mem_append.1 hc with hc | hc
    · exact encS_lt _ c hc
    · rcases List.mem_append.1 hc with hc | hc
      · exact encR_lt _ c hc
      · rcases List.mem_append.1 hc with hc | hc
        · exact enc_byte _ c hc
        · obtain ⟨x, hx, hcx⟩ := List.mem_flatMap.1 hc
          exact encI_lt x (h x hx) c hcx
theorem encP_lt (P : Prg) (h : okP P) : ∀ c ∈ encP P, c < 256 := by
  intro c hc
  unfold encP at hc
  rcases List.mem_append.1 hc with hc | hc
  · simp at hc; omega
  · rcases List.mem_append.1 hc with hc | hc
    · exact enc_byte _ c hc
    · rcases List.mem_append.1 hc with hc | hc
      · obtain ⟨x, hx, hcx⟩ := List.mem_flatMap.1 hc
        exact encS_lt x c hcx
      · rcases List.mem_append.1 hc with hc | hc
        · exact enc_byte _ c hc
        · obtain ⟨m, hm, hcm⟩ := List.mem_flatMap.1 hc
          refine encM_lt m (fun x hx => ?_) c hcm
          have := ((h.2.2 m hm).2.2.2 x hx).1
          omega
end Go.Proofs.YtnojejplckhifaaDoor
