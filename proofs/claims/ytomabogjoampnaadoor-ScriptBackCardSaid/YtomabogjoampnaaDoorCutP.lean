/- Plain: the bytes of picks, and what is read of them, whole or cut off. -/
import Derived.Test.YtomabogjoampnaaDoorPrsP
import Derived.Test.YtomabogjoampnaaDoorPlaysP
namespace Go.Proofs.YtomabogjoampnaaDoor
open Go.RowKit
set_option linter.unusedVariables false

theorem u64_small {x : Nat} (h : x ≤ 1048576) : U64 x := Nat.lt_of_le_of_lt h (by decide)
theorem nr_is {B pre post : List Nat} {u k k' : Nat} (hB : B = pre ++ (enc u ++ post)) (hk : k = pre.length) (hk' : k' = k + (enc u).length) (hu : u ≤ 1048576) : nr B k = some (u, k') := by
  subst hB hk hk'
  unfold nr
  rw [tk_enc pre post u (u64_small hu)]
  simp [hu]
theorem step_prn (B pre post : List Nat) (last : Int) (p : Pk) (hp : mayP p last = 0) (h0 : 0 ≤ last) (hB : B = pre ++ (prn1 last p ++ post)) : prsStep B pre.length last = some (p, pre.length + (prn1 last p).length) := by
  obtain ⟨b1, b2, b3, b4, b5, b6, b7, b8, b9⟩ := mayP_in hp
  have hA := limA_le p.act
  have hLB := limB_le p.act
  obtain ⟨at_, act, x, y⟩ := p
  dsimp only at *
  obtain ⟨d, hd⟩ : ∃ d : Nat, (at_ - last).toNat = d := ⟨_, rfl⟩
  obtain ⟨t, rfl⟩ := Int.eq_ofNat_of_zero_le (show 0 ≤ act by omega)
  obtain ⟨x, rfl⟩ := Int.eq_ofNat_of_zero_le b5
  obtain ⟨y, rfl⟩ := Int.eq_ofNat_of_zero_le b7
  have hat : at_ = last + d := by omega
  subst hat
  obtain ⟨k0, h0'⟩ : ∃ k, k = pre.length := ⟨_, rfl⟩
  obtain ⟨k1, h1'⟩ : ∃ k, k = k0 + (enc d).length := ⟨_, rfl⟩
  obtain ⟨k2, h2'⟩ : ∃ k, k = k1 + (enc t).length := ⟨_, rfl⟩
  rw [← h0']
  by_cases h3 : t = 3
  · subst h3
    have P : prn1 last ⟨last + (d : Int), ((3 : Nat) : Int), (x : Int), (y : Int)⟩ = enc d ++ (enc 3 ++ (enc x ++ enc y)) := by
      unfold prn1
      dsimp only
      rw [hd]
      simp
    rw [P] at hB ⊢
    obtain ⟨k3, h3'⟩ : ∃ k, k = k2 + (enc x).length := ⟨_, rfl⟩
    obtain ⟨k4, h4'⟩ : ∃ k, k = k3 + (enc y).length := ⟨_, rfl⟩
    have n1 : nr B k0 = some (d, k1) := nr_is (pre := pre) (post := enc 3 ++ (enc x ++ enc y) ++ post) (by rw [hB]; simp) h0' h1' (by omega)
    have n2 : nr B k1 = some (3, k2) := nr_is (pre := pre ++ enc d) (post := enc x ++ enc y ++ post) (by rw [hB]; simp) (by simp; omega) h2' (by omega)
    have n3 : nr B k2 = some (x, k3) := nr_is (pre := pre ++ enc d ++ enc 3) (post := enc y ++ post) (by rw [hB]; simp) (by simp; omega) h3' (by omega)
    have n4 : nr B k3 = some (y, k4) := nr_is (pre := pre ++ enc d ++ enc 3 ++ enc x) (post := post) (by rw [hB]; simp) (by simp; omega) h4' (by omega)
    unfold prsStep
    rw [n1]
    dsimp only
    rw [n2]
    dsimp only
    rw [if_pos rfl, n3]
    dsimp only
    rw [n4]
    dsimp only
    congr 2
    simp
    omega
  · by_cases h5 : t = 5
    · subst h5
      have hx : x = 0 := by unfold limA at b6; simp at b6; omega
      subst hx
      have P : prn1 last ⟨last + (d : Int), ((5 : Nat) : Int), ((0 : Nat) : Int), (y : Int)⟩ = enc d ++ (enc 5 ++ enc y) := by
        unfold prn1
        dsimp only
        rw [hd]
        simp
      rw [P] at hB ⊢
      obtain ⟨k3, h3'⟩ : ∃ k, k = k2 + (enc y).length := ⟨_, rfl⟩
      have n1 : nr B k0 = some (d, k1) := nr_is (pre := pre) (post := enc 5 ++ enc y ++ post) (by rw [hB]; simp) h0' h1' (by omega)
      have n2 : nr B k1 = some (5, k2) := nr_is (pre := pre ++ enc d) (post := enc y ++ post) (by rw [hB]; simp) (by simp; omega) h2' (by omega)
      have n3 : nr B k2 = some (y, k3) := nr_is (pre := pre ++ enc d ++ enc 5) (post := post) (by rw [hB]; simp) (by simp; omega) h3' (by omega)
      unfold prsStep
      rw [n1]
      dsimp only
      rw [n2]
      dsimp only
      rw [if_neg (by decide), if_pos rfl, n3]
      dsimp only
      congr 2
      simp
      omega
    · have e3 : ¬ ((t : Int) = 3) := by omega
      have e5 : ¬ ((t : Int) = 5) := by omega
      have hx : x = 0 := by unfold limA at b6; rw [if_neg e3] at b6; omega
      have hy : y = 0 := by unfold limB at b8; rw [if_neg e3, if_neg e5] at b8; omega
      subst hx hy
      have P : prn1 last ⟨last + (d : Int), (t : Int), ((0 : Nat) : Int), ((0 : Nat) : Int)⟩ = enc d ++ enc t := by
        unfold prn1
        dsimp only
        rw [hd, if_neg e3, if_neg (by omega)]
        simp
      rw [P] at hB ⊢
      have n1 : nr B k0 = some (d, k1) := nr_is (pre := pre) (post := enc t ++ post) (by rw [hB]; simp) h0' h1' (by omega)
      have n2 : nr B k1 = some (t, k2) := nr_is (pre := pre ++ enc d) (post := post) (by rw [hB]; simp) (by simp; omega) h2' (by omega)
      unfold prsStep
      rw [n1]
      dsimp only
      rw [n2]
      dsimp only
      rw [if_neg h3, if_neg h5]
      congr 2
      simp
      omega
theorem prn1_pos (last : Int) (p : Pk) : 0 < (prn1 last p).length := by
  unfold prn1
  have := enc_pos (p.at_ - last).toNat
  simp
  omega
theorem run_all : ∀ (r : List Pk) (B : List Nat) (out : List Pk) (pre : List Nat) (last : Int) (i : Nat), mayF i last r = none → 0 ≤ last → B = pre ++ prn last r → Run B out pre.length last → ∃ le, Run B (out ++ r) B.length le
  | [], B, out, pre, last, i, _, _, hB, h => ⟨last, by simp [prn] at hB; subst hB; simpa using h⟩
  | p :: r, B, out, pre, last, i, hm, h0, hB, h => by
    obtain ⟨h1, h2⟩ := mayF_none hm p r rfl
    have hin := mayP_in h1
    have hB' : B = pre ++ (prn1 last p ++ prn p.at_ r) := hB
    have hs := step_prn B pre (prn p.at_ r) last p h1 h0 hB'
    have hlt : pre.length < B.length := by rw [hB']; have := prn1_pos last p; simp; omega
    have hr := Run.step h hlt hs
    have := run_all r B (out ++ [p]) (pre ++ prn1 last p) p.at_ (i + 1) h2 (by omega) (by rw [hB']; simp) (by simpa using hr)
    simpa using this
theorem run_prn_all (l : List Pk) (hm : mayF 0 0 l = none) : ∃ le, Run (prn 0 l) l (prn 0 l).length le := by
  have := run_all l (prn 0 l) [] [] 0 0 hm (by omega) rfl .start
  simpa using this
theorem prn_bytes : ∀ (l : List Pk) (last : Int), ∀ x ∈ prn last l, x < 256
  | [], _, x, hx => by simp [prn] at hx
  | p :: r, last, x, hx => by
    rcases List.mem_append.1 hx with hx | hx
    · unfold prn1 at hx
      rcases List.mem_append.1 hx with hx | hx
      · rcases List.mem_append.1 hx with hx | hx
        · rcases List.mem_append.1 hx with hx | hx
          · exact enc_byte _ x hx
          · exact enc_byte _ x hx
        · split at hx
          · exact enc_byte _ x hx
          · cases hx
      · split at hx
        · exact enc_byte _ x hx
        · cases hx
    · exact prn_bytes r p.at_ x hx
theorem prn1_len (last : Int) (p : Pk) : (prn1 last p).length ≤ 40 := by
  unfold prn1
  have h1 := enc_len (p.at_ - last).toNat
  have h2 := enc_len p.act.toNat
  have h3 := enc_len p.a.toNat
  have h4 := enc_len p.b.toNat
  simp only [List.length_append]
  split <;> split <;> simp <;> omega
theorem prn_len : ∀ (l : List Pk) (last : Int), (prn last l).length ≤ 40 * l.length
  | [], _ => by simp [prn]
  | p :: r, last => by
    have h1 := prn1_len last p
    have h2 := prn_len r p.at_
    simp [prn]
    omega
end Go.Proofs.YtomabogjoampnaaDoor
