/- Plain: a rising list of picks, what is told of it, what is left; a slice of picks among the arguments. -/
import Derived.Test.YtomabogjoampnaaDoorRMay
import Derived.Test.YtomabogjoampnaaDoorAt
import Derived.Deep.Slices
import Derived.Deep.Fields
namespace Go.Proofs.YtomabogjoampnaaDoor
open Go.RowKit Go.ChangeShapes Go.WideShapes Go.Deep
set_option linter.unusedVariables false

def rises : Int → List Pk → Prop
  | _, [] => True
  | last, p :: r => last ≤ p.at_ ∧ rises p.at_ r
theorem mayF_rises : ∀ (l : List Pk) (i : Nat) (last : Int), mayF i last l = none → rises last l
  | [], _, _, _ => trivial
  | p :: r, i, last, h => by
    obtain ⟨h1, h2⟩ := mayF_none h p r rfl
    exact ⟨(mayP_in h1).2.2.2.2.2.2.2.2, mayF_rises r (i + 1) p.at_ h2⟩
theorem rises_all : ∀ (l : List Pk) (last : Int), rises last l → ∀ x ∈ l, last ≤ x.at_
  | [], _, _, x, hx => by cases hx
  | p :: r, last, h, x, hx => by
    rcases List.mem_cons.1 hx with rfl | hx
    · exact h.1
    · exact Int.le_trans h.1 (rises_all r p.at_ h.2 x hx)
theorem told_filter : ∀ (l : List Pk) (last p : Int), rises last l → told p l = l.filter (fun x => x.at_ == p)
  | [], _, _, _ => rfl
  | x :: r, last, p, h => by
    rw [told]
    by_cases h1 : x.at_ ≤ p
    · rw [if_pos h1, told_filter r x.at_ p h.2]
      by_cases h2 : x.at_ = p
      · rw [if_pos h2, List.filter_cons_of_pos (by simpa using h2)]
      · rw [if_neg h2, List.filter_cons_of_neg (by simpa using h2)]
    · rw [if_neg h1]
      symm
      rw [List.filter_eq_nil_iff]
      intro y hy
      have : x.at_ ≤ y.at_ := by
        rcases List.mem_cons.1 hy with rfl | hy
        · exact Int.le_refl _
        · exact rises_all r _ h.2 y hy
      simp
      omega
theorem told_left : ∀ (l : List Pk) (q p : Int), q < p → told p (left q l) = told p l
  | [], _, _, _ => rfl
  | x :: r, q, p, h => by
    rw [left]
    by_cases h1 : x.at_ ≤ q
    · rw [if_pos h1, told_left r q p h, told, if_pos (by omega), if_neg (by omega)]
    · rw [if_neg h1]
theorem left_left : ∀ (l : List Pk) (q p : Int), q ≤ p → left p (left q l) = left p l
  | [], _, _, _ => rfl
  | x :: r, q, p, h => by
    rw [left]
    by_cases h1 : x.at_ ≤ q
    · rw [if_pos h1, left_left r q p h, left, if_pos (by omega)]
    · rw [if_neg h1]
theorem left_len : ∀ (l : List Pk) (last q : Int), rises last l → (left q l).length = (l.filter (fun x => decide (q < x.at_))).length
  | [], _, _, _ => rfl
  | x :: r, last, q, h => by
    rw [left]
    by_cases h1 : x.at_ ≤ q
    · rw [if_pos h1, left_len r x.at_ q h.2, List.filter_cons_of_neg (by simp; omega)]
    · rw [if_neg h1]
      have : (x :: r).filter (fun x => decide (q < x.at_)) = x :: r := by
        rw [List.filter_eq_self]
        intro y hy
        have : x.at_ ≤ y.at_ := by
          rcases List.mem_cons.1 hy with rfl | hy
          · exact Int.le_refl _
          · exact rises_all r _ h.2 y hy
        simp
        omega
      rw [this]
theorem left_start (l : List Pk) (h : rises 0 l) : left (-1) l = l := by
  rcases l with _ | ⟨x, r⟩
  · rfl
  · rw [left, if_neg (by have := h.1; omega)]
theorem left_le : ∀ (l : List Pk) (q : Int), (left q l).length ≤ l.length
  | [], _ => Nat.le_refl _
  | x :: r, q => by
    rw [left]
    split
    · exact Nat.le_trans (left_le r q) (Nat.le_succ _)
    · exact Nat.le_refl _
theorem filter_take_succ {f : Pk → Bool} {l : List Pk} {k : Nat} {p : Pk} (h : l[k]? = some p) : (l.take (k + 1)).filter f = (l.take k).filter f ++ (if f p = true then [p] else []) := by
  obtain ⟨hk, rfl⟩ := List.getElem?_eq_some_iff.1 h
  rw [List.take_succ_eq_append_getElem hk, List.filter_append]
  by_cases hf : f l[k] = true
  · rw [if_pos hf, List.filter_cons_of_pos hf]; rfl
  · rw [if_neg hf, List.filter_cons_of_neg hf]; rfl
theorem list_of {Q : Nat → Pk → Prop} : ∀ n, (∀ i, i < n → ∃ p, Q i p) → ∃ l : List Pk, l.length = n ∧ ∀ i p, l[i]? = some p → Q i p
  | 0, _ => ⟨[], rfl, by simp⟩
  | n + 1, h => by
    obtain ⟨l, hl, hq⟩ := list_of n (fun i hi => h i (by omega))
    obtain ⟨p, hp⟩ := h n (by omega)
    refine ⟨l ++ [p], by simp [hl], fun i q hi => ?_⟩
    rcases Nat.lt_or_ge i n with hlt | hge
    · rw [List.getElem?_append_left (by omega)] at hi
      exact hq i q hi
    · rw [List.getElem?_append_right (by omega)] at hi
      have : i - l.length = 0 := by
        rcases Nat.eq_zero_or_pos (i - l.length) with h0 | h0
        · exact h0
        · rw [List.getElem?_eq_none (by simp; omega)] at hi; cases hi
      rw [this] at hi
      obtain rfl : p = q := by simpa using hi
      have : i = n := by omega
      subst this
      exact hp
theorem pks_get {l : List Pk} {j : Nat} {u : Value} (h : (pks l)[j]? = some u) : ∃ p, l[j / 4]? = some p ∧ (pkc p)[j % 4]? = some u := by
  have hj : j < (pks l).length := (List.getElem?_eq_some_iff.1 h).1
  rw [pks_len] at hj
  have hk : j / 4 < l.length := by omega
  refine ⟨l[j / 4], List.getElem?_eq_getElem hk, ?_⟩
  rw [← pks_at l (j / 4) (j % 4) hk (by omega), show j / 4 * 4 + j % 4 = j by omega]
  exact h
theorem open_picks {H : Type} {enc : TypeId × Value → H} {W : World} {v : Value} {d : DataW H} {ps : List MemPlace} {base : Nat}
    (hval : Value.okWide Tryd.prog W .any base 24 v) (h : DataW.Trod enc Tryd.prog W 0 (fun _ => true) true 24 v d ps) :
    ∃ (A : Option Addr) (n c : Nat) (l : List Pk), v = .slice A n c ∧ n ≤ c ∧ c ≤ maxLen ∧ l.length = n ∧ Reads W W.heap.size 4 A n (pks l) := by
  obtain ⟨a0, len, cap, rfl⟩ := okWide_slice Tryd.underlying24 hval
  obtain ⟨fuel, hf⟩ := h
  have hC : Tryd.prog.cellsOf 26 = 4 := by kernel_rfl
  have hI : Tryd.prog.cellsOf 3 = 1 := by kernel_rfl
  rcases open_slice Tryd.underlying24 hf with ⟨hcs, _⟩ | ⟨a, len', cap', m, n, D, Pl, hcs, _, hl, hm, hmm, _, hi⟩
  · simp [Value.cells] at hcs
    obtain ⟨rfl, rfl, rfl⟩ := hcs
    exact ⟨none, 0, 0, [], rfl, Nat.le_refl _, by decide, rfl, Reads.none_⟩
  · simp [Value.cells] at hcs
    obtain ⟨rfl, rfl, rfl⟩ := hcs
    have hall : ∀ i, i < len → ∃ p : Pk, ∀ j, j < 4 → W.cell? (a.add (i * 4 + j)) = (pkc p)[j]? := by
      intro i hi'
      obtain ⟨cs', hc, ht⟩ := hi i (by rw [hmm]; simp; omega)
      rw [hC] at hc
      obtain ⟨xs, n', _, _, hlen, hxl, hg⟩ := DataW.trod_struct Tryd.underlying26 ht
      obtain ⟨_, hcl, hat⟩ := World.cells?_some hc
      rw [hC] at hlen
      match cs', hlen with
      | [c0, c1, c2, c3], _ =>
        have g : ∀ (j : Nat) (f : Field) (u : Value), (match Tryd.prog.underlying 26 with | some (.struct fs) => fs[j]? | _ => none) = some f → f.type = 3 → ([c0, c1, c2, c3].drop f.offset).take 1 = [u] → ∃ z, u = .int .i64 z := by
          intro j f u hfj hty hu
          rw [Tryd.underlying26] at hfj
          have hgj := hg j f hfj
          rw [hty, hI, hu] at hgj
          have hjl : j < xs.length := by
            rw [hxl]
            exact (Array.getElem?_eq_some_iff.1 hfj).1
          rw [List.getElem?_eq_getElem hjl] at hgj
          obtain ⟨z, hz, _⟩ := DataW.trod_int Tryd.underlying3 hgj
          exact ⟨z, by simpa using hz⟩
        obtain ⟨z0, rfl⟩ := g 0 _ c0 (by rw [Tryd.underlying26]; rfl) rfl rfl
        obtain ⟨z1, rfl⟩ := g 1 _ c1 (by rw [Tryd.underlying26]; rfl) rfl rfl
        obtain ⟨z2, rfl⟩ := g 2 _ c2 (by rw [Tryd.underlying26]; rfl) rfl rfl
        obtain ⟨z3, rfl⟩ := g 3 _ c3 (by rw [Tryd.underlying26]; rfl) rfl rfl
        exact ⟨⟨z0, z1, z2, z3⟩, fun j hj => by rw [← add_of_add, hat j hj]; rfl⟩
    obtain ⟨l, hln, hq⟩ := list_of len hall
    refine ⟨some a, len, cap, l, rfl, hl, hm, hln, ⟨by rw [pks_len, hln], fun hn => ⟨a, rfl, ?_, fun j u hu => ?_⟩⟩⟩
    · have hl0 : 0 < l.length := by omega
      have := hq 0 _ (List.getElem?_eq_getElem hl0) 0 (by omega)
      have h2 : W.cell? (a.add 0) = some (.int .i64 l[0].at_) := this
      simpa [Addr.add] using World.block_lt_of_cell? W _ h2
    · obtain ⟨p, hp, hu'⟩ := pks_get hu
      have := hq _ p hp (j % 4) (by omega)
      rw [show j / 4 * 4 + j % 4 = j by omega] at this
      rw [this]
      exact hu'
theorem own_cap {w : World} {base n c : Nat} {e : TypeId} {size : Nat} {A : Option Addr} {xs : List Value} (h : w.ownsRow base e size (.slice A n c) n xs) : n ≤ c := by
  rcases h.2 with ⟨_, hn⟩ | ⟨g, cap, cur, hv, _, _, hc, _⟩
  · omega
  · injection hv with _ _ h3
    omega
theorem ScrAt.lt {w : World} {b : Nat} {l : List Pk} {last : Int} (h : ScrAt w b l last) : b < w.heap.size := by
  obtain ⟨A, c, h1, _⟩ := h
  exact h1.lt
def NewScr (w : World) (l : List Pk) (e : Ending) (w' : World) : Prop :=
  ∃ b, e = .returned (.tuple #[.pointer (some ⟨b, 0, none⟩), .nilIface]) ∧ w.heap.size ≤ b ∧ ScrAt w' b l (-1) ∧ Below w.heap.size w w'
set_option maxRecDepth 100000 in
set_option maxHeartbeats 400000 in
theorem new_scr (A : Option Addr) (n c : Nat) (l : List Pk) (ak ai as_ : Addr) (w : World) (ha : Reads w w.heap.size 4 A n (pks l)) (hl : l.length = n) (hn : n ≤ 400) (h3 : E3 w ak ai as_) (hm : mayF 0 0 l = none) :
    Calls Tryd.prog 13 #[.slice A n c] w (NewScr w l) := by
  have HA := Lib.hid ha
  have HM := Lib.hid hm
  have H3 := Lib.hid h3
  have HL := Lib.hid hl
  clear ha hm h3
  go_enter Tryd.func13, Tryd.ntmps13
  go_wp2_with fail
  refine (mayL_in A n c l ak ai as_ _ HA.out hl hn H3.out.hg H3.out.hk H3.out.hi H3.out.hs).mono ?_
  rintro e w1 ⟨hb1, he⟩
  rw [HM.out] at he
  replace he : e = .returned .nilIface := he
  subst he
  go_wp2_with fail
  refine (clone_any A n c l _ ((HA.out.below hb1).more hb1.size) hl hn).mono ?_
  rintro e w2 ⟨A2, c2, rfl, hown, hb2⟩
  have HO := Lib.hid hown
  clear hown hl
  go_wp2
  go_ret2
  have hbw := hb1.trans (hb2.mono hb1.size)
  refine ⟨w2.heap.size, rfl, hbw.size, ⟨A2, c2, ?_, ?_, ?_⟩, hbw.alloc hbw.size _⟩
  · rw [HL.out]; exact Blk.new _ _ _
  · rw [HL.out]; exact (Reads.of_own HO.out).alloc (Nat.le_refl _) _
  · rw [HL.out]; exact own_cap HO.out
theorem lst4_at : ∀ i : Nat, i < 4 → ∃ x, lst4[i]? = some x ∧ Tryd.prog.globalNamed x.1 = some ([0, 1, 2, 3].getD i 0)
  | 0, _ => ⟨_, rfl, by kernel_rfl⟩
  | 1, _ => ⟨_, rfl, by kernel_rfl⟩
  | 2, _ => ⟨_, rfl, by kernel_rfl⟩
  | 3, _ => ⟨_, rfl, by kernel_rfl⟩
  | n + 4, h => by omega
theorem e3_of {w : World} {ads : List Addr} (e1 : ads.length = lst4.length) (e3 : ∀ (i : Nat) x a g, lst4[i]? = some x → ads[i]? = some a → Tryd.prog.globalNamed x.1 = some g → SentAt w g a) :
    E3 w (ads.getD 1 ⟨0, 0, none⟩) (ads.getD 2 ⟨0, 0, none⟩) (ads.getD 3 ⟨0, 0, none⟩) := by
  have hl : ads.length = 4 := e1
  have H : ∀ i, (h : i < 4) → SentAt w ([0, 1, 2, 3].getD i 0) (ads.getD i ⟨0, 0, none⟩) := fun i hi => by
    obtain ⟨x, hx, hg⟩ := lst4_at i hi
    have ha : ads[i]? = some (ads.getD i ⟨0, 0, none⟩) := by simp [List.getElem?_eq_getElem (show i < ads.length by omega)]
    exact e3 i x _ _ hx ha hg
  exact ⟨(H 1 (by decide)).1, (H 2 (by decide)).1, (H 3 (by decide)).1, cell_lt (H 3 (by decide)).1⟩
end Go.Proofs.YtomabogjoampnaaDoor
