/- Rows of ints: Sorted. -/
import Derived.Test.YtcaoeoggabbekaaDoorRowsB
namespace Go.Proofs.YtcaoeoggabbekaaDoor
open Go.RowKit Go.Shelf
set_option linter.unusedVariables false

def posI (x : Int) : List Int → Nat
  | [] => 0
  | y :: r => if y < x then posI x r + 1 else 0
theorem posI_le (x : Int) : ∀ l, posI x l ≤ l.length
  | [] => Nat.le_refl _
  | y :: r => by
    rw [posI]
    split
    · have := posI_le x r; simp; omega
    · simp
theorem posI_lt (x : Int) : ∀ (l : List Int) (k : Nat), k < posI x l → ∃ y, l[k]? = some y ∧ y < x
  | [], k, h => by simp [posI] at h
  | y :: r, k, h => by
    rw [posI] at h
    split at h
    · rename_i hy
      cases k with
      | zero => exact ⟨y, rfl, hy⟩
      | succ k => exact posI_lt x r k (by omega)
    · omega
theorem posI_ge (x : Int) : ∀ (l : List Int) (y : Int), l[posI x l]? = some y → x ≤ y
  | [], y, h => by simp [posI] at h
  | z :: r, y, h => by
    rw [posI] at h
    split at h
    · exact posI_ge x r y (by simpa using h)
    · simp at h
      omega
def insI (out : List Int) (x : Int) : List Int := if out[posI x out]? = some x then out else out.take (posI x out) ++ [x] ++ out.drop (posI x out)
def srt (l : List Int) : List Int := l.foldl insI []
theorem srt_snoc (l : List Int) (x : Int) : srt (l ++ [x]) = insI (srt l) x := by simp [srt]
theorem insI_len (out : List Int) (x : Int) : (insI out x).length ≤ out.length + 1 := by
  unfold insI
  split
  · omega
  · have := posI_le x out
    simp
    omega
theorem snoc_ind {P : List Int → Prop} (h0 : P []) (h1 : ∀ l x, P l → P (l ++ [x])) (l : List Int) : P l := by
  have h : ∀ m : List Int, P m.reverse := by
    intro m
    induction m with
    | nil => exact h0
    | cons x r ih => rw [List.reverse_cons]; exact h1 _ _ ih
  have := h l.reverse
  rwa [List.reverse_reverse] at this
theorem srt_len (l : List Int) : (srt l).length ≤ l.length := by
  refine snoc_ind (P := fun l => (srt l).length ≤ l.length) (Nat.le_refl _) (fun l x ih => ?_) l
  rw [srt_snoc]
  have := insI_len (srt l) x
  simp
  omega
def rising (l : List Int) : Prop := l.Pairwise (· < ·)
theorem insI_cons (y : Int) (r : List Int) (x : Int) : insI (y :: r) x = if y < x then y :: insI r x else if y = x then y :: r else x :: y :: r := by
  unfold insI
  rw [posI]
  by_cases h : y < x
  · rw [if_pos h, if_pos h, List.getElem?_cons_succ]
    split <;> simp
  · rw [if_neg h, if_neg h]
    by_cases e : y = x
    · simp [e]
    · simp [e]
theorem insI_mem (x z : Int) : ∀ l, z ∈ insI l x ↔ z ∈ l ∨ z = x
  | [] => by simp [insI, posI]
  | y :: r => by
    rw [insI_cons]
    split
    · rw [List.mem_cons, insI_mem x z r, List.mem_cons, or_assoc]
    · split
      · rename_i e
        subst e
        simp
        exact fun h => .inl h
      · simp only [List.mem_cons]
        constructor
        · rintro (h | h | h)
          · exact .inr h
          · exact .inl (.inl h)
          · exact .inl (.inr h)
        · rintro ((h | h) | h)
          · exact .inr (.inl h)
          · exact .inr (.inr h)
          · exact .inl h
theorem insI_rising (x : Int) : ∀ l, rising l → rising (insI l x)
  | [], _ => by simp [insI, posI, rising]
  | y :: r, h => by
    rw [insI_cons]
    unfold rising at h ⊢
    rw [List.pairwise_cons] at h
    split
    · rename_i hy
      rw [List.pairwise_cons]
      refine ⟨fun z hz => ?_, insI_rising x r h.2⟩
      rcases (insI_mem x z r).1 hz with hz | rfl
      · exact h.1 z hz
      · exact hy
    · split
      · rw [List.pairwise_cons]; exact h
      · rw [List.pairwise_cons, List.pairwise_cons]
        refine ⟨fun z hz => ?_, h⟩
        rcases List.mem_cons.1 hz with rfl | hz
        · omega
        · have := h.1 z hz; omega
theorem srt_mem (z : Int) (l : List Int) : z ∈ srt l ↔ z ∈ l := by
  refine snoc_ind (P := fun l => z ∈ srt l ↔ z ∈ l) (by simp [srt]) (fun l x ih => ?_) l
  rw [srt_snoc, insI_mem, ih, List.mem_append, List.mem_singleton]
theorem srt_rising (l : List Int) : rising (srt l) := by
  refine snoc_ind (P := fun l => rising (srt l)) (by simp [srt, rising]) (fun l x ih => ?_) l
  rw [srt_snoc]
  exact insI_rising x _ ih
theorem rising_ext : ∀ {l m : List Int}, rising l → rising m → (∀ z, z ∈ l ↔ z ∈ m) → l = m
  | [], [], _, _, _ => rfl
  | [], y :: m, _, _, h => absurd ((h y).2 (by simp)) (by simp)
  | x :: l, [], _, _, h => absurd ((h x).1 (by simp)) (by simp)
  | x :: l, y :: m, hl, hm, h => by
    unfold rising at hl hm
    rw [List.pairwise_cons] at hl hm
    have e : x = y := by
      rcases List.mem_cons.1 ((h x).1 (by simp)) with e | hx
      · exact e
      · rcases List.mem_cons.1 ((h y).2 (by simp)) with e | hy
        · exact e.symm
        · have := hl.1 y hy
          have := hm.1 x hx
          omega
    subst e
    congr 1
    refine rising_ext hl.2 hm.2 fun z => ?_
    constructor
    · intro hz
      have hlt := hl.1 z hz
      rcases List.mem_cons.1 ((h z).1 (by simp [hz])) with e | hz'
      · omega
      · exact hz'
    · intro hz
      have hlt := hm.1 z hz
      rcases List.mem_cons.1 ((h z).2 (by simp [hz])) with e | hz'
      · omega
      · exact hz'
theorem elsI_rising (p : Nat → Bool) (N : Nat) : rising (elsI p N) := by
  unfold rising elsI els
  rw [List.pairwise_map]
  exact (List.Pairwise.filter _ List.pairwise_lt_range).imp (fun h => by omega)
/-- a list of just these numbers, sorted -/
theorem srt_is {l : List Int} {p : Nat → Bool} {N : Nat} (h1 : ∀ x ∈ l, 0 ≤ x ∧ x < N) (h2 : ∀ j, j < N → ((j : Int) ∈ l ↔ p j = true)) : srt l = elsI p N := by
  refine rising_ext (srt_rising l) (elsI_rising p N) fun z => ?_
  rw [srt_mem]
  constructor
  · intro hz
    obtain ⟨a, b⟩ := h1 z hz
    obtain ⟨j, rfl⟩ : ∃ j : Nat, z = (j : Int) := ⟨z.toNat, by omega⟩
    exact mem_elsI.2 ⟨by omega, (h2 j (by omega)).1 hz⟩
  · intro hz
    have hz' := hz
    rw [elsI, List.mem_map] at hz'
    obtain ⟨j, _, rfl⟩ := hz'
    obtain ⟨a, b⟩ := mem_elsI.1 hz
    exact (h2 j a).2 b
theorem Reads.take {w : World} {B size n k : Nat} {A : Option Addr} {xs : List Value} (h : Reads w B size A n xs) (hk : k ≤ n) : Reads w B size A k (xs.take (k * size)) := by
  have hl := h.1
  have hm : k * size ≤ n * size := Nat.mul_le_mul_right size hk
  refine ⟨by rw [List.length_take]; omega, fun h0 => ?_⟩
  obtain ⟨ad, e, hb, hc⟩ := h.2 (by omega)
  refine ⟨ad, e, hb, fun j u hu => ?_⟩
  rw [List.getElem?_take] at hu
  split at hu
  · exact hc j u hu
  · cases hu
theorem own_caps {w : World} {base n c : Nat} {e : TypeId} {size : Nat} {A : Option Addr} {xs : List Value} (h : w.ownsRow base e size (.slice A n c) n xs) : n ≤ c ∧ c ≤ maxLen := by
  rcases h.2 with ⟨hv, hn⟩ | ⟨g, cap, cur, hv, _, _, h1, h2, _⟩
  · injection hv with _ _ h3
    subst h3 hn
    exact ⟨Nat.le_refl _, by decide⟩
  · injection hv with _ _ h3
    subst h3
    exact ⟨h1, h2⟩
theorem iv_take {w : World} {B n k : Nat} {A : Option Addr} {l : List Int} (h : Reads w B 1 A n (l.map iv)) (hk : k ≤ n) : Reads w B 1 A k ((l.take k).map iv) := by
  have := h.take hk
  rwa [Nat.mul_one, ← List.map_take] at this
theorem iv_cut {w : World} {B n k c : Nat} {A : Option Addr} {l : List Int} (h : Reads w B 1 A n (l.map iv)) (hk : k ≤ n) (hc : n ≤ c) : Reads w B 1 (if c = k then A else A.map (·.add k)) (n - k) ((l.drop k).map iv) := by
  have := h.cut hk hc
  rwa [Nat.mul_one, ← List.map_drop] at this
theorem own_base {w : World} {base base' : Nat} {e : TypeId} {size n : Nat} {v : Value} {xs : List Value} (h : w.ownsRow base e size v n xs) (hb : base' ≤ base) : w.ownsRow base' e size v n xs := by
  refine ⟨h.1, ?_⟩
  rcases h.2 with hv | ⟨g, cap, cur, hv, hg, hh⟩
  · exact .inl hv
  · exact .inr ⟨g, cap, cur, hv, Nat.le_trans hb hg, hh⟩
def SortRel (w : World) (l : List Int) (so si : Value) (wr : World) : Prop :=
  ∃ k : Nat, k ≤ l.length ∧ si = .int .i64 (k : Int) ∧ wr.ownsRow w.heap.size 3 1 so (srt (l.take k)).length ((srt (l.take k)).map iv) ∧ Below w.heap.size w wr
def PosRel (w : World) (x : Int) (out : List Int) (sk : Value) (wr : World) : Prop :=
  ∃ q : Nat, q ≤ posI x out ∧ sk = .int .i64 (q : Int) ∧ Below w.heap.size w wr
set_option maxRecDepth 100000 in
set_option maxHeartbeats 2000000 in
theorem sorted_any (A : Option Addr) (m c : Nat) (l : List Int) (w : World) (ha : Reads w w.heap.size 1 A m (l.map iv)) (hm : m ≤ 1048576) :
    Calls Tryd.prog 21 #[.slice A m c] w (RowPost w (srt l)) := by
  obtain ⟨i0, hi, hz0, hz1, hz2⟩ := info_parts info_int
  have HL : Hid (l.length = m) := Lib.hid (by have := ha.1; simpa using this)
  have HA := Lib.hid ha
  clear ha
  go_enter Tryd.func21, Tryd.ntmps21
  go_wp2
  go_loopw [3, 4] (fun so si wr => SortRel w l so si wr) (fun _ si _ => m - (intOf si).toNat)
  case atStart => exact ⟨0, Nat.zero_le _, rfl, ⟨rfl, .inl ⟨rfl, rfl⟩⟩, Below.refl _ _⟩
  case round =>
    obtain ⟨k, hk, rfl, hown, hbr⟩ := hrel
    have HBR := Lib.hid hbr
    by_cases hlt : k < m
    · obtain ⟨ad, x, rfl, had, hx, hcell⟩ := iv_at (HA.out.below HBR.out) hlt
      obtain ⟨out, hout⟩ : ∃ out, out = srt (l.take k) := ⟨_, rfl⟩
      have hol : out.length ≤ 1048576 := by rw [hout]; have := srt_len (l.take k); have := List.length_take_le k l; omega
      rw [← hout] at hown
      obtain ⟨Ao, co, rfl, hro⟩ := own_reads hown
      obtain ⟨L, hL⟩ : ∃ L, L = out.length := ⟨_, rfl⟩
      rw [← hL] at hown hro hol ⊢
      have HLo := Lib.hid hL
      have HOUT := Lib.hid hout
      have HX := Lib.hid hx
      have HO := Lib.hid hown
      have HRO := Lib.hid hro
      clear hx hout hL hown hro hbr
      obtain ⟨wo, rfl⟩ : ∃ wo : World, wo = wr := ⟨_, rfl⟩
      have k0 : (0 : Int) ≤ (k : Int) := by omega
      have k1 : (k : Int) < (m : Int) := by omega
      go_wp2
      go_loopw [5] (fun sk wq => PosRel wo x out sk wq) (fun sk _ => L - (intOf sk).toNat)
      case atStart => exact ⟨0, Nat.zero_le _, rfl, Below.refl _ _⟩
      case round =>
        obtain ⟨q, hq, rfl, hbq⟩ := hrel
        have HBQ := Lib.hid hbq
        have hql : q ≤ L := by have := posI_le x out; have := HLo.out; omega
        have hcx : wr.cell? (ad.add k) = some (.int .i64 x) := (HBQ.out.cell (p := ad.add k) (by rw [block_of_add]; have := HBR.out.size; omega)).trans hcell
        have q0 : (0 : Int) ≤ (q : Int) := by omega
        clear hbq
        by_cases hqL : q < L
        · obtain ⟨bd, y, rfl, hbd, hy, hcell2⟩ := iv_at (HRO.out.below HBQ.out) hqL
          have t1 : decide ((q : Int) < (L : Int)) = true := by simpa using hqL
          have q1 : (q : Int) < (L : Int) := by omega
          by_cases hqp : q < posI x out
          · obtain ⟨y', hy', hyx⟩ := posI_lt x out q hqp
            obtain rfl : y = y' := by rw [hy] at hy'; injection hy'
            have t2 : decide (y < x) = true := by simpa using hyx
            clear hy hy' hyx
            go_wp2
            go_quiet (fail)
            go_wp2
            exact ⟨⟨q + 1, by omega, by go_num, below_drewN HBQ.out nq⟩, by simp [intOf]; omega⟩
          · have hqe : q = posI x out := by omega
            have hge := posI_ge x out y (by rw [← hqe]; exact hy)
            have t2 : decide (y < x) = false := by simpa using hge
            have HY := Lib.hid hy
            clear hy
            by_cases hyx : y = x
            · have t3 : (y == x) = true := by simp [hyx]
              have HI : Hid (insI out x = out) := Lib.hid (by unfold insI; rw [← hqe, HY.out, if_pos (by rw [hyx])])
              clear hyx hge hqe
              go_wp2
              go_quiet (fail)
              go_wp2
              have HBZ := Lib.hid (below_drewN HBQ.out nq)
              have hcx' : (wr.drewN nq).cell? (ad.add k) = some (.int .i64 x) := hcx
              have hc2' : (wr.drewN nq).cell? (bd.add q) = some (.int .i64 y) := hcell2
              generalize wr.drewN nq = wz at HBZ hcx' hc2' ⊢
              go_quiet (fail)
              go_wp2
              have HBZ2 := Lib.hid (below_drewN HBZ.out nq)
              refine ⟨⟨k + 1, by have := HL.out; omega, by go_num, ?_, HBR.out.trans (HBZ2.out.mono HBR.out.size)⟩, by simp [intOf]; omega⟩
              rw [take_at HX.out, srt_snoc, ← HOUT.out, HI.out, ← HLo.out]
              exact own_below HO.out HBZ2.out
            · have t3 : (y == x) = false := beq_eq_false_iff_ne.2 hyx
              have HI : Hid (insI out x = out.take q ++ [x] ++ out.drop q) := Lib.hid (by unfold insI; rw [← hqe, HY.out, if_neg (by intro h; injection h with h; exact hyx h)])
              clear hyx hge hqe
              go_wp2
              go_quiet (fail)
              go_wp2
              have HBZ := Lib.hid (below_drewN HBQ.out nq)
              have hcx' : (wr.drewN nq).cell? (ad.add k) = some (.int .i64 x) := hcx
              have hc2' : (wr.drewN nq).cell? (bd.add q) = some (.int .i64 y) := hcell2
              generalize wr.drewN nq = wz at HBZ hcx' hc2' ⊢
              go_quiet (fail)
              go_wp2
              have HBZ2 := Lib.hid (below_drewN HBZ.out nq)
              have hcx0 := Lib.hid hcell
              generalize wz.drewN nq = wy at HBZ2 ⊢
              clear hcx hcx' hcell hcell2 hc2'
              obtain ⟨L1, hL1⟩ : ∃ L1, L1 = L + 1 := ⟨_, rfl⟩
              have s1 : IntKind.i64.wrap ((L : Int) + 1) = (L1 : Int) := by rw [IntWalk.i64_in _ (by omega), hL1]; rfl
              have s2 := make_ints L1 (by omega)
              have hqc : q ≤ co := by have := (own_caps HO.out).1; omega
              have q2 : (q : Int) ≤ (co : Int) := by omega
              have q3 : (q : Int) ≤ (L : Int) := by omega
              have HSZ : Hid (w.heap.size ≤ wy.heap.size) := Lib.hid (by have := HBR.out.size; have := HBZ2.out.size; omega)
              have hL1b : L1 ≤ 1048577 := by omega
              have hL1c : q ≤ L1 := by omega
              have hne : ¬ co = q := by have := (own_caps HO.out).1; omega
              have HL1 := Lib.hid hL1
              clear hL1
              go_region_law ((refine step_append_any _ (by rfl) (.tmp 48) (.tmp 51) _ (by rfl) wo.heap.size 3 i0 _ 1 8 Tryd.underlying27 hi hz0 hz1 hz2 rfl (by omega) (.slice (some ⟨wy.heap.size, 0, none⟩) 0 L1) 0 _ (by rfl) (by exact own_made wy wo.heap.size L1 (by omega) HBZ2.out.size) wo.heap.size (some bd) q co ((out.take q).map iv) (by rfl) (by exact ((iv_take HRO.out (by omega)).below HBZ2.out).alloc HBZ2.out.size _) (iv_one _) (by unfold maxLen; omega) (by omega) (by have := HBZ2.out.size; simp; omega) ?_; intro v2 w2 hown2 hg2 hat2))
              have HB2 : Hid (Below wo.heap.size wo w2) := Lib.hid ((((HBZ2.out.alloc HBZ2.out.size _).drew).grown hg2 (by have := HBZ2.out.size; simp; omega) (fun g hg => by simp [Value.ownBlock] at hg; have := HBZ2.out.size; omega)))
              have HO2 := Lib.hid hown2
              have hcx2' : w2.cell? (ad.add k) = some (.int .i64 x) := (HB2.out.cell (p := ad.add k) (by rw [block_of_add]; have := HBR.out.size; omega)).trans hcx0.out
              clear hg2 hat2 hown2 s2 s1
              have HLT : Hid ((out.take q).length ≤ 1048576) := Lib.hid (by have := List.length_take_le q out; omega)
              have hcut : Hid (Reads w2 wo.heap.size 1 (some (bd.add q)) (L - q) ((out.drop q).map iv)) := Lib.hid (by
                have h := iv_cut HRO.out hql (own_caps HO.out).1
                rw [if_neg hne] at h
                exact h.below HB2.out)
              go_wp2_with (first | (at_builtin; refine wpList_append_any _ rfl (.tmp 53) (.tmp 58) _ rfl wo.heap.size 3 i0 _ 1 8 Tryd.underlying27 hi hz0 hz1 hz2 rfl (by omega) _ _ _ rfl (HO2.out.alloc _) _ (some ⟨w2.heap.size, 0, none⟩) 1 1 ([x].map iv) rfl (by exact one_new w2 x) (iv_one _) (by unfold maxLen; omega) (by omega) (by have := HB2.out.size; simp; omega) ?_; intro v3 w3 hown3 hg3 hat3; have hb3 : Below wo.heap.size w2 w3 := (((Below.refl _ _).alloc HB2.out.size _).grown hg3 (by have := HB2.out.size; simp; omega) (fun g hg => own_ge HO2.out hg)); have HB3 := Lib.hid hb3; have HO3 := Lib.hid hown3; clear hb3 hg3 hat3 hown3) | (at_builtin; refine wpList_append_any _ rfl (.tmp 60) (.tmp 63) _ rfl wo.heap.size 3 i0 _ 1 8 Tryd.underlying27 hi hz0 hz1 hz2 rfl (by omega) _ _ _ rfl HO3.out wo.heap.size (some (bd.add q)) (L - q) (co - q) ((out.drop q).map iv) rfl (by exact hcut.out.below HB3.out) (iv_one _) (by unfold maxLen; omega) (by omega) (by have := HB2.out.size; have := HB3.out.size; omega) ?_; intro v4 w4 hown4 hg4 hat4))
              have HB4 : Hid (Below wo.heap.size wo w4) := Lib.hid (HB2.out.trans (HB3.out.trans ((Below.refl _ _).grown hg4 (by have := HB2.out.size; have := HB3.out.size; omega) (fun g hg => own_ge HO3.out hg))))
              refine ⟨⟨k + 1, by have := HL.out; omega, by go_num, ?_, HBR.out.trans (HB4.out.mono HBR.out.size)⟩, by simp [intOf]; omega⟩
              rw [take_at HX.out, srt_snoc, ← HOUT.out, HI.out]
              refine own_base (n := _) ?_ HBR.out.size
              have hn : 0 + q + 1 + (L - q) = (out.take q ++ [x] ++ out.drop q).length := by have := HLo.out; simp; omega
              rw [← hn]
              have hx : (([] : List Int).map iv ++ (out.take q).map iv ++ [x].map iv ++ (out.drop q).map iv) = (out.take q ++ [x] ++ out.drop q).map iv := by simp
              rw [← hx]
              exact hown4
        · have hqe : q = posI x out := by have := posI_le x out; have := HLo.out; omega
          have t1 : decide ((q : Int) < (L : Int)) = false := by simp; omega
          have HI : Hid (insI out x = out.take q ++ [x] ++ out.drop q) := Lib.hid (by
            unfold insI
            rw [← hqe, List.getElem?_eq_none (by have := HLo.out; omega), if_neg (by simp)])
          clear hqe
          rcases Ao with _ | bd
          · have hz : L = 0 ∧ co = 0 := by
              rcases HO.out.2 with ⟨hv, hn⟩ | ⟨_, _, _, hv, _⟩
              · injection hv with _ _ h3
                exact ⟨hn, h3⟩
              · injection hv with h1
                cases h1
            clear hz
            go_wp2
            go_quiet (fail)
            go_wp2
            have HBZ := Lib.hid (below_drewN HBQ.out nq)
            generalize wr.drewN nq = wz at HBZ ⊢
            go_quiet (fail)
            go_wp2
            have HBZ2 := Lib.hid (below_drewN HBZ.out nq)
            have hcx0 := Lib.hid hcell
            generalize wz.drewN nq = wy at HBZ2 ⊢
            clear hcx hcell
            obtain ⟨L1, hL1⟩ : ∃ L1, L1 = L + 1 := ⟨_, rfl⟩
            have s1 : IntKind.i64.wrap ((L : Int) + 1) = (L1 : Int) := by rw [IntWalk.i64_in _ (by omega), hL1]; rfl
            have s2 := make_ints L1 (by omega)
            have hqc : q ≤ co := by have := (own_caps HO.out).1; omega
            have q2 : (q : Int) ≤ (co : Int) := by omega
            have q3 : (q : Int) ≤ (L : Int) := by omega
            have HSZ : Hid (w.heap.size ≤ wy.heap.size) := Lib.hid (by have := HBR.out.size; have := HBZ2.out.size; omega)
            have hL1b : L1 ≤ 1048577 := by omega
            have hL1c : q ≤ L1 := by omega
            have HL1 := Lib.hid hL1
            clear hL1
            go_region_law ((refine step_append_any _ (by rfl) (.tmp 48) (.tmp 51) _ (by rfl) wo.heap.size 3 i0 _ 1 8 Tryd.underlying27 hi hz0 hz1 hz2 rfl (by omega) (.slice (some ⟨wy.heap.size, 0, none⟩) 0 L1) 0 _ (by rfl) (by exact own_made wy wo.heap.size L1 (by omega) HBZ2.out.size) wo.heap.size none q co ((out.take q).map iv) (by rfl) (by exact ((iv_take HRO.out (by omega)).below HBZ2.out).alloc HBZ2.out.size _) (iv_one _) (by unfold maxLen; omega) (by omega) (by have := HBZ2.out.size; simp; omega) ?_; intro v2 w2 hown2 hg2 hat2))
            have HB2 : Hid (Below wo.heap.size wo w2) := Lib.hid ((((HBZ2.out.alloc HBZ2.out.size _).drew).grown hg2 (by have := HBZ2.out.size; simp; omega) (fun g hg => by simp [Value.ownBlock] at hg; have := HBZ2.out.size; omega)))
            have HO2 := Lib.hid hown2
            have hcx2' : w2.cell? (ad.add k) = some (.int .i64 x) := (HB2.out.cell (p := ad.add k) (by rw [block_of_add]; have := HBR.out.size; omega)).trans hcx0.out
            clear hg2 hat2 hown2 s2 s1
            have HLT : Hid ((out.take q).length ≤ 1048576) := Lib.hid (by have := List.length_take_le q out; omega)
            have hcut : Hid (Reads w2 wo.heap.size 1 none (L - q) ((out.drop q).map iv)) := Lib.hid (by
              have h := iv_cut HRO.out hql (own_caps HO.out).1
              simp only [Option.map_none, ite_self] at h
              exact h.below HB2.out)
            go_wp2_with (first | (at_builtin; refine wpList_append_any _ rfl (.tmp 53) (.tmp 58) _ rfl wo.heap.size 3 i0 _ 1 8 Tryd.underlying27 hi hz0 hz1 hz2 rfl (by omega) _ _ _ rfl (HO2.out.alloc _) _ (some ⟨w2.heap.size, 0, none⟩) 1 1 ([x].map iv) rfl (by exact one_new w2 x) (iv_one _) (by unfold maxLen; omega) (by omega) (by have := HB2.out.size; simp; omega) ?_; intro v3 w3 hown3 hg3 hat3; have hb3 : Below wo.heap.size w2 w3 := (((Below.refl _ _).alloc HB2.out.size _).grown hg3 (by have := HB2.out.size; simp; omega) (fun g hg => own_ge HO2.out hg)); have HB3 := Lib.hid hb3; have HO3 := Lib.hid hown3; clear hb3 hg3 hat3 hown3) | (at_builtin; refine wpList_append_any _ rfl (.tmp 60) (.tmp 63) _ rfl wo.heap.size 3 i0 _ 1 8 Tryd.underlying27 hi hz0 hz1 hz2 rfl (by omega) _ _ _ rfl HO3.out wo.heap.size none (L - q) (co - q) ((out.drop q).map iv) rfl (by exact hcut.out.below HB3.out) (iv_one _) (by unfold maxLen; omega) (by omega) (by have := HB2.out.size; have := HB3.out.size; omega) ?_; intro v4 w4 hown4 hg4 hat4))
            have HB4 : Hid (Below wo.heap.size wo w4) := Lib.hid (HB2.out.trans (HB3.out.trans ((Below.refl _ _).grown hg4 (by have := HB2.out.size; have := HB3.out.size; omega) (fun g hg => own_ge HO3.out hg))))
            refine ⟨⟨k + 1, by have := HL.out; omega, by go_num, ?_, HBR.out.trans (HB4.out.mono HBR.out.size)⟩, by simp [intOf]; omega⟩
            rw [take_at HX.out, srt_snoc, ← HOUT.out, HI.out]
            refine own_base (n := _) ?_ HBR.out.size
            have hn : 0 + q + 1 + (L - q) = (out.take q ++ [x] ++ out.drop q).length := by have := HLo.out; simp; omega
            rw [← hn]
            have hx : (([] : List Int).map iv ++ (out.take q).map iv ++ [x].map iv ++ (out.drop q).map iv) = (out.take q ++ [x] ++ out.drop q).map iv := by simp
            rw [← hx]
            exact hown4
          · by_cases hcq : co = q
            · obtain rfl : q = co := hcq.symm
              go_wp2
              go_quiet (fail)
              go_wp2
              have HBZ := Lib.hid (below_drewN HBQ.out nq)
              generalize wr.drewN nq = wz at HBZ ⊢
              go_quiet (fail)
              go_wp2
              have HBZ2 := Lib.hid (below_drewN HBZ.out nq)
              have hcx0 := Lib.hid hcell
              generalize wz.drewN nq = wy at HBZ2 ⊢
              clear hcx hcell
              obtain ⟨L1, hL1⟩ : ∃ L1, L1 = L + 1 := ⟨_, rfl⟩
              have s1 : IntKind.i64.wrap ((L : Int) + 1) = (L1 : Int) := by rw [IntWalk.i64_in _ (by omega), hL1]; rfl
              have s2 := make_ints L1 (by omega)
              have hqc : q ≤ q := by have := (own_caps HO.out).1; omega
              have q2 : (q : Int) ≤ (q : Int) := by omega
              have q3 : (q : Int) ≤ (L : Int) := by omega
              have HSZ : Hid (w.heap.size ≤ wy.heap.size) := Lib.hid (by have := HBR.out.size; have := HBZ2.out.size; omega)
              have hL1b : L1 ≤ 1048577 := by omega
              have hL1c : q ≤ L1 := by omega
              have HL1 := Lib.hid hL1
              clear hL1
              go_region_law ((refine step_append_any _ (by rfl) (.tmp 48) (.tmp 51) _ (by rfl) wo.heap.size 3 i0 _ 1 8 Tryd.underlying27 hi hz0 hz1 hz2 rfl (by omega) (.slice (some ⟨wy.heap.size, 0, none⟩) 0 L1) 0 _ (by rfl) (by exact own_made wy wo.heap.size L1 (by omega) HBZ2.out.size) wo.heap.size (some bd) q q ((out.take q).map iv) (by rfl) (by exact ((iv_take HRO.out (by omega)).below HBZ2.out).alloc HBZ2.out.size _) (iv_one _) (by unfold maxLen; omega) (by omega) (by have := HBZ2.out.size; simp; omega) ?_; intro v2 w2 hown2 hg2 hat2))
              have HB2 : Hid (Below wo.heap.size wo w2) := Lib.hid ((((HBZ2.out.alloc HBZ2.out.size _).drew).grown hg2 (by have := HBZ2.out.size; simp; omega) (fun g hg => by simp [Value.ownBlock] at hg; have := HBZ2.out.size; omega)))
              have HO2 := Lib.hid hown2
              have hcx2' : w2.cell? (ad.add k) = some (.int .i64 x) := (HB2.out.cell (p := ad.add k) (by rw [block_of_add]; have := HBR.out.size; omega)).trans hcx0.out
              clear hg2 hat2 hown2 s2 s1
              have HLT : Hid ((out.take q).length ≤ 1048576) := Lib.hid (by have := List.length_take_le q out; omega)
              have hcut : Hid (Reads w2 wo.heap.size 1 (some bd) (L - q) ((out.drop q).map iv)) := Lib.hid (by
                have h := iv_cut HRO.out hql (own_caps HO.out).1
                rw [if_pos rfl] at h
                exact h.below HB2.out)
              go_wp2_with (first | (at_builtin; refine wpList_append_any _ rfl (.tmp 53) (.tmp 58) _ rfl wo.heap.size 3 i0 _ 1 8 Tryd.underlying27 hi hz0 hz1 hz2 rfl (by omega) _ _ _ rfl (HO2.out.alloc _) _ (some ⟨w2.heap.size, 0, none⟩) 1 1 ([x].map iv) rfl (by exact one_new w2 x) (iv_one _) (by unfold maxLen; omega) (by omega) (by have := HB2.out.size; simp; omega) ?_; intro v3 w3 hown3 hg3 hat3; have hb3 : Below wo.heap.size w2 w3 := (((Below.refl _ _).alloc HB2.out.size _).grown hg3 (by have := HB2.out.size; simp; omega) (fun g hg => own_ge HO2.out hg)); have HB3 := Lib.hid hb3; have HO3 := Lib.hid hown3; clear hb3 hg3 hat3 hown3) | (at_builtin; refine wpList_append_any _ rfl (.tmp 60) (.tmp 63) _ rfl wo.heap.size 3 i0 _ 1 8 Tryd.underlying27 hi hz0 hz1 hz2 rfl (by omega) _ _ _ rfl HO3.out wo.heap.size (some bd) (L - q) 0 ((out.drop q).map iv) rfl (by exact hcut.out.below HB3.out) (iv_one _) (by unfold maxLen; omega) (by omega) (by have := HB2.out.size; have := HB3.out.size; omega) ?_; intro v4 w4 hown4 hg4 hat4))
              have HB4 : Hid (Below wo.heap.size wo w4) := Lib.hid (HB2.out.trans (HB3.out.trans ((Below.refl _ _).grown hg4 (by have := HB2.out.size; have := HB3.out.size; omega) (fun g hg => own_ge HO3.out hg))))
              refine ⟨⟨k + 1, by have := HL.out; omega, by go_num, ?_, HBR.out.trans (HB4.out.mono HBR.out.size)⟩, by simp [intOf]; omega⟩
              rw [take_at HX.out, srt_snoc, ← HOUT.out, HI.out]
              refine own_base (n := _) ?_ HBR.out.size
              have hn : 0 + q + 1 + (L - q) = (out.take q ++ [x] ++ out.drop q).length := by have := HLo.out; simp; omega
              rw [← hn]
              have hx : (([] : List Int).map iv ++ (out.take q).map iv ++ [x].map iv ++ (out.drop q).map iv) = (out.take q ++ [x] ++ out.drop q).map iv := by simp
              rw [← hx]
              exact hown4
            · go_wp2
              go_quiet (fail)
              go_wp2
              have HBZ := Lib.hid (below_drewN HBQ.out nq)
              generalize wr.drewN nq = wz at HBZ ⊢
              go_quiet (fail)
              go_wp2
              have HBZ2 := Lib.hid (below_drewN HBZ.out nq)
              have hcx0 := Lib.hid hcell
              generalize wz.drewN nq = wy at HBZ2 ⊢
              clear hcx hcell
              obtain ⟨L1, hL1⟩ : ∃ L1, L1 = L + 1 := ⟨_, rfl⟩
              have s1 : IntKind.i64.wrap ((L : Int) + 1) = (L1 : Int) := by rw [IntWalk.i64_in _ (by omega), hL1]; rfl
              have s2 := make_ints L1 (by omega)
              have hqc : q ≤ co := by have := (own_caps HO.out).1; omega
              have q2 : (q : Int) ≤ (co : Int) := by omega
              have q3 : (q : Int) ≤ (L : Int) := by omega
              have HSZ : Hid (w.heap.size ≤ wy.heap.size) := Lib.hid (by have := HBR.out.size; have := HBZ2.out.size; omega)
              have hL1b : L1 ≤ 1048577 := by omega
              have hL1c : q ≤ L1 := by omega
              have hne : ¬ co = q := hcq
              have HL1 := Lib.hid hL1
              clear hL1
              go_region_law ((refine step_append_any _ (by rfl) (.tmp 48) (.tmp 51) _ (by rfl) wo.heap.size 3 i0 _ 1 8 Tryd.underlying27 hi hz0 hz1 hz2 rfl (by omega) (.slice (some ⟨wy.heap.size, 0, none⟩) 0 L1) 0 _ (by rfl) (by exact own_made wy wo.heap.size L1 (by omega) HBZ2.out.size) wo.heap.size (some bd) q co ((out.take q).map iv) (by rfl) (by exact ((iv_take HRO.out (by omega)).below HBZ2.out).alloc HBZ2.out.size _) (iv_one _) (by unfold maxLen; omega) (by omega) (by have := HBZ2.out.size; simp; omega) ?_; intro v2 w2 hown2 hg2 hat2))
              have HB2 : Hid (Below wo.heap.size wo w2) := Lib.hid ((((HBZ2.out.alloc HBZ2.out.size _).drew).grown hg2 (by have := HBZ2.out.size; simp; omega) (fun g hg => by simp [Value.ownBlock] at hg; have := HBZ2.out.size; omega)))
              have HO2 := Lib.hid hown2
              have hcx2' : w2.cell? (ad.add k) = some (.int .i64 x) := (HB2.out.cell (p := ad.add k) (by rw [block_of_add]; have := HBR.out.size; omega)).trans hcx0.out
              clear hg2 hat2 hown2 s2 s1
              have HLT : Hid ((out.take q).length ≤ 1048576) := Lib.hid (by have := List.length_take_le q out; omega)
              have hcut : Hid (Reads w2 wo.heap.size 1 (some (bd.add q)) (L - q) ((out.drop q).map iv)) := Lib.hid (by
                have h := iv_cut HRO.out hql (own_caps HO.out).1
                rw [if_neg hne] at h
                exact h.below HB2.out)
              go_wp2_with (first | (at_builtin; refine wpList_append_any _ rfl (.tmp 53) (.tmp 58) _ rfl wo.heap.size 3 i0 _ 1 8 Tryd.underlying27 hi hz0 hz1 hz2 rfl (by omega) _ _ _ rfl (HO2.out.alloc _) _ (some ⟨w2.heap.size, 0, none⟩) 1 1 ([x].map iv) rfl (by exact one_new w2 x) (iv_one _) (by unfold maxLen; omega) (by omega) (by have := HB2.out.size; simp; omega) ?_; intro v3 w3 hown3 hg3 hat3; have hb3 : Below wo.heap.size w2 w3 := (((Below.refl _ _).alloc HB2.out.size _).grown hg3 (by have := HB2.out.size; simp; omega) (fun g hg => own_ge HO2.out hg)); have HB3 := Lib.hid hb3; have HO3 := Lib.hid hown3; clear hb3 hg3 hat3 hown3) | (at_builtin; refine wpList_append_any _ rfl (.tmp 60) (.tmp 63) _ rfl wo.heap.size 3 i0 _ 1 8 Tryd.underlying27 hi hz0 hz1 hz2 rfl (by omega) _ _ _ rfl HO3.out wo.heap.size (some (bd.add q)) (L - q) (co - q) ((out.drop q).map iv) rfl (by exact hcut.out.below HB3.out) (iv_one _) (by unfold maxLen; omega) (by omega) (by have := HB2.out.size; have := HB3.out.size; omega) ?_; intro v4 w4 hown4 hg4 hat4))
              have HB4 : Hid (Below wo.heap.size wo w4) := Lib.hid (HB2.out.trans (HB3.out.trans ((Below.refl _ _).grown hg4 (by have := HB2.out.size; have := HB3.out.size; omega) (fun g hg => own_ge HO3.out hg))))
              refine ⟨⟨k + 1, by have := HL.out; omega, by go_num, ?_, HBR.out.trans (HB4.out.mono HBR.out.size)⟩, by simp [intOf]; omega⟩
              rw [take_at HX.out, srt_snoc, ← HOUT.out, HI.out]
              refine own_base (n := _) ?_ HBR.out.size
              have hn : 0 + q + 1 + (L - q) = (out.take q ++ [x] ++ out.drop q).length := by have := HLo.out; simp; omega
              rw [← hn]
              have hx : (([] : List Int).map iv ++ (out.take q).map iv ++ [x].map iv ++ (out.drop q).map iv) = (out.take q ++ [x] ++ out.drop q).map iv := by simp
              rw [← hx]
              exact hown4
    · go_wp2
      go_ret
      have h := hown
      rw [List.take_of_length_le (by have := HL.out; omega)] at h
      exact row_post h rfl HBR.out
end Go.Proofs.YtcaoeoggabbekaaDoor
