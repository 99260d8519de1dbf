/- Plain: options packed and unpacked; options and bytes among the arguments. -/
import Derived.Test.YtomabogjoampnaaDoorNew
import Derived.Deep.Slices
import Derived.Deep.Fields
import Derived.Test.YtomabogjoampnaaDoorPack
import Derived.Test.YtomabogjoampnaaDoorPack2
namespace Go.Proofs.YtomabogjoampnaaDoor
open Go.RowKit Go.ChangeShapes Go.WideShapes Go.Deep
set_option linter.unusedVariables false

theorem pack_fin : ∀ (k : Fin 16) (b0 b1 b2 b3 b4 : Bool), 0 ≤ pkK [b0, b1, b2, b3, b4] ((k.val : Int) * 32) 5 ∧ pkK [b0, b1, b2, b3, b4] ((k.val : Int) * 32) 5 < 512 ∧
    bitB (pkK [b0, b1, b2, b3, b4] ((k.val : Int) * 32) 5) 0 = b0 ∧ bitB (pkK [b0, b1, b2, b3, b4] ((k.val : Int) * 32) 5) 1 = b1 ∧ bitB (pkK [b0, b1, b2, b3, b4] ((k.val : Int) * 32) 5) 2 = b2 ∧
    bitB (pkK [b0, b1, b2, b3, b4] ((k.val : Int) * 32) 5) 3 = b3 ∧ bitB (pkK [b0, b1, b2, b3, b4] ((k.val : Int) * 32) 5) 4 = b4 ∧ regsOf (pkK [b0, b1, b2, b3, b4] ((k.val : Int) * 32) 5) = (k.val : Int) + 1 := by decide +kernel
theorem pack_back (b0 b1 b2 b3 b4 : Bool) (r : Int) : 0 ≤ pkK [b0, b1, b2, b3, b4] (pk0 r) 5 ∧ pkK [b0, b1, b2, b3, b4] (pk0 r) 5 < 512 ∧
    bitB (pkK [b0, b1, b2, b3, b4] (pk0 r) 5) 0 = b0 ∧ bitB (pkK [b0, b1, b2, b3, b4] (pk0 r) 5) 1 = b1 ∧ bitB (pkK [b0, b1, b2, b3, b4] (pk0 r) 5) 2 = b2 ∧
    bitB (pkK [b0, b1, b2, b3, b4] (pk0 r) 5) 3 = b3 ∧ bitB (pkK [b0, b1, b2, b3, b4] (pk0 r) 5) 4 = b4 ∧ regsOf (pkK [b0, b1, b2, b3, b4] (pk0 r) 5) = min (max r 1) 16 := by
  obtain ⟨k, hk⟩ : ∃ k : Fin 16, (k.val : Int) = min (max r 1) 16 - 1 := ⟨⟨(min (max r 1) 16 - 1).toNat, by omega⟩, by simp; omega⟩
  have e : pk0 r = (k.val : Int) * 32 := by unfold pk0; rw [hk]
  rw [e]
  have h := pack_fin k b0 b1 b2 b3 b4
  rw [show min (max r 1) 16 = (k.val : Int) + 1 by omega]
  exact h
theorem u8_wf {n : Int} (h : (Lit.int .u8 n).wf = true) : 0 ≤ n ∧ n < 256 := by
  simp [Lit.wf, IntKind.min, IntKind.max, IntKind.signed, IntKind.bits] at h
  omega
theorem bytes_nat (z : List Int) (h : ∀ x ∈ z, (Lit.int .u8 x).wf = true) : z.map (Value.int .u8) = (z.map Int.toNat).map bv ∧ ∀ x ∈ z.map Int.toNat, x < 256 := by
  constructor
  · rw [List.map_map]
    refine List.map_congr_left fun x hx => ?_
    have := u8_wf (h x hx)
    simp only [Function.comp, bv]
    congr 1
    omega
  · intro x hx
    obtain ⟨y, hy, rfl⟩ := List.mem_map.1 hx
    have := u8_wf (h y hy)
    omega
theorem open_opts {H : Type} {enc : TypeId × Value → H} {W : World} {v : Value} {d : DataW H} {ps : List MemPlace} {base : Nat}
    (hval : Value.okWide Tryd.prog W .any base 47 v) (h : DataW.Trod enc Tryd.prog W 0 (fun _ => true) true 47 v d ps) :
    ∃ (b0 b1 b2 b3 b4 : Bool) (r : Int), v = .agg #[.bool b0, .bool b1, .bool b2, .bool b3, .bool b4, .int .i64 r] := by
  have hC : Tryd.prog.cellsOf 47 = 6 := by kernel_rfl
  have hI : Tryd.prog.cellsOf 3 = 1 := by kernel_rfl
  have hBo : Tryd.prog.cellsOf 4 = 1 := by kernel_rfl
  obtain ⟨cs, rfl, hsz⟩ := okWide_struct Tryd.underlying47 hval
  obtain ⟨l⟩ := cs
  obtain ⟨fuel, hf⟩ := h
  obtain ⟨xs, n', _, _, hlen, hxl, hg⟩ := DataW.trod_struct Tryd.underlying47 hf
  match l, hsz.trans hC with
  | [c0, c1, c2, c3, c4, c5], _ =>
    have g : ∀ (j : Nat) (f : Field) (u : Value) (ty : TypeId), (match Tryd.prog.underlying 47 with | some (.struct fs) => fs[j]? | _ => none) = some f → f.type = ty → Tryd.prog.cellsOf ty = 1 → ((Value.agg #[c0, c1, c2, c3, c4, c5]).cells.toList.drop f.offset).take 1 = [u] → ∃ y, DataW.trod enc Tryd.prog W 0 (fun _ => true) true n' ty [u] = some y := by
      intro j f u ty hfj hty hc hu
      rw [Tryd.underlying47] at hfj
      have hgj := hg j f hfj
      rw [hty, hc, hu] at hgj
      have hjl : j < xs.length := by
        rw [hxl]
        exact (Array.getElem?_eq_some_iff.1 hfj).1
      rw [List.getElem?_eq_getElem hjl] at hgj
      exact ⟨_, hgj⟩
    obtain ⟨_, y0⟩ := g 0 _ c0 4 (by rw [Tryd.underlying47]; rfl) rfl hBo (by simp [Value.cells])
    obtain ⟨_, y1⟩ := g 1 _ c1 4 (by rw [Tryd.underlying47]; rfl) rfl hBo (by simp [Value.cells])
    obtain ⟨_, y2⟩ := g 2 _ c2 4 (by rw [Tryd.underlying47]; rfl) rfl hBo (by simp [Value.cells])
    obtain ⟨_, y3⟩ := g 3 _ c3 4 (by rw [Tryd.underlying47]; rfl) rfl hBo (by simp [Value.cells])
    obtain ⟨_, y4⟩ := g 4 _ c4 4 (by rw [Tryd.underlying47]; rfl) rfl hBo (by simp [Value.cells])
    obtain ⟨_, y5⟩ := g 5 _ c5 3 (by rw [Tryd.underlying47]; rfl) rfl hI (by simp [Value.cells])
    obtain ⟨b0, hb0, _⟩ := DataW.trod_bool Tryd.underlying4 y0
    obtain ⟨b1, hb1, _⟩ := DataW.trod_bool Tryd.underlying4 y1
    obtain ⟨b2, hb2, _⟩ := DataW.trod_bool Tryd.underlying4 y2
    obtain ⟨b3, hb3, _⟩ := DataW.trod_bool Tryd.underlying4 y3
    obtain ⟨b4, hb4, _⟩ := DataW.trod_bool Tryd.underlying4 y4
    obtain ⟨r, hr, _⟩ := DataW.trod_int Tryd.underlying3 y5
    simp at hb0 hb1 hb2 hb3 hb4 hr
    subst hb0 hb1 hb2 hb3 hb4 hr
    exact ⟨b0, b1, b2, b3, b4, r, rfl⟩
end Go.Proofs.YtomabogjoampnaaDoor
