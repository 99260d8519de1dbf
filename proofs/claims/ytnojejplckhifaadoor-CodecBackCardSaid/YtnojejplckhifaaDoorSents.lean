/- What a row's list of sentinel errors gives a walk: each variable holds a pointer to a block of its own, and no two are the same. -/
import Derived.Test.YtnojejplckhifaaDoorRows
import Derived.Test.YtnojejplckhifaaDoorMem
import Derived.LaidLaws
import Derived.LaidEql
import Derived.KernelRfl
namespace Go.Proofs.YtnojejplckhifaaDoor
open Go.RowKit Go.ChangeShapes Go.WideShapes

def errData (t : List UInt8) : DataW Unit := .iface "*errors.errorString" (.ptr (.agg [.lit (.string t)]))
theorem starErr : "*" ++ "errors.errorString" = "*errors.errorString" := by decide
theorem errRow (u : TypeId) (h : Tryd.prog.typeName? 3 u = some "*errors.errorString") : u = 147 :=
  typeName_ptr_named (nm := "errors.errorString") (by rw [starErr]; kernel_rfl) (by kernel_rfl) (by decide) u (by rw [starErr]; exact h)
theorem cellsErr : Tryd.prog.cellsOf 165 = 1 := by kernel_rfl
theorem cellsStr : Tryd.prog.cellsOf 9 = 1 := by kernel_rfl

/-- the variable in block g holds the sentinel at address a, which lies in a block that is not frozen -/
def SentAt (w : World) (g : Nat) (a : Addr) : Prop :=
  w.cell? ⟨g, 0, none⟩ = some (.iface 147 (.pointer (some a))) ∧ (∃ c t, w.heap[a.block]? = some (.cells c t (0, 0))) ∧ ∃ s, w.cell? a = some (.string s)

set_option maxRecDepth 100000 in
theorem sents_app {W : World} (r : List (String × DataW Unit)) : ∀ (l : List (String × List UInt8)) (ps : List MemPlace), DataW.LaidVars Tryd.prog W ((l.map fun x => (x.1, errData x.2)) ++ r) ps → ps.Nodup →
    (∀ b off, MemPlace.cell b off ∈ ps → (∃ c t, W.heap[b]? = some (.cells c t (0, 0))) ∧ ∀ u v, W.cell? ⟨b, off, none⟩ = some (.iface u v) → Value.okWide Tryd.prog W .any 0 u v) →
    (∀ x ∈ l, ∀ g, Tryd.prog.globalNamed x.1 = some g → (Tryd.prog.globals[g]?).map (·.type) = some 30) →
    ∃ ads : List Addr, ads.length = l.length ∧ (∀ a ∈ ads, MemPlace.cell a.block a.off ∈ ps) ∧ ads.Nodup ∧
      ∀ (i : Nat) x a g, l[i]? = some x → ads[i]? = some a → Tryd.prog.globalNamed x.1 = some g → SentAt W g a
  | [], _, _, _, _, _ => ⟨[], rfl, by simp, by simp, by simp⟩
  | x :: l, ps, h, hnd, hrows, hty => by
    obtain ⟨g, t, cs, fuel, p, q, hg, ht, hv, hd, hq, e⟩ := h
    obtain rfl := Option.some.inj ((hty x (by simp) g hg).symm.trans ht)
    subst e
    have hnd2 := List.nodup_append.1 hnd
    obtain ⟨ads, hlen, hin, hasn, hat⟩ := sents_app r l q hq hnd2.2.1 (fun b off hb => hrows b off (List.mem_append_right _ hb)) (fun y hy => hty y (by simp [hy]))
    obtain ⟨cl⟩ := cs
    have ok : ∀ u v, cl = [.iface u v] → Value.okWide Tryd.prog W .any 0 u v := fun u v e => by
      subst e
      exact (hrows g 0 (by simp [MemPlace.row])).2 u v (by simpa using World.var?_cell hg hv 0)
    obtain ⟨a, s, hcl, hc, _, _, hp⟩ := errorString_of_trod Tryd.underlying30 errRow Tryd.underlying147 Tryd.underlying165 rfl rfl Tryd.underlying9 cellsErr cellsStr hd ok
    have hcl' : cl = [.iface 147 (.pointer (some a))] := hcl
    subst hcl'
    subst hp
    refine ⟨a :: ads, by simp [hlen], ?_, ?_, ?_⟩
    · intro b hb
      rcases List.mem_cons.1 hb with rfl | hb
      · simp [MemPlace.row]
      · exact List.mem_append_right _ (hin b hb)
    · refine List.nodup_cons.2 ⟨fun hm => ?_, hasn⟩
      exact hnd2.2.2 _ (by simp [MemPlace.row]) _ (hin a hm) rfl
    · intro i y b g' hi hb hg'
      rcases i with _ | i
      · simp at hi hb
        subst hi hb
        obtain rfl := Option.some.inj (hg.symm.trans hg')
        exact ⟨by simpa using World.var?_cell hg hv 0, (hrows a.block a.off (by simp [MemPlace.row])).1, s, hc⟩
      · exact hat i y b g' (by simpa using hi) (by simpa using hb) hg'
theorem sents_aux {W : World} (l : List (String × List UInt8)) (ps : List MemPlace) (h : DataW.LaidVars Tryd.prog W (l.map fun x => (x.1, errData x.2)) ps) (hn : ps.Nodup)
    (hr : ∀ b off, MemPlace.cell b off ∈ ps → (∃ c t, W.heap[b]? = some (.cells c t (0, 0))) ∧ ∀ u v, W.cell? ⟨b, off, none⟩ = some (.iface u v) → Value.okWide Tryd.prog W .any 0 u v)
    (ht : ∀ x ∈ l, ∀ g, Tryd.prog.globalNamed x.1 = some g → (Tryd.prog.globals[g]?).map (·.type) = some 30) :
    ∃ ads : List Addr, ads.length = l.length ∧ (∀ a ∈ ads, MemPlace.cell a.block a.off ∈ ps) ∧ ads.Nodup ∧
      ∀ (i : Nat) x a g, l[i]? = some x → ads[i]? = some a → Tryd.prog.globalNamed x.1 = some g → SentAt W g a :=
  sents_app [] l ps (by simpa using h) hn hr ht
end Go.Proofs.YtnojejplckhifaaDoor
