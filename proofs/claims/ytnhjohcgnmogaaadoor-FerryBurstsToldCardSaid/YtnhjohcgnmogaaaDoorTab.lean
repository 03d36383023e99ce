/- Variables that are arrays of bytes and are never written. No program is named here. -/
import Derived.Test.YtnhjohcgnmogaaaDoorCop
set_option linter.unusedVariables false
set_option linter.unusedSimpArgs false
set_option linter.unusedSectionVars false
namespace Go.Proofs.YtnhjohcgnmogaaaDoor
open Go Go.RowKit

/-- Variable number g reads so, place by place. -/
def TabB {n : Nat} (w : World) (g : Nat) (v : Vector UInt8 n) : Prop := ∀ i x, v[i]? = some x → w.cell? ⟨g, i, none⟩ = some (.int .u8 (x.toNat : Int))
theorem TabB.ext {n : Nat} {w w' : World} {g : Nat} {v : Vector UInt8 n} (h : TabB w g v) (e : Ext w w') : TabB w' g v := fun i x hx => cell_ext (h i x hx) e
theorem TabB.ld {P : Program} {t : TypeId} {n : Nat} {w : World} {g i : Nat} {v : Vector UInt8 n} {x : UInt8} (h : TabB w g v) (ht : aggB P t = some false) (hx : v[i]? = some x) : LdX P t w ⟨g, 0 + i, none⟩ (.int .u8 (x.toNat : Int)) :=
  LdX.one ht (by rw [Nat.zero_add]; exact h i x hx)
theorem tab_laid {P : Program} {W : World} {n e t g : Nat} {nm : String} {v : Vector UInt8 n} {d : DataW Unit} (hd : d = .agg (v.toList.map fun x => .lit (.int .u8 (x.toNat : Int)))) (ht : P.underlying t = some (.array n e)) (he : P.underlying e = some (.int .u8)) (hk : sizeB P e = some 1)
    (hg : P.globalNamed nm = some g) (hgt : (P.globals[g]?).map (·.type) = some t) {ps : List MemPlace} (h : DataW.LaidVars P W [(nm, d)] ps) : TabB W g v := by
  subst hd
  obtain ⟨g0, t0, cs0, f0, p0, q0, hg0, ht0, hv0, hd0, _, _⟩ := h
  obtain rfl := Option.some.inj (hg.symm.trans hg0)
  obtain rfl := Option.some.inj (hgt.symm.trans ht0)
  obtain ⟨xs, m, _, hx, hl, hlen, hget⟩ := DataW.trod_array ht hd0
  intro i x hi
  have hin : i < n := (Vector.getElem?_eq_some_iff.1 hi).1
  rw [World.var?_cell hg hv0 i]
  have h1 := hget i hin
  rw [cells_size hk] at h1
  obtain ⟨y, hy⟩ : ∃ y, xs[i]? = some y := ⟨_, List.getElem?_eq_getElem (by omega)⟩
  rw [hy] at h1
  obtain ⟨z, hz, rfl, _⟩ := DataW.trod_int he h1
  have h3 : v.toList.map (fun x => (.lit (.int .u8 (x.toNat : Int)) : DataW Unit)) = xs.map (·.1) := by
    have := congrArg Prod.fst hx
    simpa using this
  have h2 : (xs.map (·.1))[i]? = some (.lit (.int .u8 z)) := by simp [hy]
  rw [← h3, List.getElem?_map] at h2
  have hvi : v.toList[i]? = some x := by simpa using hi
  rw [hvi] at h2
  have h4 : (x.toNat : Int) = z := by simpa using h2
  rw [h4]
  have h5 : cs0.toList[i]? = some (.int .u8 z) := by
    have := congrArg (fun l : List Value => l[0]?) hz
    simpa using this
  simpa using h5
end Go.Proofs.YtnhjohcgnmogaaaDoor
