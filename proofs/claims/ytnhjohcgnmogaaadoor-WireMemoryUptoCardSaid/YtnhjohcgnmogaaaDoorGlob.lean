/- The package's error variables: what a call may take of them. No program is named here. -/
import Derived.Test.YtnhjohcgnmogaaaDoorRead
import Derived.Stop.LaidTwo
import Derived.LaidLaws
set_option linter.unusedVariables false
set_option linter.unusedSimpArgs false
set_option linter.unusedSectionVars false
namespace Go.Proofs.YtnhjohcgnmogaaaDoor
open Go Go.RowKit

/-- The variables gs hold pointers to the addresses ads, which are apart. -/
structure GW (TE : TypeId) (gs : List Nat) (ads : List Addr) (w : World) : Prop where
  len : ads.length = gs.length
  nd : ads.Nodup
  cell : ∀ (i g : Nat) (a : Addr), gs[i]? = some g → ads[i]? = some a → w.cell? ⟨g, 0, none⟩ = some (.iface TE (.pointer (some a))) ∧ ∃ c t, w.heap[a.block]? = some (.cells c t (0, 0))
theorem GW.agr {TE : TypeId} {gs : List Nat} {ads : List Addr} {w w' : World} (h : GW TE gs ads w) (e : Agr w w') : GW TE gs ads w' :=
  ⟨h.len, h.nd, fun i g a hg ha => by
    obtain ⟨h1, c, t, h2⟩ := h.cell i g a hg ha
    exact ⟨cell_agr h1 e, c, t, (e _ (Array.getElem?_eq_some_iff.1 h2).1).trans h2⟩⟩
theorem GW.ext {TE : TypeId} {gs : List Nat} {ads : List Addr} {w w' : World} (h : GW TE gs ads w) (e : Ext w w') : GW TE gs ads w' := h.agr e.agr
/-- A variable's value. -/
theorem GW.val {TE : TypeId} {gs : List Nat} {ads : List Addr} {w : World} (h : GW TE gs ads w) {i g : Nat} (hg : gs[i]? = some g) : ∃ a, ads[i]? = some a ∧ w.cell? ⟨g, 0, none⟩ = some (.iface TE (.pointer (some a))) := by
  have hi : i < ads.length := by rw [h.len]; exact (List.getElem?_eq_some_iff.1 hg).1
  exact ⟨_, List.getElem?_eq_getElem hi, (h.cell i g _ hg (List.getElem?_eq_getElem hi)).1⟩

theorem gw_laid {P : Program} {nm : String} {W : World} {ti tp te ts : TypeId} {ms : Array (String × TypeId)} {f : Field} (hi : P.underlying ti = some (.interface ms)) (hrow : ∀ u, P.typeName? 3 u = some nm → u = tp)
    (hp : P.underlying tp = some (.pointer te)) (he : P.underlying te = some (.struct #[f])) (hft : f.type = ts) (hfo : f.offset = 0) (hs : P.underlying ts = some .string) (hc : P.cellsOf te = 1) (hcs : P.cellsOf ts = 1) :
    ∀ (sp : List (String × Nat × List UInt8)) (ps : List MemPlace), DataW.LaidVars P W (sp.map fun x => (x.1, .iface nm (.ptr (.agg [.lit (.string x.2.2)])))) ps → ps.Nodup →
      (∀ b off, MemPlace.cell b off ∈ ps → (∃ c t, W.heap[b]? = some (.cells c t (0, 0))) ∧ ∀ u v, W.cell? ⟨b, off, none⟩ = some (.iface u v) → Value.okWide P W .any 0 u v) →
      (∀ x ∈ sp, P.globalNamed x.1 = some x.2.1 ∧ (P.globals[x.2.1]?).map (·.type) = some ti) →
      ∃ ads : List Addr, GW tp (sp.map (·.2.1)) ads W ∧ ∀ a ∈ ads, MemPlace.cell a.block a.off ∈ ps
  | [], ps, h, _, _, _ => ⟨[], ⟨rfl, List.nodup_nil, fun i g a hg => by simp at hg⟩, by simp⟩
  | x :: sp, ps, h, hnd, hrows, hg => by
    obtain ⟨g0, t0, cs0, f0, p0, q0, hg0, ht0, hv0, hd0, hr, e0⟩ := h
    obtain ⟨k1, k2⟩ := hg x List.mem_cons_self
    obtain rfl := Option.some.inj (k1.symm.trans hg0)
    obtain rfl := Option.some.inj (k2.symm.trans ht0)
    subst e0
    obtain ⟨l0⟩ := cs0
    have ok0 : ∀ u v, l0 = [.iface u v] → Value.okWide P W .any 0 u v := fun u v e => by
      subst e
      exact (hrows x.2.1 0 (by simp [MemPlace.row])).2 u v (by simpa using World.var?_cell hg0 hv0 0)
    obtain ⟨a0, s0, rfl, hc0, _, _, rfl⟩ := errorString_of_trod hi hrow hp he hft hfo hs hc hcs hd0 ok0
    have hnd' : q0.Nodup := (List.nodup_append.1 hnd).2.1
    obtain ⟨ads, hG, hin⟩ := gw_laid hi hrow hp he hft hfo hs hc hcs sp q0 hr hnd' (fun b off hb => hrows b off (by simp [hb])) (fun y hy => hg y (List.mem_cons_of_mem _ hy))
    refine ⟨a0 :: ads, ⟨by simp [hG.len], ?_, ?_⟩, ?_⟩
    · refine List.nodup_cons.2 ⟨fun hm => ?_, hG.nd⟩
      have h1 := hin a0 hm
      have := (List.nodup_append.1 hnd).2.2 (MemPlace.cell a0.block a0.off) (by simp [MemPlace.row]) _ h1
      exact this rfl
    · intro i g a hgi hai
      cases i with
      | zero =>
        simp at hgi hai
        subst hgi; subst hai
        exact ⟨by simpa using World.var?_cell hg0 hv0 0, (hrows a0.block a0.off (by simp [MemPlace.row])).1⟩
      | succ i =>
        simp only [List.map_cons, List.getElem?_cons_succ] at hgi hai
        exact hG.cell i g a hgi hai
    · intro a ha
      rcases List.mem_cons.1 ha with rfl | ha
      · simp [MemPlace.row]
      · have := hin a ha
        simp [this]

/-- The same by the variables' numbers. -/
structure GV (TE : TypeId) (gs : List Nat) (A : Nat → Addr) (w : World) : Prop where
  cell : ∀ g ∈ gs, w.cell? ⟨g, 0, none⟩ = some (.iface TE (.pointer (some (A g)))) ∧ ∃ c t, w.heap[(A g).block]? = some (.cells c t (0, 0))
  ne : ∀ g ∈ gs, ∀ g' ∈ gs, g ≠ g' → A g ≠ A g'
theorem nodup_inj {α : Type} : ∀ {l : List α} {i j : Nat} {a : α}, l.Nodup → l[i]? = some a → l[j]? = some a → i = j
  | [], i, j, a, _, h, _ => by simp at h
  | x :: l, 0, 0, a, _, _, _ => rfl
  | x :: l, 0, j + 1, a, hn, h1, h2 => by
    simp only [List.getElem?_cons_zero, Option.some.injEq, List.getElem?_cons_succ] at h1 h2
    subst h1
    exact absurd (List.mem_of_getElem? h2) (List.nodup_cons.1 hn).1
  | x :: l, i + 1, 0, a, hn, h1, h2 => by
    simp only [List.getElem?_cons_zero, Option.some.injEq, List.getElem?_cons_succ] at h1 h2
    subst h2
    exact absurd (List.mem_of_getElem? h1) (List.nodup_cons.1 hn).1
  | x :: l, i + 1, j + 1, a, hn, h1, h2 => by
    simp only [List.getElem?_cons_succ] at h1 h2
    rw [nodup_inj (List.nodup_cons.1 hn).2 h1 h2]
theorem GW.f {TE : TypeId} {gs : List Nat} {ads : List Addr} {w : World} (h : GW TE gs ads w) (hn : gs.Nodup) : ∃ A, GV TE gs A w := by
  have key : ∀ g ∈ gs, ∃ i, gs[i]? = some g ∧ gs.idxOf g = i := fun g hg => by
    have hl := List.idxOf_lt_length_iff.2 hg
    exact ⟨_, by rw [List.getElem?_eq_getElem hl, List.getElem_idxOf hl], rfl⟩
  refine ⟨fun g => (ads[gs.idxOf g]?).getD ⟨0, 0, none⟩, ⟨fun g hg => ?_, fun g hg g' hg' hne => ?_⟩⟩
  · obtain ⟨i, hi, rfl⟩ := key g hg
    obtain ⟨a, ha, _⟩ := h.val hi
    simp only [ha, Option.getD_some]
    exact h.cell _ g a hi ha
  · obtain ⟨i, hi, rfl⟩ := key g hg
    obtain ⟨j, hj, rfl⟩ := key g' hg'
    obtain ⟨a, ha, _⟩ := h.val hi
    obtain ⟨b, hb, _⟩ := h.val hj
    simp only [ha, hb, Option.getD_some]
    intro e
    subst e
    have hij : gs.idxOf g = gs.idxOf g' := nodup_inj h.nd ha hb
    rw [hij, hj] at hi
    exact hne (Option.some.inj hi).symm
theorem GV.agr {TE : TypeId} {gs : List Nat} {A : Nat → Addr} {w w' : World} (h : GV TE gs A w) (e : Agr w w') : GV TE gs A w' :=
  ⟨fun g hg => by
    obtain ⟨h1, c, t, h2⟩ := h.cell g hg
    exact ⟨cell_agr h1 e, c, t, (e _ (Array.getElem?_eq_some_iff.1 h2).1).trans h2⟩, h.ne⟩
theorem GV.ext {TE : TypeId} {gs : List Nat} {A : Nat → Addr} {w w' : World} (h : GV TE gs A w) (e : Ext w w') : GV TE gs A w' := h.agr e.agr
theorem GV.sub {TE : TypeId} {gs gs' : List Nat} {A : Nat → Addr} {w : World} (h : GV TE gs A w) (hs : ∀ g ∈ gs', g ∈ gs) : GV TE gs' A w :=
  ⟨fun g hg => h.cell g (hs g hg), fun g hg g' hg' => h.ne g (hs g hg) g' (hs g' hg')⟩
/-- What a variable holds. -/
def sv (TE : TypeId) (A : Nat → Addr) (g : Nat) : Value := .iface TE (.pointer (some (A g)))
theorem GV.ld {P : Program} {T TE : TypeId} {gs : List Nat} {A : Nat → Addr} {w : World} (h : GV TE gs A w) (g : Nat) (hg : g ∈ gs) (ht : aggB P T = some false) : LdX P T w ⟨g, 0, none⟩ (sv TE A g) := LdX.one ht (h.cell g hg).1
/-- An error that is a variable's value, or none. -/
def eV (TE : TypeId) (A : Nat → Addr) : Option Nat → Value
  | none => .nilIface
  | some g => sv TE A g
theorem eV_form (TE : TypeId) (A : Nat → Addr) (o : Option Nat) : eV TE A o = .nilIface ∨ ∃ u x, eV TE A o = .iface u x := by
  cases o with
  | none => exact .inl rfl
  | some g => exact .inr ⟨_, _, rfl⟩
theorem eV_nil (TE : TypeId) (A : Nat → Addr) (o : Option Nat) : isNilI (eV TE A o) = o.isNone := by cases o <;> rfl
theorem eV_one (TE : TypeId) (A : Nat → Addr) (o : Option Nat) : (eV TE A o).oneCell' = true := by cases o <;> rfl
end Go.Proofs.YtnhjohcgnmogaaaDoor
