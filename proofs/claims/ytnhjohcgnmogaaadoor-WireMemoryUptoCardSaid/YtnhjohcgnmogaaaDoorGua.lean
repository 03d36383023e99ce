/- Guarded operations in a region that draws its order, where the guard is known. No program is named here. -/
import Derived.Test.YtnhjohcgnmogaaaDoorList
import Derived.Test.YtnhjohcgnmogaaaDoorErr
set_option linter.unusedVariables false
set_option linter.unusedSimpArgs false
set_option linter.unusedSectionVars false
namespace Go.Proofs.YtnhjohcgnmogaaaDoor
open Go Go.RowKit
section
variable {P : Program} {ops : Array Oper} {Q : Exit → Act → World → Prop} {a : Act} {n : Nat} {l : List (Nat × Option Value)} {w : World} {B : List Nat} {k0 h0 : Nat}
  {op : Op} {ty : TypeId} {pos : String} {af : Array Edge} {d fuel : Nat} {v : Value} {listed : Array Bool} {j t : Nat} {want : Bool}
theorem wanted_known {dst : Option Nat} (H : Has a n l) (hj : (ops[j]?).bind (·.dst) = some t) (ht : lk l t = some (.bool want)) : Region.wanted ⟨dst, op, ty, pos, af, some (j, want)⟩ (yielded ops a.tmps) = true :=
  (wanted_iff (g := (j, want)) (o := ⟨dst, op, ty, pos, af, some (j, want)⟩) rfl).2 (yielded_of H hj ht)
theorem kg_takeT (i : Nat) (H : Has a n l) (hi : ops[i]? = some ⟨some d, op, ty, pos, af, some (j, want)⟩) (hj : (ops[j]?).bind (·.dst) = some t) (ht : lk l t = some (.bool want)) (q : Q1 P (lo l) op (fun _ => True) v) (hd : Nat.blt d n = true) (hs : Region.noSelect ops = true) (hf : Region.free .any ops listed i = true)
    (hr : (Region.ready .any ops listed).contains i = true) (hb : (!(Nat.beq i k0) && (Nat.beq listed.size ops.size)) = true) (hQ : ∀ c a w, Q (.panic c) (a.put (some d) v) w → Q (.panic c) a w)
    (h : ∀ a', Has a' n ((d, some v) :: l) → wpK P ops Q k0 (ChgF B h0 w) fuel (listed.setIfInBounds i true) a' w) : wpK P ops Q k0 (ChgF B h0 w) (fuel + 1) listed a w := by
  simp only [Bool.and_eq_true, Bool.not_eq_true'] at hb
  obtain ⟨h2, h4⟩ := hb
  exact wpK_firstT (oi := ⟨some d, op, ty, pos, af, some (j, want)⟩) (v := v) hi (Region.noSelect_spec hs) hQ (fun e => by rw [e, Nat.beq_refl] at h2; cases h2) fuel listed a w (Nat.eq_of_beq_eq_true h4) (Region.free_spec hi hf) (by simpa using hr)
    (.inl ⟨wanted_known H hj ht, fun w' hw => q a.eval H.eval w' hw (some d) ty pos af _⟩) (fun _ => ChgF.refl _ _ _) (h _ (H.put d v hd))
theorem kg_take (i : Nat) (H : Has a n l) (hi : ops[i]? = some ⟨some d, op, ty, pos, af, some (j, want)⟩) (hj : (ops[j]?).bind (·.dst) = some t) (ht : lk l t = some (.bool want)) (q : Q1 P (lo l) op (ChgF B h0 w) v) (hd : Nat.blt d n = true) (hs : Region.noSelect ops = true) (hf : Region.free .any ops listed i = true)
    (hr : (Region.ready .any ops listed).contains i = true) (hb : (before ops k0 i && !(Nat.beq i k0) && act k0 listed && (Nat.beq listed.size ops.size)) = true) (hQ : ∀ c a w, Q (.panic c) (a.put (some d) v) w → Q (.panic c) a w)
    (h : ∀ a', Has a' n ((d, some v) :: l) → wpK P ops Q k0 (ChgF B h0 w) fuel (listed.setIfInBounds i true) a' w) : wpK P ops Q k0 (ChgF B h0 w) (fuel + 1) listed a w := by
  simp only [Bool.and_eq_true, Bool.not_eq_true'] at hb
  obtain ⟨⟨⟨h1, h2⟩, h3⟩, h4⟩ := hb
  exact wpK_first (oi := ⟨some d, op, ty, pos, af, some (j, want)⟩) (v := v) hi (Region.noSelect_spec hs) hQ h1 (fun e => by rw [e, Nat.beq_refl] at h2; cases h2) fuel listed a w h3 (Nat.eq_of_beq_eq_true h4) (Region.free_spec hi hf) (by simpa using hr)
    (.inl ⟨wanted_known H hj ht, fun w' hw => q a.eval H.eval w' hw (some d) ty pos af _⟩) (ChgF.refl _ _ _) (h _ (H.put d v hd))
theorem kg_one (i : Nat) {o : Oper} (hi : ops[i]? = some o) (hw : Region.wanted o (yielded ops a.tmps) = true) (hr : Region.ready .any ops listed = [i])
    (h : o.wp P a w (fun a' w' => Go' B k0 h0 (listed.setIfInBounds i true) w w' ∧ wpK P ops Q k0 (ChgF B h0 w') fuel (listed.setIfInBounds i true) a' w') Q) : wpK P ops Q k0 (ChgF B h0 w) (fuel + 1) listed a w := by
  refine ⟨fun h0 => (by rw [h0] at hr; cases hr), fun j hj => ?_⟩
  rw [hr] at hj
  have := List.mem_singleton.1 hj
  subst this
  unfold wpOp
  simp only [hi]
  rw [if_pos hw]
  refine .inl (Oper.wp_mono (fun a' w' h' => ?_) h)
  rcases h'.1 with hc | hn
  · exact ⟨fun _ => hc, wpK_weaken (fun w'' hw => hc.trans hw) _ _ _ _ h'.2⟩
  · exact ⟨fun ha => (by rw [hn] at ha; cases ha), wpK_free _ _ _ _ hn h'.2⟩
theorem kg_call (i : Nat) {f : FuncId} {xs : List Operand} {tys : Array TypeId} {vs : List Value} {Φ : Value → World → Prop} (H : Has a n l)
    (hi : ops[i]? = some ⟨some d, .call { callee := .value (.func f), args := xs.toArray, argTypes := tys }, ty, pos, af, some (j, want)⟩) (hj : (ops[j]?).bind (·.dst) = some t) (ht : lk l t = some (.bool want)) (e : loAll l xs = some vs) (hf : entersB P f = true) (hc : Calls P f vs.toArray w (Ret Φ)) (hd : Nat.blt d n = true)
    (hr : Region.ready .any ops listed = [i]) (hΦ : ∀ v w', Φ v w' → Go' B k0 h0 (listed.setIfInBounds i true) w w')
    (h : ∀ v w', Φ v w' → ∀ a', Has a' n ((d, some v) :: l) → wpK P ops Q k0 (ChgF B h0 w') fuel (listed.setIfInBounds i true) a' w') : wpK P ops Q k0 (ChgF B h0 w) (fuel + 1) listed a w := by
  refine kg_one i hi (wanted_known H hj ht) hr ?_
  refine wp_call (f := f) (args := vs.toArray) (by
    have := loAll_map H.eval xs vs e
    simp [execOp, resolve, Act.eval, Deferred.ofValue, invoke, run_callFunc_enters hf, this]) hc fun v w' hv => ?_
  exact ⟨hΦ v w' hv, h v w' hv _ (H.put d v hd)⟩
end
end Go.Proofs.YtnhjohcgnmogaaaDoor
