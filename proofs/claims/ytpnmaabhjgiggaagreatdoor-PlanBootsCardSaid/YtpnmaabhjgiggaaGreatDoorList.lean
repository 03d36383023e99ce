/- Lists of resources; a text's bytes where the order is drawn. No program is named here. -/
import Derived.Test.YtpnmaabhjgiggaaGreatDoorByte
set_option linter.unusedVariables false
set_option linter.unusedSimpArgs false
set_option linter.unusedSectionVars false
namespace Go.Proofs.YtpnmaabhjgiggaaGreatDoor
open Go Go.RowKit

section
variable {α : Type} {f : α → Rs} {l : List α} {fp : Nat → Prop} {w0 w : World} {rs rs' : List Rs} {c c' : α} {i : Nat}
end

section
variable {P : Program} {ops : Array Oper} {Q : Exit → Act → World → Prop} {rest : List Oper} {a : Act} {w : World} {n k0 h0 fuel d : Nat} {l : List (Nat × Option Value)} {B : List Nat} {listed : Array Bool} {ty : TypeId} {pos : String} {af : Array Edge}
end
section
variable {P : Program} {ops : Array Oper} {Q : Exit → Act → World → Prop} {k0 : Nat} {S : World → Prop}
/-- What says the same in every world may be taken first at any time. -/
theorem wpK_firstT {i : Nat} {oi : Oper} {v : Value} (hi : ops[i]? = some oi) (hsel : ∀ (j : Nat) (o : Oper) cs b, ops[j]? = some o → o.op ≠ .select cs b)
    (hQ : ∀ c a w, Q (.panic c) (a.put oi.dst v) w → Q (.panic c) a w) (hne : i ≠ k0) :
    ∀ (fuel : Nat) (listed : Array Bool) (a : Act) (w : World), listed.size = ops.size →
      (∀ j oj, ops[j]? = some oj → j ≠ i → listed.getD j true = false → (∀ e ∈ oj.after, Region.binds .any e = true → e.on ≠ i) → oi.apart ops oj = true) →
      i ∈ Region.ready .any ops listed → YieldsIf P ops (fun _ => True) oi v a → (act k0 listed = true → S w) →
      wpK P ops Q k0 S fuel (listed.setIfInBounds i true) (a.put oi.dst v) w → wpK P ops Q k0 S (fuel + 1) listed a w := by
  have ha : ∀ li : Array Bool, act k0 (li.setIfInBounds i true) = act k0 li := fun li => by
    unfold act; rw [getD_set_ne false hne]
  intro fuel
  induction fuel with
  | zero =>
    intro listed a w hsz _ hr hy hS H
    refine ⟨fun h => (by rw [h] at hr; cases hr), fun j hj => ?_⟩
    by_cases hji : j = i
    · subst hji; exact hy.wpOp hi trivial ⟨fun h => hS (by rwa [ha] at h), H⟩
    · have := ready_mono hj hji
      rw [H.1] at this
      cases this
  | succ fuel ih =>
    intro listed a w hsz hfree hr hy hS H
    refine ⟨fun h => (by rw [h] at hr; cases hr), fun j hj => ?_⟩
    by_cases hji : j = i
    · subst hji; exact hy.wpOp hi trivial ⟨fun h => hS (by rwa [ha] at h), H⟩
    · have h1 := H.2 j (ready_mono hj hji)
      obtain ⟨hjun, oj, hoj, hall⟩ := mem_ready.1 hj
      have hnot : ∀ e ∈ oj.after, Region.binds .any e = true → e.on ≠ i := fun e he hb heq => by
        have h1 := hall e he hb
        have h0 := (mem_ready.1 hr).1
        rw [heq] at h1
        rcases Nat.lt_or_ge i listed.size with h' | h'
        · simp [h'] at h0 h1; rw [h0] at h1; cases h1
        · simp [Array.getElem?_eq_none h'] at h1
      have h2 := wpOp_putIf hoj (hfree j oj hoj hji hjun hnot) (fun cs b => hsel i oi cs b hi) (fun cs b => hsel j oj cs b hoj) hQ hy h1
      have hfree' : ∀ k ok, ops[k]? = some ok → k ≠ i → (listed.setIfInBounds j true).getD k true = false →
          (∀ e ∈ ok.after, Region.binds .any e = true → e.on ≠ i) → oi.apart ops ok = true := fun k ok hk hki hun hno => by
        refine hfree k ok hk hki ?_ hno
        by_cases hjk : j = k
        · subst hjk; exact hjun
        · rw [getD_set_ne true hjk] at hun; exact hun
      have hcm : (listed.setIfInBounds i true).setIfInBounds j true = (listed.setIfInBounds j true).setIfInBounds i true := Array.setIfInBounds_comm _ _ (Ne.symm hji)
      refine wpOp_mono (fun a' w' h3 => ?_) h2
      have hs' : act k0 (listed.setIfInBounds j true) = true → S w' := fun h => h3.2.1 (by rw [hcm, ha]; exact h)
      refine ⟨hs', ih (listed.setIfInBounds j true) a' w' (by simpa using hsz) hfree' (ready_mono hr (Ne.symm hji)) h3.1 hs' ?_⟩
      rw [← hcm]
      exact h3.2.2
end
section
variable {P : Program} {ops : Array Oper} {Q : Exit → Act → World → Prop} {a : Act} {n : Nat} {l : List (Nat × Option Value)} {w : World} {B : List Nat} {k0 h0 : Nat}
  {op : Op} {ty : TypeId} {pos : String} {af : Array Edge} {d fuel : Nat} {v : Value} {listed : Array Bool}
theorem k_takeT (i : Nat) (H : Has a n l) (hi : ops[i]? = some ⟨some d, op, ty, pos, af, none⟩) (q : Q1 P (lo l) op (fun _ => True) v) (hd : Nat.blt d n = true) (hs : Region.noSelect ops = true) (hf : Region.free .any ops listed i = true)
    (hr : (Region.ready .any ops listed).contains i = true) (hb : (!(Nat.beq i k0) && (Nat.beq listed.size ops.size)) = true) (hQ : ∀ c a w, Q (.panic c) (a.put (some d) v) w → Q (.panic c) a w)
    (h : ∀ a', Has a' n ((d, some v) :: l) → wpK P ops Q k0 (ChgF B h0 w) fuel (listed.setIfInBounds i true) a' w) : wpK P ops Q k0 (ChgF B h0 w) (fuel + 1) listed a w := by
  simp only [Bool.and_eq_true, Bool.not_eq_true'] at hb
  obtain ⟨h2, h4⟩ := hb
  exact wpK_firstT (oi := ⟨some d, op, ty, pos, af, none⟩) (v := v) hi (Region.noSelect_spec hs) hQ (fun e => by rw [e, Nat.beq_refl] at h2; cases h2) fuel listed a w (Nat.eq_of_beq_eq_true h4) (Region.free_spec hi hf) (by simpa using hr)
    (.inl ⟨by simp [Region.wanted], fun w' hw => q a.eval H.eval w' hw (some d) ty pos af none⟩) (fun _ => ChgF.refl _ _ _) (h _ (H.put d v hd))
end
end Go.Proofs.YtpnmaabhjgiggaaGreatDoor
