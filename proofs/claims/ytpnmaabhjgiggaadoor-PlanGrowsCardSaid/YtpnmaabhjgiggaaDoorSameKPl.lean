/- Plain laws of plans: copies, what is alike. -/
import Derived.Test.YtpnmaabhjgiggaaDoorPlanKPl
set_option linter.unusedVariables false
set_option linter.unusedSimpArgs false
set_option linter.unusedSectionVars false
namespace Go.Proofs.YtpnmaabhjgiggaaDoor
open Go Go.RowKit

theorem decide_iffK {p q : Prop} [Decidable p] [Decidable q] (h : p ↔ q) : decide p = decide q := by
  by_cases hp : p
  · rw [decide_eq_true hp, decide_eq_true (h.1 hp)]
  · rw [decide_eq_false hp, decide_eq_false fun hq => hp (h.2 hq)]
section
variable {α : Type}
theorem firstE_allK (q : α → Bool) : ∀ (l : List α) (k : Nat), firstE (fun _ x => if q x = true then none else some false) k l = if l.all q = true then none else some false
  | [], _ => rfl
  | x :: r, k => by
    have ih := firstE_allK q r (k + 1)
    rcases Bool.eq_false_or_eq_true (q x) with h | h <;> simp [firstE, h, ih]
theorem iter_eqsK {L : Nat → Option (Nat ⊕ (Unit ⊕ Bool))} {a b : List α} (q : α → α → Bool) (hl : a.length = b.length)
    (h : ∀ i x y, i < a.length → a[i]? = some x → b[i]? = some y → L i = some (if q x y = true then .inl (i + 1) else .inr (.inr false))) (h2 : L a.length = some (.inr (.inl ()))) :
    iter L 0 = some (if (a.zip b).all (fun p => q p.1 p.2) = true then .inl () else .inr false) := by
  have hz : (a.zip b).length = a.length := by rw [List.length_zip, ← hl, Nat.min_self]
  have hL := iter_list (L := L) (l := a.zip b) (f := fun _ p => if q p.1 p.2 = true then none else some false) (fun i p hi hp => by
    obtain ⟨h3, h4⟩ := List.getElem?_zip_eq_some.1 hp
    rw [h i p.1 p.2 (by omega) h3 h4, nxt_ite, nxt_none, nxt_some]) (by rw [hz]; exact h2)
  rw [hL, firstE_allK (fun p : α × α => q p.1 p.2)]
  split <;> rfl
theorem zip_eqK [DecidableEq α] : ∀ {a b : List α}, a.length = b.length → (((a.zip b).all fun p => decide (p.1 = p.2)) = true ↔ a = b)
  | [], [], _ => by simp
  | [], y :: b, h => by simp at h
  | x :: a, [], h => by simp at h
  | x :: a, y :: b, h => by
    have ih := zip_eqK (a := a) (b := b) (by simpa using h)
    simp only [List.zip_cons_cons, List.all_cons, Bool.and_eq_true, decide_eq_true_eq, List.cons.injEq, ih]
theorem eqs_resK {L : Nat → Option (Nat ⊕ (Unit ⊕ Bool))} {a b : List α} [DecidableEq α] (hl : a.length = b.length)
    (h : ∀ i x y, i < a.length → a[i]? = some x → b[i]? = some y → L i = some (if decide (x = y) = true then .inl (i + 1) else .inr (.inr false))) (h2 : L a.length = some (.inr (.inl ()))) :
    iter L 0 = some (if a = b then .inl () else .inr false) := by
  rw [iter_eqsK (fun x y => decide (x = y)) hl h h2]
  congr 1
  by_cases e : a = b
  · rw [if_pos e, if_pos ((zip_eqK hl).2 e)]
  · rw [if_neg e, if_neg (fun h => e ((zip_eqK hl).1 h))]
end
theorem ne_lenK {α : Type} {a b : List α} (h : ¬ a.length = b.length) : ¬ a = b := fun e => h (by rw [e])
/-! ### Copies -/
abbrev maxBK : Nat := 140737488355328
def okPlanK (p : GPlan) : Prop := p.Pages.length * 24 ≤ maxBK ∧ p.Procs.length * 24 ≤ maxBK ∧ p.Ports.length * 32 ≤ maxBK ∧ p.Sems.length * 8 ≤ maxBK
theorem r10_CopyK (p : GPlan) (h : okPlanK p) : g_r10_Copy p = some p := by
  obtain ⟨h1, h2, h3, h4⟩ := h
  simp only [maxBK] at *
  simp only [g_r10_Copy, List.nil_append, List.length_nil, Nat.zero_add, chk, h1, h2, h3, h4, if_true]
theorem equal_intK (a b : List Int) : g_slices_Equal_int a b = some (decide (a = b)) := by
  by_cases hl : a.length = b.length
  · have h := eqs_resK (L := g_slices_Equal_int_L1 a b) hl (fun i x y hi hx hy => by
      simp only [g_slices_Equal_int_L1, hi, hx, hy, decide_true, cond_true, Option.bind_some]
      by_cases e : x = y <;> simp [e]) (by simp [g_slices_Equal_int_L1])
    simp only [g_slices_Equal_int, hl, decide_true, Bool.not_true, cond_false, h, Option.bind_some]
    by_cases e : a = b <;> simp [e]
  · simp only [g_slices_Equal_int, hl, decide_false, Bool.not_false, cond_true, ne_lenK hl]
theorem equal_PagePlanK (a b : List GPagePlan) : g_slices_Equal_PagePlan a b = some (decide (a = b)) := by
  by_cases hl : a.length = b.length
  · have h := eqs_resK (L := g_slices_Equal_PagePlan_L1 a b) hl (fun i x y hi hx hy => by
      simp only [g_slices_Equal_PagePlan_L1, hi, hx, hy, decide_true, cond_true, Option.bind_some]
      by_cases e : x = y <;> simp [e]) (by simp [g_slices_Equal_PagePlan_L1])
    simp only [g_slices_Equal_PagePlan, hl, decide_true, Bool.not_true, cond_false, h, Option.bind_some]
    by_cases e : a = b <;> simp [e]
  · simp only [g_slices_Equal_PagePlan, hl, decide_false, Bool.not_false, cond_true, ne_lenK hl]
theorem equal_ProcPlanK (a b : List GProcPlan) : g_slices_Equal_ProcPlan a b = some (decide (a = b)) := by
  by_cases hl : a.length = b.length
  · have h := eqs_resK (L := g_slices_Equal_ProcPlan_L1 a b) hl (fun i x y hi hx hy => by
      simp only [g_slices_Equal_ProcPlan_L1, hi, hx, hy, decide_true, cond_true, Option.bind_some]
      by_cases e : x = y <;> simp [e]) (by simp [g_slices_Equal_ProcPlan_L1])
    simp only [g_slices_Equal_ProcPlan, hl, decide_true, Bool.not_true, cond_false, h, Option.bind_some]
    by_cases e : a = b <;> simp [e]
  · simp only [g_slices_Equal_ProcPlan, hl, decide_false, Bool.not_false, cond_true, ne_lenK hl]
theorem equal_PortPlanK (a b : List GPortPlan) : g_slices_Equal_PortPlan a b = some (decide (a = b)) := by
  by_cases hl : a.length = b.length
  · have h := eqs_resK (L := g_slices_Equal_PortPlan_L1 a b) hl (fun i x y hi hx hy => by
      simp only [g_slices_Equal_PortPlan_L1, hi, hx, hy, decide_true, cond_true, Option.bind_some]
      by_cases e : x = y <;> simp [e]) (by simp [g_slices_Equal_PortPlan_L1])
    simp only [g_slices_Equal_PortPlan, hl, decide_true, Bool.not_true, cond_false, h, Option.bind_some]
    by_cases e : a = b <;> simp [e]
  · simp only [g_slices_Equal_PortPlan, hl, decide_false, Bool.not_false, cond_true, ne_lenK hl]
theorem plan_extK (a b : GPlan) : a = b ↔ a.Id = b.Id ∧ a.Mobile = b.Mobile ∧ a.Pages = b.Pages ∧ a.Procs = b.Procs ∧ a.Ports = b.Ports ∧ a.Events = b.Events ∧ a.Sems = b.Sems := by
  cases a; cases b; simp
theorem plan_SameK (a b : GPlan) : g_plan_Same a b = some (decide (a = b)) := by
  rw [decide_iffK (plan_extK a b)]
  simp only [g_plan_Same, equal_PagePlanK, equal_ProcPlanK, equal_PortPlanK, equal_intK, Option.bind_some, Bool.cond_eq_ite, decide_eq_true_eq, beq_iff_eq]
  by_cases h1 : a.Id = b.Id <;> by_cases h2 : a.Mobile = b.Mobile <;> by_cases h3 : a.Events = b.Events <;> by_cases h4 : a.Pages = b.Pages <;> by_cases h5 : a.Procs = b.Procs <;> by_cases h6 : a.Ports = b.Ports <;> simp [h1, h2, h3, h4, h5, h6]
theorem r10_SameK (a b : GPlan) : g_r10_Same a b = some (decide (a = b)) := by
  rw [decide_iffK (plan_extK a b)]
  by_cases l4 : a.Pages.length = b.Pages.length
  · by_cases l3 : a.Procs.length = b.Procs.length
    · by_cases l2 : a.Ports.length = b.Ports.length
      · by_cases l1 : a.Sems.length = b.Sems.length
        · have h4 := eqs_resK (L := g_r10_Same_L4 a b) l4 (fun i x y hi hx hy => by
            simp only [g_r10_Same_L4, hi, hx, hy, decide_true, cond_true, Option.bind_some]
            by_cases e : x = y <;> simp [e]) (by simp [g_r10_Same_L4])
          have h3 := eqs_resK (L := g_r10_Same_L3 a b) l3 (fun i x y hi hx hy => by
            simp only [g_r10_Same_L3, hi, hx, hy, decide_true, cond_true, Option.bind_some]
            by_cases e : x = y <;> simp [e]) (by simp [g_r10_Same_L3])
          have h2 := eqs_resK (L := g_r10_Same_L2 a b) l2 (fun i x y hi hx hy => by
            simp only [g_r10_Same_L2, hi, hx, hy, decide_true, cond_true, Option.bind_some]
            by_cases e : x = y <;> simp [e]) (by simp [g_r10_Same_L2])
          have h1 := eqs_resK (L := g_r10_Same_L1 a b) l1 (fun i x y hi hx hy => by
            simp only [g_r10_Same_L1, hi, hx, hy, decide_true, cond_true, Option.bind_some]
            by_cases e : x = y <;> simp [e]) (by simp [g_r10_Same_L1])
          simp only [g_r10_Same, l1, l2, l3, l4, h1, h2, h3, h4, Option.bind_some, decide_true, Bool.not_true, Bool.or_false, Bool.cond_eq_ite]
          by_cases e1 : a.Id = b.Id <;> by_cases e2 : a.Mobile = b.Mobile <;> by_cases e3 : a.Events = b.Events <;> simp [e1, e2, e3]
          by_cases e4 : a.Pages = b.Pages
          · by_cases e5 : a.Procs = b.Procs
            · by_cases e6 : a.Ports = b.Ports
              · by_cases e7 : a.Sems = b.Sems <;> simp [e4, e5, e6, e7]
              · simp [e4, e5, e6]
            · simp [e4, e5]
          · simp [e4]
        · simp [g_r10_Same, l1, ne_lenK l1]
      · simp [g_r10_Same, l2, ne_lenK l2]
    · simp [g_r10_Same, l3, ne_lenK l3]
  · simp [g_r10_Same, l4, ne_lenK l4]
end Go.Proofs.YtpnmaabhjgiggaaDoor
