/- PlanChecks: Check of any plan, Bound, Span, Same of any two. -/
import Derived.Test.YtpnmaabhjgiggaaDoorSameKPl
set_option linter.unusedVariables false
set_option linter.unusedSimpArgs false
set_option linter.unusedSectionVars false
namespace Go.Proofs.YtpnmaabhjgiggaaDoor
open Go Go.RowKit

theorem r10_BoundK (p : GPlan) : g_r10_Bound p = some (if sPlan p = .nil then (sBound p, 0) else (0, 8)) := by
  by_cases h : sPlan p = .nil <;> simp [g_r10_Bound, r10_Good, r10_bound, h]
theorem r10_SpanK (p : GPlan) : g_r10_Span p = some (if sPlan p = .nil then (IntKind.i64.wrap (64 * ((p.Pages.length : Nat) : Int)), 0) else (0, 8)) := by
  by_cases h : sPlan p = .nil <;> simp [g_r10_Span, r10_Good, h]
theorem plan_SpanK (p : GPlan) : g_plan_Span p = some (if sPlan p = .nil then (IntKind.i64.wrap (64 * ((p.Pages.length : Nat) : Int)), .nil) else (0, .v gPlan)) := by
  by_cases h : sPlan p = .nil <;> simp [g_plan_Span, plan_Check, h]
theorem same_nil : g_law10_same .nil 0 = some true := by simp [g_law10_same, cNil, pNil]
theorem same_plan : g_law10_same (.v gPlan) 8 = some true := by simp [g_law10_same, cPlan, pV]
theorem law10_PlanChecks (x : GL10Case) (hP : okPlanK x.P) (hQ : okPlanK x.Q) : g_law10_PlanChecks x = some true := by
  have h := iter_list (L := g_law10_PlanChecks_L31 x) (l := [x.P, x.Q]) (f := fun _ _ => none) (fun i c hi hc => by
    have hok : okPlanK c := by
      rcases List.mem_cons.1 (List.mem_of_getElem? hc) with rfl | hm
      · exact hP
      · rw [List.mem_singleton.1 hm]; exact hQ
    have hi' : i < 2 := hi
    have eC : ∀ e : ErrM, (eR e).Code = e.code := fun e => rfl
    have eP : ∀ e : ErrM, (eR e).Place = e.place := fun e => rfl
    simp only [g_law10_PlanChecks_L31, g_law10_PlanChecks_J30, g_law10_PlanChecks_J29, g_law10_PlanChecks_J28, hi', hc, decide_true, cond_true, Option.bind_some, r10_Check, r10_CopyK c hok, plan_Check, r10_BoundK, r10_SpanK, plan_SpanK, plan_BoundK, eC, eP, Bool.not_true, cond_false]
    by_cases hs : sPlan c = .nil
    · simp only [hs, if_true, same_nil, decide_true, Bool.not_true, cond_false, Option.bind_some, nxt_none]
    · simp only [hs, if_false, same_plan, decide_true, Bool.not_true, cond_false, Option.bind_some, nxt_none]) (by simp [g_law10_PlanChecks_L31])
  have hf : firstE (fun (_ : Nat) (_ : GPlan) => (none : Option Bool)) 0 [x.P, x.Q] = none := rfl
  rw [hf] at h
  simp only [g_law10_PlanChecks, law10_fixed, h, fin, Option.bind_some, Bool.not_true, cond_false, r10_CopyK x.P hP, r10_CopyK x.Q hQ, plan_SameK, r10_SameK, beq_self_eq_true, cond_true, decide_true]
end Go.Proofs.YtpnmaabhjgiggaaDoor
