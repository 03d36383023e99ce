/- Plain laws of frames: what is alike; FrameChecks. -/
import Derived.Test.YtjoihegnjjjdaaaDoorFrameM
set_option linter.unusedVariables false
set_option linter.unusedSimpArgs false
set_option linter.unusedSectionVars false
namespace Go.Proofs.YtjoihegnjjjdaaaDoor
open Go Go.RowKit

theorem equal_int (a b : List Int) : g_slices_Equal_int a b = some (decide (a = b)) := by
  by_cases hl : a.length = b.length
  · have h := eqs_res (L := g_slices_Equal_int_L1 a b) hl (fun i x y hi hx hy => by
      simp only [g_slices_Equal_int_L1, hi, hx, hy, decide_true, cond_true, Option.bind_some]
      by_cases e : x = y <;> simp [e]) (by simp [g_slices_Equal_int_L1])
    simp only [g_slices_Equal_int, hl, decide_true, Bool.not_true, cond_false, h, Option.bind_some]
    by_cases e : a = b <;> simp [e]
  · simp only [g_slices_Equal_int, hl, decide_false, Bool.not_false, cond_true, ne_len hl]
theorem equal_PagePlan (a b : List GPagePlan) : g_slices_Equal_PagePlan a b = some (decide (a = b)) := by
  by_cases hl : a.length = b.length
  · have h := eqs_res (L := g_slices_Equal_PagePlan_L1 a b) hl (fun i x y hi hx hy => by
      simp only [g_slices_Equal_PagePlan_L1, hi, hx, hy, decide_true, cond_true, Option.bind_some]
      by_cases e : x = y <;> simp [e]) (by simp [g_slices_Equal_PagePlan_L1])
    simp only [g_slices_Equal_PagePlan, hl, decide_true, Bool.not_true, cond_false, h, Option.bind_some]
    by_cases e : a = b <;> simp [e]
  · simp only [g_slices_Equal_PagePlan, hl, decide_false, Bool.not_false, cond_true, ne_len hl]
theorem equal_ProcPlan (a b : List GProcPlan) : g_slices_Equal_ProcPlan a b = some (decide (a = b)) := by
  by_cases hl : a.length = b.length
  · have h := eqs_res (L := g_slices_Equal_ProcPlan_L1 a b) hl (fun i x y hi hx hy => by
      simp only [g_slices_Equal_ProcPlan_L1, hi, hx, hy, decide_true, cond_true, Option.bind_some]
      by_cases e : x = y <;> simp [e]) (by simp [g_slices_Equal_ProcPlan_L1])
    simp only [g_slices_Equal_ProcPlan, hl, decide_true, Bool.not_true, cond_false, h, Option.bind_some]
    by_cases e : a = b <;> simp [e]
  · simp only [g_slices_Equal_ProcPlan, hl, decide_false, Bool.not_false, cond_true, ne_len hl]
theorem equal_PortPlan (a b : List GPortPlan) : g_slices_Equal_PortPlan a b = some (decide (a = b)) := by
  by_cases hl : a.length = b.length
  · have h := eqs_res (L := g_slices_Equal_PortPlan_L1 a b) hl (fun i x y hi hx hy => by
      simp only [g_slices_Equal_PortPlan_L1, hi, hx, hy, decide_true, cond_true, Option.bind_some]
      by_cases e : x = y <;> simp [e]) (by simp [g_slices_Equal_PortPlan_L1])
    simp only [g_slices_Equal_PortPlan, hl, decide_true, Bool.not_true, cond_false, h, Option.bind_some]
    by_cases e : a = b <;> simp [e]
  · simp only [g_slices_Equal_PortPlan, hl, decide_false, Bool.not_false, cond_true, ne_len hl]
theorem equal_Window (a b : List GWindow) : g_slices_Equal_Window a b = some (decide (a = b)) := by
  by_cases hl : a.length = b.length
  · have h := eqs_res (L := g_slices_Equal_Window_L1 a b) hl (fun i x y hi hx hy => by
      simp only [g_slices_Equal_Window_L1, hi, hx, hy, decide_true, cond_true, Option.bind_some]
      by_cases e : x = y <;> simp [e]) (by simp [g_slices_Equal_Window_L1])
    simp only [g_slices_Equal_Window, hl, decide_true, Bool.not_true, cond_false, h, Option.bind_some]
    by_cases e : a = b <;> simp [e]
  · simp only [g_slices_Equal_Window, hl, decide_false, Bool.not_false, cond_true, ne_len hl]
theorem equal_Link (a b : List GLink) : g_slices_Equal_Link a b = some (decide (a = b)) := by
  by_cases hl : a.length = b.length
  · have h := eqs_res (L := g_slices_Equal_Link_L1 a b) hl (fun i x y hi hx hy => by
      simp only [g_slices_Equal_Link_L1, hi, hx, hy, decide_true, cond_true, Option.bind_some]
      by_cases e : x = y <;> simp [e]) (by simp [g_slices_Equal_Link_L1])
    simp only [g_slices_Equal_Link, hl, decide_true, Bool.not_true, cond_false, h, Option.bind_some]
    by_cases e : a = b <;> simp [e]
  · simp only [g_slices_Equal_Link, hl, decide_false, Bool.not_false, cond_true, ne_len hl]
theorem plan_ext (a b : GPlan) : a = b ↔ a.Id = b.Id ∧ a.Mobile = b.Mobile ∧ a.Pages = b.Pages ∧ a.Procs = b.Procs ∧ a.Ports = b.Ports ∧ a.Events = b.Events ∧ a.Sems = b.Sems := by
  cases a; cases b; simp
theorem conf_ext (a b : GConfig) : a = b ↔ a.Ticks = b.Ticks ∧ a.Parts = b.Parts ∧ a.Homes = b.Homes ∧ a.Windows = b.Windows ∧ a.Links = b.Links ∧ a.Tries = b.Tries := by
  cases a; cases b; simp
theorem plan_Same (a b : GPlan) : g_plan_Same a b = some (decide (a = b)) := by
  rw [decide_iff (plan_ext a b)]
  simp only [g_plan_Same, equal_PagePlan, equal_ProcPlan, equal_PortPlan, equal_int, Option.bind_some, Bool.cond_eq_ite, decide_eq_true_eq, beq_iff_eq]
  by_cases h1 : a.Id = b.Id <;> by_cases h2 : a.Mobile = b.Mobile <;> by_cases h3 : a.Events = b.Events <;> by_cases h4 : a.Pages = b.Pages <;> by_cases h5 : a.Procs = b.Procs <;> by_cases h6 : a.Ports = b.Ports <;> simp [h1, h2, h3, h4, h5, h6]
theorem r10_Same (a b : GPlan) : g_r10_Same a b = some (decide (a = b)) := by
  rw [decide_iff (plan_ext a b)]
  by_cases l4 : a.Pages.length = b.Pages.length
  · by_cases l3 : a.Procs.length = b.Procs.length
    · by_cases l2 : a.Ports.length = b.Ports.length
      · by_cases l1 : a.Sems.length = b.Sems.length
        · have h4 := eqs_res (L := g_r10_Same_L4 a b) l4 (fun i x y hi hx hy => by
            simp only [g_r10_Same_L4, hi, hx, hy, decide_true, cond_true, Option.bind_some]
            by_cases e : x = y <;> simp [e]) (by simp [g_r10_Same_L4])
          have h3 := eqs_res (L := g_r10_Same_L3 a b) l3 (fun i x y hi hx hy => by
            simp only [g_r10_Same_L3, hi, hx, hy, decide_true, cond_true, Option.bind_some]
            by_cases e : x = y <;> simp [e]) (by simp [g_r10_Same_L3])
          have h2 := eqs_res (L := g_r10_Same_L2 a b) l2 (fun i x y hi hx hy => by
            simp only [g_r10_Same_L2, hi, hx, hy, decide_true, cond_true, Option.bind_some]
            by_cases e : x = y <;> simp [e]) (by simp [g_r10_Same_L2])
          have h1 := eqs_res (L := g_r10_Same_L1 a b) l1 (fun i x y hi hx hy => by
            simp only [g_r10_Same_L1, hi, hx, hy, decide_true, cond_true, Option.bind_some]
            by_cases e : x = y <;> simp [e]) (by simp [g_r10_Same_L1])
          simp only [g_r10_Same, l1, l2, l3, l4, h1, h2, h3, h4, Option.bind_some, decide_true, Bool.not_true, Bool.or_false, Bool.cond_eq_ite]
          by_cases e1 : a.Id = b.Id <;> by_cases e2 : a.Mobile = b.Mobile <;> by_cases e3 : a.Events = b.Events <;> simp [e1, e2, e3]
          by_cases e4 : a.Pages = b.Pages
          · by_cases e5 : a.Procs = b.Procs
            · by_cases e6 : a.Ports = b.Ports
              · by_cases e7 : a.Sems = b.Sems <;> simp [e4, e5, e6, e7]
              · simp [e4, e5, e6]
            · simp [e4, e5]
          · simp [e4]
        · simp [g_r10_Same, l1, ne_len l1]
      · simp [g_r10_Same, l2, ne_len l2]
    · simp [g_r10_Same, l3, ne_len l3]
  · simp [g_r10_Same, l4, ne_len l4]
theorem equalF_Plan (a b : List GPlan) : g_slices_EqualFunc_Plan a b (fun x0 x1 => g_plan_Same x0 x1) = some (decide (a = b)) := by
  by_cases hl : a.length = b.length
  · have h := eqs_res (L := g_slices_EqualFunc_Plan_L1 a b (fun x0 x1 => g_plan_Same x0 x1)) hl (fun i x y hi hx hy => by
      simp only [g_slices_EqualFunc_Plan_L1, hi, hx, hy, decide_true, cond_true, Option.bind_some, plan_Same]
      by_cases e : x = y <;> simp [e]) (by simp [g_slices_EqualFunc_Plan_L1])
    simp only [g_slices_EqualFunc_Plan, hl, decide_true, Bool.not_true, cond_false, h, Option.bind_some]
    by_cases e : a = b <;> simp [e]
  · simp only [g_slices_EqualFunc_Plan, hl, decide_false, Bool.not_false, cond_true, ne_len hl]
theorem frame_Same (a b : GConfig) : g_frame_Same a b = some (decide (a = b)) := by
  rw [decide_iff (conf_ext a b)]
  simp only [g_frame_Same, equalF_Plan, equal_int, equal_Window, equal_Link, Option.bind_some, Bool.cond_eq_ite, decide_eq_true_eq]
  by_cases h1 : a.Ticks = b.Ticks <;> by_cases h2 : a.Tries = b.Tries <;> by_cases h3 : a.Parts = b.Parts <;> by_cases h4 : a.Homes = b.Homes <;> by_cases h5 : a.Windows = b.Windows <;> simp [h1, h2, h3, h4, h5]
theorem r14_Same (a b : GConfig) : g_r14_Same a b = some (decide (a = b)) := by
  rw [decide_iff (conf_ext a b)]
  by_cases l4 : a.Parts.length = b.Parts.length
  · by_cases l3 : a.Homes.length = b.Homes.length
    · by_cases l2 : a.Windows.length = b.Windows.length
      · by_cases l1 : a.Links.length = b.Links.length
        · have h4 := eqs_res (L := g_r14_Same_L4 a b) l4 (fun i x y hi hx hy => by
            simp only [g_r14_Same_L4, hi, hx, hy, decide_true, cond_true, Option.bind_some, r10_Same]
            by_cases e : x = y <;> simp [e]) (by simp [g_r14_Same_L4])
          have h3 := eqs_res (L := g_r14_Same_L3 a b) l3 (fun i x y hi hx hy => by
            simp only [g_r14_Same_L3, hi, hx, hy, decide_true, cond_true, Option.bind_some]
            by_cases e : x = y <;> simp [e]) (by simp [g_r14_Same_L3])
          have h2 := eqs_res (L := g_r14_Same_L2 a b) l2 (fun i x y hi hx hy => by
            simp only [g_r14_Same_L2, hi, hx, hy, decide_true, cond_true, Option.bind_some]
            by_cases e : x = y <;> simp [e]) (by simp [g_r14_Same_L2])
          have h1 := eqs_res (L := g_r14_Same_L1 a b) l1 (fun i x y hi hx hy => by
            simp only [g_r14_Same_L1, hi, hx, hy, decide_true, cond_true, Option.bind_some]
            by_cases e : x = y <;> simp [e]) (by simp [g_r14_Same_L1])
          simp only [g_r14_Same, l1, l2, l3, l4, h1, h2, h3, h4, Option.bind_some, decide_true, Bool.not_true, Bool.or_false, Bool.cond_eq_ite]
          by_cases e1 : a.Ticks = b.Ticks <;> by_cases e2 : a.Tries = b.Tries <;> simp [e1, e2]
          by_cases e4 : a.Parts = b.Parts
          · by_cases e5 : a.Homes = b.Homes
            · by_cases e6 : a.Windows = b.Windows
              · by_cases e7 : a.Links = b.Links <;> simp [e4, e5, e6, e7]
              · simp [e4, e5, e6]
            · simp [e4, e5]
          · simp [e4]
        · simp [g_r14_Same, l1, ne_len l1]
      · simp [g_r14_Same, l2, ne_len l2]
    · simp [g_r14_Same, l3, ne_len l3]
  · simp [g_r14_Same, l4, ne_len l4]
/-! ### The law -/
theorem law14_FrameChecks (x : GL14Case) (hC : okConf x.C) (hD : okConf x.D) : g_law14_FrameChecks x = some true := by
  have h := iter_list (L := g_law14_FrameChecks_L7 x) (l := [x.C, x.D]) (f := fun _ _ => none) (fun i c hi hc => by
    have hok : okConf c := by
      rcases List.mem_cons.1 (List.mem_of_getElem? hc) with rfl | hm
      · exact hC
      · rw [List.mem_singleton.1 hm]; exact hD
    have hi' : i < 2 := hi
    simp only [g_law14_FrameChecks_L7, g_law14_FrameChecks_J6, hi', hc, decide_true, cond_true, Option.bind_some, r14_Check, r14_Copy c hok, frame_Check, eR14, Bool.not_true, cond_false, nxt_none]) (by simp [g_law14_FrameChecks_L7])
  have hf : firstE (fun (_ : Nat) (_ : GConfig) => (none : Option Bool)) 0 [x.C, x.D] = none := rfl
  rw [hf] at h
  have hl : ([x.C, x.D] : List GConfig).length = 2 := rfl
  simp only [g_law14_FrameChecks, law14_fixed, h, fin, Option.bind_some, Bool.not_true, cond_false, r14_Copy x.C hC, r14_Copy x.D hD, frame_Same, r14_Same, beq_self_eq_true, cond_true, decide_true]
end Go.Proofs.YtjoihegnjjjdaaaDoor
